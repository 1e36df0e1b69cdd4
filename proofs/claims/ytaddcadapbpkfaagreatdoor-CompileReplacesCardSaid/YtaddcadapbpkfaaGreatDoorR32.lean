/-
 compile: the meaning of an expression.
-/
import Derived.Test.YtaddcadapbpkfaaGreatDoorR26
import Derived.Test.YtaddcadapbpkfaaGreatDoorR21
import Derived.Test.YtaddcadapbpkfaaGreatDoorR31
namespace Go.Proofs.YtaddcadapbpkfaaGreatDoor
open Go.RowKit Pln
theorem infoVal : (Tryz.prog.info? 60).map (fun i => (i.zero,i.size,i.bytes)) = some (some (.agg zero10),10,144) := by kernel_rfl
theorem make_vals (n : Nat) (hn : n <= 1000) : ∃ zz : Array Value,zz.size = n * 10 /\ ∀ W,(Instr.makeSlice 92 (.int .i64 (n : Int)) (.int .i64 (n : Int))).run Tryz.prog W = .ok (.slice (some ⟨W.heap.size,0,none⟩) n n) (W.alloc (.cells zz 60)) := by
 obtain ⟨i0,hi,hz0,hz1,hz2⟩ := info_parts infoVal
 refine ⟨madeCells (Value.agg zero10).cells (n * i0.size),by rw [size_madeCells,hz1],fun W => ?_⟩
 have hb : (i0.bytes : Int) * (n : Int) <= 281474976710656 := by rw [hz2];omega
 have hr := run_make (P := Tryz.prog) W 92 60 i0 _ Tryz.underlying92 hi hz0 .i64 .i64 n n (by omega) (by omega) hb (by omega)
 simp only [Int.toNat_natCast] at hr
 exact hr
theorem there_new (w : World) (zz : Array Value) (t : TypeId) : (w.alloc (.cells zz t)).there w.heap.size 0 zz.size := fun j hj => by
 have hh := heap_alloc_new w (.cells zz t)
 refine ⟨?_,?_⟩
 . rw [cell_of_row _ _ (0 + j) _ _ _ hh]
   simp [hj]
 . unfold World.frozen?
   rw [hh]
   simp
theorem index_str (ks : List UInt8) (i : Nat) (kd : UInt8) (h : ks[i]? = some kd) (W : World) : (Instr.index 9 (.string ⟨ks.toArray⟩) (.int .i64 (i : Int))).run Tryz.prog W = .ok (.int .u8 kd.toNat) W := by
 have hi : i < ks.length := (List.getElem?_eq_some_iff.1 h).1
 have hk : ks[i] = kd := (List.getElem?_eq_some_iff.1 h).2
 have k0 : (0 : Int) <= (i : Int) := by omega
 have k2 : (i : Int) < (((⟨ks.toArray⟩ : ByteArray).size : Nat) : Int) := by
  have h1 : (⟨ks.toArray⟩ : ByteArray).size = ks.length := by rw [<- qeB]
  omega
 unfold Instr.index
 go_simp
 rw [<- hk]
 rfl
def RowCt (nm ks : List UInt8) (vs : List VM) (r : Res) : Prop :=
 ∀ (w : World) (F : Nat -> Prop) (g : Nat) (v1 v2 : Value),RowIs w nm ks v1 v2 -> ValsAt w F g vs.length vs ->
  ∃ (f b : Nat),v1 = .func (.func f) #[] #[.pointer (some ⟨b,0,none⟩)] /\ (∀ (xs : Array Value) (w : World),(callFunc f xs).run Tryz.prog w = .ok (.enter f xs) w) /\ Calls Tryz.prog f #[.slice (some ⟨g,0,none⟩) vs.length vs.length,.pointer (some ⟨b,0,none⟩)] w (MeanPost w F r)
mutual
def SupE (S : Sem) : E -> Bool -> Prop
 | .mk k nm _ _ xs,isF => ∀ ks,rowM k nm xs.length isF = .ok ks -> SupL S xs ks /\ ∀ vs,meanL S xs ks = .ok vs -> RowCt nm ks vs (S nm vs)
def SupL (S : Sem) : List E -> List UInt8 -> Prop
 | [],_ => True
 | _ :: _,[] => True
 | x :: r,kd :: ks => ((kd = 70 \/ kd = 67) -> SupE S x (decide (kd = 70))) /\ SupL S r ks
end
theorem SupL.at_ {S : Sem} : ∀ {xs : List E} {ks : List UInt8} {i : Nat} {x : E} {kd : UInt8},SupL S xs ks -> xs[i]? = some x -> ks[i]? = some kd -> (kd = 70 \/ kd = 67) -> SupE S x (decide (kd = 70))
 | [],ks,i,x,kd,_,hx,_,_ => by simp at hx
 | y :: r,[],i,x,kd,_,_,hk,_ => by simp at hk
 | y :: r,k0 :: ks,0,x,kd,h,hx,hk,hc => by
   simp at hx hk
   subst hx hk
   unfold SupL at h
   exact h.1 hc
 | y :: r,k0 :: ks,i + 1,x,kd,h,hx,hk,hc => by
   unfold SupL at h
   exact SupL.at_ h.2 (by simpa using hx) (by simpa using hk) hc
theorem argsK_small {nm a : List UInt8} (h : argsK nm = some a) : a.length <= 5 := by
 unfold argsK at h
 obtain ⟨d,hd,rfl⟩ := Option.map_eq_some_iff.1 h
 have hall : ∀ d ∈ rowT,d.a.data.toList.length <= 5 := by decide +kernel
 exact hall d (List.mem_of_find?_eq_some hd)
theorem rowM_len {k : Int} {nm : List UInt8} {n : Nat} {isF : Bool} {ks : List UInt8} (h : rowM k nm n isF = .ok ks) : ks.length = n /\ n <= 5 := by
 unfold rowM at h
 split at h
 . cases h
 . split at h
   . split at h
     . split at h
       . split at h
         . injection h with h
           subst h
           rename_i h1
           subst h1
           decide
         . split at h
           . injection h with h
             subst h
             rename_i h1
             subst h1
             decide
           . cases h
       . cases h
     . split at h
       . cases h
       . rename_i a ha
         split at h
         . cases h
         . split at h
           . injection h with h
             subst h
             rename_i h1
             subst h1
             exact ⟨rfl,argsK_small ha⟩
           . cases h
   . cases h
theorem resIs_more {w1 : World} {F F' : Nat -> Prop} {r : Res} {k : Int} {cs : List Value} {b0 : Nat} (h : ResIs w1 F r k cs) (hF : ∀ b,F b -> F' b /\ b ≠ b0) (c' : Array Value) : ResIs (w1.setRow b0 c') F' r k cs := by
 cases r with
 | error k' => exact h
 | ok v => exact ⟨h.1,h.2.mono fun b hb _ => ⟨(hF b hb).1,setRow_other w1 b0 b c' (hF b hb).2⟩⟩
section
variable {P : Program} {S : World -> Prop} {K : Act -> World -> Prop} {o : Oper} {r : List (Nat × Oper)} {a : Act} {w : World}
theorem qfC (hg : o.guard = none) (ty : TypeId) (x y : Operand) (ho : o.op = .store ty x y)
 (b off : Nat) (cs : Array Value) (hx : a.eval x = .pointer (some ⟨b,off,none⟩)) (hy : a.eval y = .agg cs) (ht : w.there b off cs.size)
 (hi : (P.info? ty).map (·.size) = some cs.size) (h1 : cs.all (·.oneCell') = true)
 (h : wpMixF P S K r (a.put o.dst undef) (w.setCells b off cs.toList)) : wpMixF P S K ((3,o) :: r) a w :=
 mixf_store hg (by
  unfold execOp
  simp only [ho,hx,hy,Instr.storeAt,Instr.sureAddr,Sem.run_bind,Sem.run_pure,Result.andThen_ok,run_storeVar_mid w b off ty cs ht hi h1]) h
end
theorem resIs_more' {w1 : World} {F F' : Nat -> Prop} {r : Res} {k : Int} {cs : List Value} (h : ResIs w1 F r k cs) (hF : ∀ b,F b -> F' b) : ResIs w1 F' r k cs := by
 cases r with
 | error k' => exact h
 | ok v => exact ⟨h.1,h.2.more fun b hb _ => hF b hb⟩
def LStM (a w : World) : Prop := Below a.heap.size a w
structure MSt (S : Sem) (B : Nat) (w W2 : World) (gb : Nat) (xs : List E) (ks : List UInt8) (i : Nat) (vs : List VM) (wr : World) : Prop where
 below : Below W2.heap.size W2 wr
 vals : ValsAt wr (fun b => b < B \/ gb < b) gb xs.length vs
 upto : Upto S xs ks i vs
def RelMn (S : Sem) (B : Nat) (w W2 : World) (gb : Nat) (xs : List E) (ks : List UInt8) (v31 : Value) (g : Nat) (wr : World) : Prop :=
 ∃ (i : Nat) (vs : List VM),i + g = xs.length /\ v31 = .int .i64 i /\ MSt S B w W2 gb xs ks i vs wr
set_option maxHeartbeats 8000000 in
set_option maxRecDepth 100000 in
theorem mean_c (S : Sem) : ∀ (x : E) (isF : Bool) (cs : List Value) (tb B : Nat) (w : World),SupE S x isF -> ExprC w (· < B) x cs -> B <= w.heap.size -> Tb w tb (inBs (bas (upN 4))) ->
 Calls Tryz.prog 32 #[.agg #[.map (some tb)],.agg cs.toArray,.bool isF] w (MeanPost w (· < B) (meanM S x isF)) := by
 refine qaT ?_
 intro k nm n ls xs ih isF cs tb B w hsup h hB hT
 unfold ExprC at h
 obtain ⟨la,lc,aa,ac,rfl,hli,ha⟩ := h
 have HA : Hid (ArgsAt w (· < B) aa xs) := ha
 have HT := Lib.hid hT
 have HSUP := Lib.hid hsup
 have HIH : Hid (∀ (i : Nat) (h : i < xs.length) (isF : Bool) (cs : List Value) (w : World),SupE S xs[i] isF -> ExprC w (· < B) xs[i] cs -> B <= w.heap.size -> Tb w tb (inBs (bas (upN 4))) -> Calls Tryz.prog 32 #[.agg #[.map (some tb)],.agg cs.toArray,.bool isF] w (MeanPost w (· < B) (meanM S xs[i] isF))) :=
  fun i hi isF cs w h1 h2 h3 h4 => ih _ (List.getElem_mem hi) isF cs tb B w h1 h2 h3 h4
 have HME : Hid (meanM S (.mk k nm n ls xs) isF = match rowM k nm xs.length isF with
  | .error e => .error e
  | .ok ks => match meanL S xs ks with
    | .error e => .error e
    | .ok vs => S nm vs) := by
  show _ = _
  conv => lhs;unfold meanM
  rfl
 clear ih ha hT hsup hli
 have HB : Hid (Bx w [([.map (some tb)],71),([.int .i64 k,.string ⟨nm.toArray⟩,.int .i64 n,.slice la ls.length lc,.slice aa xs.length ac],25),(zero10.toList,60)] (((w.alloc (.cells #[.map (some tb)] 71)).alloc (.cells #[.int .i64 k,.string ⟨nm.toArray⟩,.int .i64 n,.slice la ls.length lc,.slice aa xs.length ac] 25)).alloc (.cells #[.int .i64 0,.int .i64 0,.slice none 0 0,.int .i64 0,.int .i64 0,.slice none 0 0,.int .i64 0,.slice none 0 0,.int .i64 0,.slice none 0 0] 60))) := bx3 w _ _ _ _ _ _
 have HWL : Hid ((((w.alloc (.cells #[.map (some tb)] 71)).alloc (.cells #[.int .i64 k,.string ⟨nm.toArray⟩,.int .i64 n,.slice la ls.length lc,.slice aa xs.length ac] 25)).alloc (.cells #[.int .i64 0,.int .i64 0,.slice none 0 0,.int .i64 0,.int .i64 0,.slice none 0 0,.int .i64 0,.slice none 0 0,.int .i64 0,.slice none 0 0] 60)).heap.size = w.heap.size + 3) := by show _ = _;simp
 go_enter Tryz.func32,Tryz.ntmps32
 go_upto_region 1 with fail
 generalize ((w.alloc (.cells #[.map (some tb)] 71)).alloc (.cells #[.int .i64 k,.string ⟨nm.toArray⟩,.int .i64 n,.slice la ls.length lc,.slice aa xs.length ac] 25)).alloc (.cells #[.int .i64 0,.int .i64 0,.slice none 0 0,.int .i64 0,.int .i64 0,.slice none 0 0,.int .i64 0,.slice none 0 0,.int .i64 0,.slice none 0 0] 60) = W at *
 have HMR : Hid (W.rangeAt w.heap.size 0 [.map (some tb)]) := qaB (HB.out.at_ (i := 0) rfl)
 have HXR : Hid (W.rangeAt (w.heap.size + 1) 0 [.int .i64 k,.string ⟨nm.toArray⟩,.int .i64 n,.slice la ls.length lc,.slice aa xs.length ac]) := qaB (HB.out.at_ (i := 1) rfl)
 go_wp2_with (first
  | (refine wpList_load_mid rfl 71 (.tmp 3) rfl w.heap.size 0 rfl [.map (some tb)] _ HMR.out Tryz.underlying71 rfl compSize ?_)
  | (refine wpList_load_mid rfl 25 (.tmp 4) rfl (w.heap.size + 1) 0 rfl [.int .i64 k,.string ⟨nm.toArray⟩,.int .i64 n,.slice la ls.length lc,.slice aa xs.length ac] _ HXR.out Tryz.underlying25 rfl exprSize ?_))
 refine (row_c tb isF k nm n la ls.length lc aa xs.length ac W (HT.out.keep HB.out.below)).mono ?_
 rintro e w1 ⟨⟨v0,v1,v2,ke,rfl,o0,o1,o2,hres⟩,hb1⟩
 have HK2 : Hid (W.heap[w.heap.size + 1 + 1]? = some (.cells #[.int .i64 0,.int .i64 0,.slice none 0 0,.int .i64 0,.int .i64 0,.slice none 0 0,.int .i64 0,.slice none 0 0,.int .i64 0,.slice none 0 0] 60 (0,0))) := HB.out.at_ (i := 2) rfl
 have HBA : Hid (Below w1.heap.size w1 (w1.alloc (.cells #[v0,v1,v2] 90))) := (Below.refl _ _).alloc (Nat.le_refl _) _
 have HB2 : Hid (Below W.heap.size W (w1.alloc (.cells #[v0,v1,v2] 90))) := hb1.trans (HBA.out.mono hb1.size)
 have hone : (#[v0,v1,v2].all fun v : Value => v.oneCell') = true := by simp [o0,o1,o2]
 have HCR : Hid ((w1.alloc (.cells #[v0,v1,v2] 90)).heap[w1.heap.size]? = some (.cells #[v0,v1,v2] 90 (0,0))) := heap_alloc_new _ _
 have HS1 : Hid ((w1.alloc (.cells #[v0,v1,v2] 90)).heap.size = w1.heap.size + 1) := by show _ = _;simp
 have hw1 : W.heap.size <= w1.heap.size := hb1.size
 have HK22 : Hid ((w1.alloc (.cells #[v0,v1,v2] 90)).heap[w.heap.size + 1 + 1]? = some (.cells #[.int .i64 0,.int .i64 0,.slice none 0 0,.int .i64 0,.int .i64 0,.slice none 0 0,.int .i64 0,.slice none 0 0,.int .i64 0,.slice none 0 0] 60 (0,0))) := (HB2.out.block _ (by have := HWL.out;omega)).trans HK2.out
 have HBW2 : Hid (Below w.heap.size w (w1.alloc (.cells #[v0,v1,v2] 90))) := HB.out.below.trans (HB2.out.mono HB.out.below.size)
 cases hrm : rowM k nm xs.length isF with
 | error e =>
   rw [hrm] at hres HME
   obtain ⟨rfl,hne⟩ := hres
   have HMM : Hid (meanM S (.mk k nm n ls xs) isF = .error ke) := HME.out
   have hn0 : ((ke : Int) != 0) = true := by simpa using hne
   have HNE := Lib.hid hne
   clear HME hrm hb1 hne HSUP HIH HA HMR HXR o0 o1 o2 HBA
   go_wp2_with (first
    | (refine qaC rfl 90 (.tmp 8) (.tmp 18) rfl w1 _ #[v0,v1,v2] rfl rfl callSize rfl hone ?_)
    | (refine qaA rfl 60 (.tmp 6) (.tmp 22) rfl _ (w.heap.size + 1 + 1) 60 #[.int .i64 0,.int .i64 0,.slice none 0 0,.int .i64 0,.int .i64 0,.slice none 0 0,.int .i64 0,.slice none 0 0,.int .i64 0,.slice none 0 0] #[.int .i64 0,.int .i64 0,.slice none 0 0,.int .i64 0,.int .i64 0,.slice none 0 0,.int .i64 0,.slice none 0 0,.int .i64 0,.slice none 0 0] rfl rfl HK22.out valueSize rfl (by simp [Value.oneCell']) ?_))
   refine bodyPost_ret (qaE (P := Tryz.prog) rfl _ _ (w.heap.size + 1 + 1) 60 #[.int .i64 0,.int .i64 0,.slice none 0 0,.int .i64 0,.int .i64 0,.slice none 0 0,.int .i64 0,.slice none 0 0,.int .i64 0,.slice none 0 0] (0,0) _ _ rfl rfl (qaF _ (w.heap.size + 1 + 1) _ _ _ HK22.out) Tryz.underlying60 rfl valueSize) rfl ?_
   rw [HMM.out]
   exact ⟨⟨#[.int .i64 0,.int .i64 0,.slice none 0 0,.int .i64 0,.int .i64 0,.slice none 0 0,.int .i64 0,.slice none 0 0,.int .i64 0,.slice none 0 0].toList,ke,rfl,rfl,qbQ rfl,rfl,HNE.out⟩,qaD HBW2.out (by omega) _⟩
 | ok ks =>
   rw [hrm] at hres HME
   obtain ⟨rfl,rfl,hri⟩ := hres
   have HRI : Hid (RowIs (w1.alloc (.cells #[.string ⟨ks.toArray⟩,v1,v2] 90)) nm ks v1 v2) := hri.keep HBA.out
   have hsu := HSUP.out
   unfold SupE at hsu
   obtain ⟨hsl,hct⟩ := hsu ks hrm
   obtain ⟨hkl,hx5⟩ := rowM_len hrm
   have HSL := Lib.hid hsl
   have HCT := Lib.hid hct
   have HKL := Lib.hid hkl
   have HM2 : Hid (meanM S (.mk k nm n ls xs) isF = match meanL S xs ks with
    | .error e => .error e
    | .ok vs => S nm vs) := HME.out
   obtain ⟨zz,hzz,hmk⟩ := make_vals xs.length (by omega)
   have HZZ := Lib.hid hzz
   have hac : (w1.alloc (.cells #[.string ⟨ks.toArray⟩,v1,v2] 90)).cell? ⟨w.heap.size + 1,4,none⟩ = some (.slice aa xs.length ac) := (HB2.out.cell (p := ⟨w.heap.size + 1,4,none⟩) (by show w.heap.size + 1 < _;have := HWL.out;omega)).trans (HXR.out 4 _ rfl)
   clear HME hrm hb1 hri hsl hct hkl hsu HSUP HMR HXR o0 o1 o2 HBA hzz
   have hac2 : ((w1.alloc (.cells #[.string ⟨ks.toArray⟩,v1,v2] 90)).alloc (.cells zz 60)).cell? ⟨w.heap.size + 1,4,none⟩ = some (.slice aa xs.length ac) := (World.cell?_alloc_lt _ _ _ (by show w.heap.size + 1 < _;have := HS1.out;have := HWL.out;omega)).trans hac
   have HVA : Hid (ValsAt ((w1.alloc (.cells #[.string ⟨ks.toArray⟩,v1,v2] 90)).alloc (.cells zz 60)) (fun b => b < B \/ (w1.alloc (.cells #[.string ⟨ks.toArray⟩,v1,v2] 90)).heap.size < b) (w1.alloc (.cells #[.string ⟨ks.toArray⟩,v1,v2] 90)).heap.size xs.length []) := by
    refine ⟨by simp,?_,?_,Nat.zero_le _,fun j v hj => by simp at hj⟩
    . have := HS1.out
      have := HWL.out
      intro h
      rcases h with h | h <;> omega
    . have := there_new (w1.alloc (.cells #[.string ⟨ks.toArray⟩,v1,v2] 90)) zz 60
      rw [HZZ.out] at this
      exact this
   have HBV : Hid (Below (w1.alloc (.cells #[.string ⟨ks.toArray⟩,v1,v2] 90)).heap.size (w1.alloc (.cells #[.string ⟨ks.toArray⟩,v1,v2] 90)) ((w1.alloc (.cells #[.string ⟨ks.toArray⟩,v1,v2] 90)).alloc (.cells zz 60))) := (Below.refl _ _).alloc (Nat.le_refl _) _
   have hb8 : w1.heap.size < w1.heap.size + 1 := Nat.lt_succ_self _
   go_wp2_with (refine qaC rfl 90 (.tmp 8) (.tmp 18) rfl w1 _ #[.string ⟨ks.toArray⟩,v1,v2] rfl rfl callSize rfl hone ?_)
   clear hac hac2 hmk hone
   generalize (w1.alloc (.cells #[.string ⟨ks.toArray⟩,v1,v2] 90)).alloc (.cells zz 60) = W3 at *
   generalize (w1.alloc (.cells #[.string ⟨ks.toArray⟩,v1,v2] 90)) = W2 at *
   generalize w1.heap.size + 1 = gb at *
   generalize w1.heap.size = b8 at *
   have HVA3 : Hid (ValsAt W3 (fun b => b < B \/ gb < b) gb xs.length []) := by
    have := HVA.out
    rw [HS1.out] at this
    exact this
   clear HVA
   go_loopg [31] xs.length (fun g v wr => RelMn S B w W2 gb xs ks v g wr)
   case atStart => exact ⟨0,[],by omega,rfl,⟨HBV.out,HVA3.out,Upto.zero _ _⟩⟩
   case round =>
    obtain ⟨i,vs,hig,rfl,hst⟩ := hrel
    have HST := Lib.hid hst
    have HWR : Hid (Below w.heap.size w wr) := HBW2.out.trans (hst.below.mono HBW2.out.size)
    clear hst HVA3 HBV
    by_cases hi : i < xs.length
    . obtain ⟨b,o,haa,hbB,hxs⟩ := HA.out (by omega)
      obtain ⟨cs5,hrg,hec⟩ := ExprsC.at_ xs o i xs[i] hxs (List.getElem?_eq_getElem hi)
      have hrgw : wr.rangeAt b (o + i * 5) cs5 := qaJ hrg (HWR.out.block b (by omega))
      have hecw : ExprC wr (· < B) xs[i] cs5 := ExprC.mono (fun b hb _ => ⟨hb,HWR.out.block b (Nat.lt_of_lt_of_le hb hB)⟩) _ _ hec
      obtain ⟨k',nm',n',ls',xs',hxe⟩ : ∃ k' nm' n' ls' xs',xs[i] = E.mk k' nm' n' ls' xs' := by
       cases hx : xs[i] with
       | mk a b c d e => exact ⟨a,b,c,d,e,rfl⟩
      obtain ⟨kd,hkd⟩ : ∃ kd,ks[i]? = some kd := ⟨ks[i]'(by have := HKL.out;omega),List.getElem?_eq_getElem _⟩
      have hec2 := hecw
      rw [hxe] at hec2
      unfold ExprC at hec2
      obtain ⟨la',lc',aa',ac',rfl,hli',_⟩ := hec2
      have HRG := Lib.hid hrgw
      have HBX : Hid (Below wr.heap.size wr (wr.alloc (.cells #[.int .i64 k',.string ⟨nm'.toArray⟩,.int .i64 n',.slice la' ls'.length lc',.slice aa' xs'.length ac'] 25))) := (Below.refl _ _).alloc (Nat.le_refl _) _
      have HWX : Hid (Below w.heap.size w (wr.alloc (.cells #[.int .i64 k',.string ⟨nm'.toArray⟩,.int .i64 n',.slice la' ls'.length lc',.slice aa' xs'.length ac'] 25))) := HWR.out.trans (HBX.out.mono HWR.out.size)
      have HXN : Hid ((wr.alloc (.cells #[.int .i64 k',.string ⟨nm'.toArray⟩,.int .i64 n',.slice la' ls'.length lc',.slice aa' xs'.length ac'] 25)).rangeAt wr.heap.size 0 [.int .i64 k',.string ⟨nm'.toArray⟩,.int .i64 n',.slice la' ls'.length lc',.slice aa' xs'.length ac']) := qaB (heap_alloc_new _ _)
      have HST1 : Hid (MSt S B w W2 gb xs ks i vs (wr.alloc (.cells #[.int .i64 k',.string ⟨nm'.toArray⟩,.int .i64 n',.slice la' ls'.length lc',.slice aa' xs'.length ac'] 25))) := ⟨HST.out.below.trans (HBX.out.mono HST.out.below.size),HST.out.vals.keep HBX.out,HST.out.upto⟩
      have hsx : wr.heap.size < (wr.alloc (.cells #[.int .i64 k',.string ⟨nm'.toArray⟩,.int .i64 n',.slice la' ls'.length lc',.slice aa' xs'.length ac'] 25)).heap.size := by simp
      have HARG : Hid (∀ W,Below (wr.alloc (.cells #[.int .i64 k',.string ⟨nm'.toArray⟩,.int .i64 n',.slice la' ls'.length lc',.slice aa' xs'.length ac'] 25)).heap.size (wr.alloc (.cells #[.int .i64 k',.string ⟨nm'.toArray⟩,.int .i64 n',.slice la' ls'.length lc',.slice aa' xs'.length ac'] 25)) W -> Calls Tryz.prog 55 #[.agg #[.map (some tb)],.agg #[.int .i64 k',.string ⟨nm'.toArray⟩,.int .i64 n',.slice la' ls'.length lc',.slice aa' xs'.length ac'],.int .u8 kd.toNat] W (MeanPost W (· < B) (argM S xs[i] kd))) := fun W hW => by
       have hwW : Below w.heap.size w W := HWX.out.trans (hW.mono HWX.out.size)
       have hbB : B <= W.heap.size := Nat.le_trans hB hwW.size
       rw [hxe]
       refine argument_c S tb B k' nm' n' ls' xs' la' lc' aa' ac' kd W (hli'.mono fun b hb _ => ⟨hb,by
        have h1 := hwW.block b (Nat.lt_of_lt_of_le hb hB)
        have h2 := HWR.out.block b (Nat.lt_of_lt_of_le hb hB)
        exact h1.trans h2.symm⟩) hbB ?_
       intro hk W' hW'
       have hwW' : Below w.heap.size w W' := hwW.trans (hW'.mono hwW.size)
       have := HIH.out i hi (decide (kd = 70)) [.int .i64 k',.string ⟨nm'.toArray⟩,.int .i64 n',.slice la' ls'.length lc',.slice aa' xs'.length ac'] W' (HSL.out.at_ (List.getElem?_eq_getElem hi) hkd hk) (ExprC.mono (fun b hb _ => ⟨hb,(hwW'.block b (Nat.lt_of_lt_of_le hb hB)).trans (HWR.out.block b (Nat.lt_of_lt_of_le hb hB)).symm⟩) _ _ hecw) (Nat.le_trans hB hwW'.size) (HT.out.keep hwW')
       rw [hxe] at this
       exact this
      have hac3 : True := trivial
      have hb8c : (wr.alloc (.cells #[.int .i64 k',.string ⟨nm'.toArray⟩,.int .i64 n',.slice la' ls'.length lc',.slice aa' xs'.length ac'] 25)).cell? ⟨b8,0,none⟩ = some (.string ⟨ks.toArray⟩) := by
       have h1 := cell_of_row _ _ 0 _ _ _ HCR.out
       exact (HST1.out.below.cell (p := ⟨b8,0,none⟩) (by show b8 < _;have := HS1.out;omega)).trans h1
      have HB8 := Lib.hid hb8c
      have HM0 : Hid ((wr.alloc (.cells #[.int .i64 k',.string ⟨nm'.toArray⟩,.int .i64 n',.slice la' ls'.length lc',.slice aa' xs'.length ac'] 25)).rangeAt w.heap.size 0 [.map (some tb)]) := by
       have h1 : W.rangeAt w.heap.size 0 [.map (some tb)] := qaB (HB.out.at_ (i := 0) rfl)
       have h2 := qaJ h1 (HB2.out.block _ (by have := HWL.out;omega))
       exact qaJ h2 (HST1.out.below.block _ (by have := HS1.out;have := HWL.out;omega))
      have HKR : Hid ((wr.alloc (.cells #[.int .i64 k',.string ⟨nm'.toArray⟩,.int .i64 n',.slice la' ls'.length lc',.slice aa' xs'.length ac'] 25)).heap[w.heap.size + 1 + 1]? = some (.cells #[.int .i64 0,.int .i64 0,.slice none 0 0,.int .i64 0,.int .i64 0,.slice none 0 0,.int .i64 0,.slice none 0 0,.int .i64 0,.slice none 0 0] 60 (0,0))) := (HST1.out.below.block _ (by have := HS1.out;have := HWL.out;omega)).trans HK22.out
      have HKD := Lib.hid hkd
      have HXE := Lib.hid hxe
      have HAA : Hid (aa = some ⟨b,o,none⟩) := haa
      have HHI := Lib.hid hi
      have k0 : (0 : Int) <= (i : Int) := by omega
      have k1 : (i : Int) < (xs.length : Int) := by omega
      have k2 : (i : Int) < (((⟨ks.toArray⟩ : ByteArray).size : Nat) : Int) := by
       have h1 : (⟨ks.toArray⟩ : ByteArray).size = ks.length := by rw [<- qeB]
       have := HKL.out
       omega
      subst haa
      clear hxs hrg hec hrgw hecw hli' hb8c hkd hxe hac3
      go_upto_region 8 with (first
       | (refine wpList_load_mid rfl 25 (.tmp 34) rfl b (o + i * 5) rfl [.int .i64 k',.string ⟨nm'.toArray⟩,.int .i64 n',.slice la' ls'.length lc',.slice aa' xs'.length ac'] _ HRG.out Tryz.underlying25 rfl exprSize ?_)
       | (refine qaC rfl 25 (.tmp 12) (.tmp 35) rfl wr _ #[.int .i64 k',.string ⟨nm'.toArray⟩,.int .i64 n',.slice la' ls'.length lc',.slice aa' xs'.length ac'] rfl rfl exprSize rfl (by simp [Value.oneCell']) ?_))
      generalize (wr.alloc (.cells #[.int .i64 k',.string ⟨nm'.toArray⟩,.int .i64 n',.slice la' ls'.length lc',.slice aa' xs'.length ac'] 25)) = Wa at *
      have HCV : Hid (∀ W,LStM Wa W -> W.cell? ⟨b8,0,none⟩ = some (.string ⟨ks.toArray⟩)) := fun W hW => (Below.cell hW (p := ⟨b8,0,none⟩) (World.block_lt_of_cell? Wa _ HB8.out)).trans HB8.out
      have HRM : Hid (∀ W,LStM Wa W -> W.rangeAt w.heap.size 0 [.map (some tb)]) := fun W hW => qaJ HM0.out (hW.block _ (World.block_lt_of_cell? Wa _ (HM0.out 0 _ rfl)))
      have HRX : Hid (∀ W,LStM Wa W -> W.rangeAt wr.heap.size 0 [.int .i64 k',.string ⟨nm'.toArray⟩,.int .i64 n',.slice la' ls'.length lc',.slice aa' xs'.length ac']) := fun W hW => qaJ HXN.out (hW.block _ hsx)
      have HIX : Hid (∀ W : World,(Instr.index 9 (.string ⟨ks.toArray⟩) (.int .i64 (i : Int))).run Tryz.prog W = .ok (.int .u8 kd.toNat) W) := fun W => index_str ks i kd HKD.out W
      have hix := HIX.out
      have HS0 : Hid (LStM Wa Wa.drew) := (Below.refl _ _).drew
      refine qaZ 14 13 (LStM Wa) [(0,0),(0,1),(0,2),(0,3),(0,4),(0,5),(0,6),(0,7),(2,8),(0,9),(0,10),(1,11),(1,12),(3,13)] default (by kernel_rfl) (by kernel_rfl) (fun _ _ d _ _ h => by cases d <;> exact h) HS0.out ?_
      simp only [List.map_cons,List.map_nil,List.getD_cons_zero,List.getD_cons_succ]
      iterate 2
       apply qbH rfl
       . intro W hW
         go_simp
         rfl
       go_simp
      refine qaP rfl 71 (.tmp 3) rfl w.heap.size 0 rfl [.map (some tb)] _ HRM.out Tryz.underlying71 rfl compSize ?_
      go_simp
      refine qaP rfl 25 (.tmp 12) rfl wr.heap.size 0 rfl [.int .i64 k',.string ⟨nm'.toArray⟩,.int .i64 n',.slice la' ls'.length lc',.slice aa' xs'.length ac'] _ HRX.out Tryz.underlying25 rfl exprSize ?_
      go_simp
      iterate 4
       apply qbH rfl
       . intro W hW
         have z0 := HCV.out W hW
         go_simp
         try rfl
       go_simp
      apply qbF rfl
      . go_simp
        exact ⟨rfl,rfl⟩
      refine (HARG.out _ HS0.out).mono ?_
      rintro e w2 ⟨⟨cs,k2,rfl,hten,hone2,hres⟩,hb2⟩
      have HSW2 : Hid (LStM Wa w2) := Below.trans HS0.out (hb2.mono (Below.size HS0.out))
      refine ⟨_,rfl,HSW2.out,?_⟩
      go_simp
      iterate 2
       apply qbH rfl
       . intro W hW
         go_simp
         rfl
       go_simp
      iterate 2
       apply qaQ rfl
       . intro W
         go_simp
         rfl
       go_simp
      have hgw2 : gb < Wa.heap.size := HST1.out.vals.lt
      have HST2 : Hid (MSt S B w W2 gb xs ks i vs w2) := ⟨HST1.out.below.trans (Below.mono HSW2.out HST1.out.below.size),HST1.out.vals.keep HSW2.out,HST1.out.upto⟩
      have HRES : Hid (ResIs w2 (fun b => b < B \/ gb < b) (argM S xs[i] kd) k2 cs) := resIs_more' hres fun b hb => hb.imp id (fun h => by have : Wa.heap.size <= b := h;omega)
      have HTEN : Hid (cs.toArray.size = 10) := by show _ = _;simpa using hten
      have HONE : Hid (cs.toArray.all (fun v => v.oneCell') = true) := by show _ = _;simpa using hone2
      have hvs : (Tryz.prog.info? 60).map (·.size) = some cs.toArray.size := by rw [HTEN.out];exact valueSize
      have HVS := Lib.hid hvs
      have HTH : Hid (w2.there gb (i * 10) cs.toArray.size) := by
       show World.there _ _ _ _
       rw [HTEN.out]
       intro j hj
       have := HST2.out.vals.there (i * 10 + j) (by have := HHI.out;omega)
       rw [Nat.zero_add] at this
       exact this
      have hvl : vs.length = i := HST.out.upto.1
      have HWW2 : Hid (Below w.heap.size w w2) := HBW2.out.trans (HST2.out.below.mono HBW2.out.size)
      have HK2W : Hid (w2.heap[w.heap.size + 1 + 1]? = some (.cells #[.int .i64 0,.int .i64 0,.slice none 0 0,.int .i64 0,.int .i64 0,.slice none 0 0,.int .i64 0,.slice none 0 0,.int .i64 0,.slice none 0 0] 60 (0,0))) := (Below.block HSW2.out _ (by have := HWX.out.size;have := HWL.out;have := HS1.out;omega)).trans HKR.out
      clear hb2 hres hten hone2 hvs hix HIX
      refine qfC rfl 60 (.tmp 48) (.tmp 46) rfl gb (i * 10) cs.toArray rfl rfl HTH.out HVS.out HONE.out ?_
      go_simp
      refine qbX ?_
      have hgl : w.heap.size + 1 + 1 < gb := by have := HWL.out;omega
      have HK5 : Hid ((w2.setCells gb (i * 10) cs).heap[w.heap.size + 1 + 1]? = some (.cells #[.int .i64 0,.int .i64 0,.slice none 0 0,.int .i64 0,.int .i64 0,.slice none 0 0,.int .i64 0,.slice none 0 0,.int .i64 0,.slice none 0 0] 60 (0,0))) := (qbE gb _ (by omega) _ _ _).trans HK2W.out
      have HB5 : Hid (Below w.heap.size w (w2.setCells gb (i * 10) cs)) := HWW2.out.trans (qbT _ gb (by omega) _ _ _)
      have HBS : Hid (Below W2.heap.size W2 (w2.setCells gb (i * 10) cs)) := HST2.out.below.trans (qbT _ gb (Nat.le_of_eq HS1.out) _ _ _)
      clear HK2W HWW2 HSW2 HS0 HRX HRM HCV HKR HM0 HB8 HARG HST1 HXN HWX HBX hsx
      cases hr : argM S xs[i] kd with
      | error ke =>
        have hres := HRES.out
        rw [hr] at hres
        obtain ⟨rfl,hne⟩ := hres
        have hn0 : ((k2 : Int) != 0) = true := by simpa using hne
        have HNE := Lib.hid hne
        have HER : Hid (meanM S (.mk k nm n ls xs) isF = .error k2) := by
         show _ = _
         rw [HM2.out,Upto.err HST2.out.upto (List.getElem?_eq_getElem HHI.out) HKD.out hr]
        clear HST2 HRES hr hne HTH HVS HONE HTEN
        generalize (w2.setCells gb (i * 10) cs) = W5 at *
        go_wp2_with (refine qaA rfl 60 (.tmp 6) (.tmp 51) rfl _ (w.heap.size + 1 + 1) 60 #[.int .i64 0,.int .i64 0,.slice none 0 0,.int .i64 0,.int .i64 0,.slice none 0 0,.int .i64 0,.slice none 0 0,.int .i64 0,.slice none 0 0] #[.int .i64 0,.int .i64 0,.slice none 0 0,.int .i64 0,.int .i64 0,.slice none 0 0,.int .i64 0,.slice none 0 0,.int .i64 0,.slice none 0 0] rfl rfl HK5.out valueSize rfl (by simp [Value.oneCell']) ?_)
        refine bodyPost_ret (qaE (P := Tryz.prog) rfl _ _ (w.heap.size + 1 + 1) 60 #[.int .i64 0,.int .i64 0,.slice none 0 0,.int .i64 0,.int .i64 0,.slice none 0 0,.int .i64 0,.slice none 0 0,.int .i64 0,.slice none 0 0] (0,0) _ _ rfl rfl (qaF _ (w.heap.size + 1 + 1) _ _ _ HK5.out) Tryz.underlying60 rfl valueSize) rfl ?_
        rw [HER.out]
        exact ⟨⟨#[.int .i64 0,.int .i64 0,.slice none 0 0,.int .i64 0,.int .i64 0,.slice none 0 0,.int .i64 0,.slice none 0 0,.int .i64 0,.slice none 0 0].toList,k2,rfl,rfl,qbQ rfl,rfl,HNE.out⟩,qaD HB5.out (by omega) _⟩
      | ok v =>
        have hres := HRES.out
        rw [hr] at hres
        obtain ⟨rfl,hv⟩ := hres
        have HV5 : Hid (ValsAt (w2.setCells gb (i * 10) cs) (fun b => b < B \/ gb < b) gb xs.length (vs ++ [v])) := by
         have h1 := HST2.out.vals.push (by have := HHI.out;omega) hv
         rw [hvl] at h1
         exact h1
        have HU5 : Hid (Upto S xs ks (i + 1) (vs ++ [v])) := HST2.out.upto.snoc (List.getElem?_eq_getElem HHI.out) HKD.out hr
        clear HST2 HRES hr hv HTH HVS HONE HTEN HST
        generalize (w2.setCells gb (i * 10) cs) = W5 at *
        go_wp2_with fail
        go_roundg (xs.length - (i + 1))
        case measure => omega
        case rel => exact ⟨i + 1,vs ++ [v],by omega,by go_num,⟨HBS.out,HV5.out,HU5.out⟩⟩
    . have hie : i = xs.length := by omega
      have hvl : vs.length = xs.length := by rw [HST.out.upto.1,hie]
      have hml : meanL S xs ks = .ok vs := Upto.all HKL.out.symm (by rw [<- hie];exact HST.out.upto)
      have HVW := Lib.hid HST.out.vals
      have hval : ValsAt wr (fun b => b < B \/ gb < b) gb vs.length vs := by rw [hvl];exact HST.out.vals
      obtain ⟨f,bb,hv1,hcf,hcall⟩ := HCT.out vs hml wr (fun b => b < B \/ gb < b) gb v1 v2 (HRI.out.keep (HST.out.below)) hval
      subst hv1
      rw [hvl] at hcall
      have HCALL := Lib.hid hcall
      have HME : Hid (meanM S (.mk k nm n ls xs) isF = S nm vs) := by
       show _ = _
       rw [HM2.out,hml]
      have hc8 : wr.cell? ⟨b8,1,none⟩ = some (.func (.func f) #[] #[.pointer (some ⟨bb,0,none⟩)]) :=
       (HST.out.below.cell (p := ⟨b8,1,none⟩) (by show b8 < _;have := HS1.out;omega)).trans (cell_of_row _ _ 1 _ _ _ HCR.out)
      have HKW : Hid (wr.heap[w.heap.size + 1 + 1]? = some (.cells #[.int .i64 0,.int .i64 0,.slice none 0 0,.int .i64 0,.int .i64 0,.slice none 0 0,.int .i64 0,.slice none 0 0,.int .i64 0,.slice none 0 0] 60 (0,0))) := (HST.out.below.block _ (by have := HWL.out;have := HS1.out;omega)).trans HK22.out
      have HGL : Hid (gb < wr.heap.size) := HST.out.vals.lt
      clear HST hcall hval HVW HCT HRI HSL HIH HKL HM2 hml HCR HK22 HK2 HB2
      go_wp2_with fail
      refine HCALL.out.mono ?_
      rintro e w2 ⟨⟨cs,k2,rfl,hten,hone2,hres⟩,hb2⟩
      have HRES : Hid (ResIs w2 (fun b => (b < B \/ gb < b) \/ wr.heap.size <= b) (S nm vs) k2 cs) := hres
      have HTEN : Hid (cs.toArray.size = 10) := by show _ = _;simpa using hten
      have HONE : Hid (cs.toArray.all (fun v => v.oneCell') = true) := by show _ = _;simpa using hone2
      have hvs : (Tryz.prog.info? 60).map (·.size) = some cs.toArray.size := by rw [HTEN.out];exact valueSize
      have HVS := Lib.hid hvs
      have HB2 := Lib.hid (HWR.out.trans (hb2.mono HWR.out.size))
      have HK22 := Lib.hid ((hb2.block _ (by have := HGL.out;have := HWL.out;omega)).trans HKW.out)
      clear hres hb2 hten hone2 hvs HCALL hc8 hcf HKW
      go_wp2_with (refine qaA rfl 60 (.tmp 6) (.tmp 58) rfl _ (w.heap.size + 1 + 1) 60 #[.int .i64 0,.int .i64 0,.slice none 0 0,.int .i64 0,.int .i64 0,.slice none 0 0,.int .i64 0,.slice none 0 0,.int .i64 0,.slice none 0 0] cs.toArray rfl rfl HK22.out HVS.out HTEN.out.symm HONE.out ?_)
      refine bodyPost_ret (qaE (P := Tryz.prog) rfl _ _ (w.heap.size + 1 + 1) 60 cs.toArray (0,0) _ _ rfl rfl (qaF w2 (w.heap.size + 1 + 1) _ _ _ HK22.out) Tryz.underlying60 rfl HVS.out) rfl ?_
      rw [HME.out]
      exact ⟨⟨cs,k2,rfl,by simpa using HTEN.out,by simpa using HONE.out,resIs_more HRES.out (fun b hb => by
       have := HWL.out
       have := HGL.out
       refine ⟨?_,?_⟩
       . rcases hb with (h | h) | h
         . exact .inl h
         . exact .inr (by omega)
         . exact .inr (by omega)
       . rcases hb with (h | h) | h <;> omega) _⟩,qaD HB2.out (by omega) _⟩
end Go.Proofs.YtaddcadapbpkfaaGreatDoor
