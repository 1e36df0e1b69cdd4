/-
 compile: the lower bound of an expression that means a code.
-/
import Derived.Test.YtaddcadapbpkfaaGreatDoorR33
namespace Go.Proofs.YtaddcadapbpkfaaGreatDoor
open Go.RowKit Pln
abbrev LSem := List UInt8 -> List VM -> List Int -> Int
def genLen : VM -> Nat
 | .cod _ _ _ _ rows => rows.length
 | _ => 0
def lowRes (r : Res) (l : Int) : Int := match r with
 | .ok v => if genLen v = 0 then -1 else l
 | .error _ => -1
mutual
def lowM (S : Sem) (L : LSem) : E -> Int
 | .mk _ nm _ _ xs => match argsK nm with
   | none => -1
   | some ks => match meanL S xs ks with
     | .error _ => -1
     | .ok vs => lowRes (S nm vs) (L nm vs (lowL S L xs ks))
def lowL (S : Sem) (L : LSem) : List E -> List UInt8 -> List Int
 | [],_ => []
 | _ :: _,[] => []
 | x :: r,kd :: ks => (if kd = 67 then lowM S L x else 0) :: lowL S L r ks
end
def RowLw (nm ks : List UInt8) (vs : List VM) (ds : List Int) (v : VM) (l : Int) : Prop :=
 ∀ (w : World) (F : Nat -> Prop) (g h : Nat) (v1 v2 : Value) (cs : List Value),RowIs w nm ks v1 v2 -> ValsAt w F g vs.length vs -> IntsAt w w.heap.size (some ⟨h,0,none⟩) ds -> ValC w F v cs ->
  ∃ f : Nat,v2 = .func (.func f) #[] #[] /\ (∀ (xs : Array Value) (w : World),(callFunc f xs).run Tryz.prog w = .ok (.enter f xs) w) /\
   Calls Tryz.prog f #[.slice (some ⟨g,0,none⟩) vs.length vs.length,.slice (some ⟨h,0,none⟩) ds.length ds.length,.agg ((cs.drop 3).take 5).toArray] w fun e w' => e = .returned (.int .i64 l) /\ Below w.heap.size w w'
mutual
def LowE (S : Sem) (L : LSem) : E -> Prop
 | .mk k nm _ _ xs => ∀ ks,rowM k nm xs.length false = .ok ks -> LowLs S L xs ks /\ ∀ vs v,meanL S xs ks = .ok vs -> S nm vs = .ok v -> genLen v ≠ 0 -> RowLw nm ks vs (lowL S L xs ks) v (L nm vs (lowL S L xs ks))
def LowLs (S : Sem) (L : LSem) : List E -> List UInt8 -> Prop
 | [],_ => True
 | _ :: _,[] => True
 | x :: r,kd :: ks => (kd = 67 -> LowE S L x) /\ LowLs S L r ks
end
section
variable {S : Sem} {L : LSem}
theorem LowLs.at_ : ∀ {xs : List E} {ks : List UInt8} {i : Nat} {x : E},LowLs S L xs ks -> xs[i]? = some x -> ks[i]? = some 67 -> LowE S L x
 | [],ks,i,x,_,hx,_ => by simp at hx
 | y :: r,[],i,x,_,_,hk => by simp at hk
 | y :: r,k0 :: ks,0,x,h,hx,hk => by
   simp at hx hk
   subst hx hk
   unfold LowLs at h
   exact h.1 rfl
 | y :: r,k0 :: ks,i + 1,x,h,hx,hk => by
   unfold LowLs at h
   exact LowLs.at_ h.2 (by simpa using hx) (by simpa using hk)
theorem lowL_len : ∀ {xs : List E} {ks : List UInt8},ks.length = xs.length -> (lowL S L xs ks).length = xs.length
 | [],ks,_ => by unfold lowL;rfl
 | x :: r,[],h => by simp at h
 | x :: r,kd :: ks,h => by
   unfold lowL
   simp only [List.length_cons]
   rw [lowL_len (by simpa using h)]
theorem lowL_at : ∀ {xs : List E} {ks : List UInt8} {i : Nat} {x : E} {kd : UInt8},xs[i]? = some x -> ks[i]? = some kd -> (lowL S L xs ks)[i]? = some (if kd = 67 then lowM S L x else 0)
 | [],ks,i,x,kd,hx,_ => by simp at hx
 | y :: r,[],i,x,kd,_,hk => by simp at hk
 | y :: r,k0 :: ks,0,x,kd,hx,hk => by
   simp at hx hk
   subst hx hk
   unfold lowL
   rfl
 | y :: r,k0 :: ks,i + 1,x,kd,hx,hk => by
   unfold lowL
   rw [List.getElem?_cons_succ]
   exact lowL_at (by simpa using hx) (by simpa using hk)
theorem arg_of_meanL : ∀ {xs : List E} {ks : List UInt8} {vs : List VM} {i : Nat} {x : E} {kd : UInt8},meanL S xs ks = .ok vs -> xs[i]? = some x -> ks[i]? = some kd -> ∃ v,argM S x kd = .ok v
 | [],ks,vs,i,x,kd,_,hx,_ => by simp at hx
 | y :: r,[],vs,i,x,kd,_,_,hk => by simp at hk
 | y :: r,k0 :: ks,vs,i,x,kd,h,hx,hk => by
   rw [qcH] at h
   cases ha : argM S y k0 with
   | error e => rw [ha] at h;cases h
   | ok v =>
     rw [ha] at h
     cases hm : meanL S r ks with
     | error e => rw [hm] at h;cases h
     | ok vs' =>
       cases i with
       | zero =>
         simp at hx hk
         subst hx hk
         exact ⟨v,ha⟩
       | succ i => exact arg_of_meanL hm (by simpa using hx) (by simpa using hk)
end
def zsL (LL : List Int) (n i : Nat) : List Int := LL.take i ++ List.replicate (n - i) 0
theorem zsL_len {LL : List Int} {n i : Nat} (h : LL.length = n) (hi : i <= n) : (zsL LL n i).length = n := by simp [zsL];omega
theorem zsL_set {LL : List Int} {n i : Nat} (h : LL.length = n) (hi : i < n) {d : Int} (hd : LL[i]? = some d) : (zsL LL n i).set i d = zsL LL n (i + 1) := by
 unfold zsL
 have hl : (LL.take i).length = i := by simp;omega
 rw [List.set_append_right _ _ (by omega),hl,Nat.sub_self,show n - i = (n - (i + 1)) + 1 by omega,List.replicate_succ,List.set_cons_zero,qaV hd,List.append_assoc]
 rfl
theorem zsL_zero {LL : List Int} {n i : Nat} (_h : LL.length = n) (hi : i < n) (hd : LL[i]? = some 0) : zsL LL n i = zsL LL n (i + 1) := by
 unfold zsL
 rw [show n - i = (n - (i + 1)) + 1 by omega,List.replicate_succ,qaV hd,List.append_assoc]
 rfl
theorem zsL_all {LL : List Int} {n : Nat} (h : LL.length = n) : zsL LL n n = LL := by simp [zsL,<- h]
theorem make_ints (n : Nat) (hn : n <= 1000) : ∀ W,(Instr.makeSlice 22 (.int .i64 (n : Int)) (.int .i64 (n : Int))).run Tryz.prog W = .ok (.slice (some ⟨W.heap.size,0,none⟩) n n) (W.alloc (.cells (madeCells (Value.int .i64 0).cells (n * 1)) 3)) := by
 obtain ⟨i0,hi,hz0,hz1,hz2⟩ := info_parts infoInt
 intro W
 have hb : (i0.bytes : Int) * (n : Int) <= 281474976710656 := by rw [hz2];omega
 have hr := run_make (P := Tryz.prog) W 22 3 i0 _ Tryz.underlying22 hi hz0 .i64 .i64 n n (by omega) (by omega) hb (by omega)
 simp only [Int.toNat_natCast,hz1] at hr
 exact hr
theorem made_ints (n : Nat) : (madeCells (Value.int .i64 0).cells (n * 1)).toList = (List.replicate n (0 : Int)).map (Value.int .i64) := by
 simp [madeCells,Value.cells,List.map_replicate,Nat.mod_one]
 apply List.ext_getElem
 . simp
 . intro i h1 h2
   simp
theorem row_made (n : Nat) (w : World) (B : Nat) (hB : B <= w.heap.size) (hn : n <= 1000) : Row (w.alloc (.cells (madeCells (Value.int .i64 0).cells (n * 1)) 3)) B w.heap.size n (List.replicate n 0) := by
 have hl := made_ints n
 have hs : (madeCells (Value.int .i64 0).cells (n * 1)).size = n := by
  have := congrArg List.length hl
  simpa using this
 unfold Row
 refine ⟨by simp,.inr ⟨w.heap.size,n,_,by simp,hB,heap_alloc_new _ _,by simp,?_,by rw [hs];omega,?_⟩⟩
 . unfold maxLen;omega
 . rw [hl]
   simp
theorem ValC.gen {w : World} {F : Nat -> Prop} {v : VM} {cs : List Value} (h : ValC w F v cs) : ∃ R kk,cs[7]? = some (.slice R (genLen v) kk) := by
 cases v with
 | fld p m mod => obtain ⟨A,c,rfl,_⟩ := h;exact ⟨_,_,rfl⟩
 | cod p m mod n rows => obtain ⟨A,c,R,k,rfl,_⟩ := h;exact ⟨_,_,rfl⟩
 | num n =>
   have h : cs = _ := h
   subst h
   exact ⟨_,_,rfl⟩
 | lst l => obtain ⟨A,c,rfl,_⟩ := h;exact ⟨_,_,rfl⟩
theorem rowM_args {k : Int} {nm : List UInt8} {n : Nat} {ks : List UInt8} (h : rowM k nm n false = .ok ks) : argsK nm = some ks := by
 unfold rowM at h
 split at h
 . cases h
 . split at h
   . split at h
     . split at h
       . rename_i h1
         cases h1
       . cases h
     . split at h
       . cases h
       . rename_i a ha
         split at h
         . cases h
         . split at h
           . injection h with h
             rw [ha,h]
           . cases h
   . cases h
theorem made_row (n : Nat) (hn : n <= 1000) : ∃ yy : Array Value,(∀ W,(Instr.makeSlice 22 (.int .i64 (n : Int)) (.int .i64 (n : Int))).run Tryz.prog W = .ok (.slice (some ⟨W.heap.size,0,none⟩) n n) (W.alloc (.cells yy 3))) /\ ∀ (w : World) (B : Nat),B <= w.heap.size -> Row (w.alloc (.cells yy 3)) B w.heap.size n (List.replicate n 0) :=
 ⟨_,make_ints n hn,fun w B hB => row_made n w B hB hn⟩
theorem row_setCells {w : World} {B g c b o : Nat} {zs : List Int} {vs : List Value} (h : Row w B g c zs) (hne : g ≠ b) : Row (w.setCells b o vs) B g c zs := by
 have hb := qbT 0 b (Nat.zero_le _) vs o w
 exact h.grown (row := some b) ⟨hb.os,hb.tape,hb.output,hb.size,fun k _ hk => qbE b k (fun e => hk (by rw [e])) _ _ _⟩ (fun e => by injection e with e;exact hne e)
theorem vals_set {w : World} {F : Nat -> Prop} {g tot b j : Nat} {vs : List VM} {u : Value} (h : ValsAt w F g tot vs) (h1 : g ≠ b) (h2 : ¬ F b) : ValsAt (w.setCell ⟨b,j,none⟩ u) F g tot vs := by
 have hk : ∀ k,k ≠ b -> (w.setCell ⟨b,j,none⟩ u).heap[k]? = w.heap[k]? := fun k hk => Below.heap_setCell w ⟨b,j,none⟩ u k hk
 refine ⟨by have := h.lt;simpa using this,h.out,there_keep h.there (hk g h1),h.len,fun i v hi => ?_⟩
 obtain ⟨cs,hc,hr⟩ := h.val i v hi
 exact ⟨cs,hc.mono fun k hF _ => ⟨hF,hk k (fun e => h2 (e ▸ hF))⟩,qaJ hr (hk g h1)⟩
theorem row_ints {w : World} {B g c : Nat} {zs : List Int} (h : Row w B g c zs) : IntsAt w w.heap.size (some ⟨g,0,none⟩) zs := fun _ => ⟨g,0,rfl,h.lt.2,fun j hj => by rw [Nat.zero_add];exact h.cell hj⟩
structure LwSt (S : Sem) (B : Nat) (W2 : World) (gb hb : Nat) (xs : List E) (ks : List UInt8) (LL : List Int) (i : Nat) (vs : List VM) (wr : World) : Prop where
 below : Below gb W2 wr
 vals : ValsAt wr (fun b => b < B \/ hb < b) gb xs.length vs
 row : Row wr gb hb xs.length (zsL LL xs.length i)
 upto : Upto S xs ks i vs
def RelLw (S : Sem) (B : Nat) (W2 : World) (gb hb : Nat) (xs : List E) (ks : List UInt8) (LL : List Int) (v30 : Value) (g : Nat) (wr : World) : Prop :=
 ∃ (i : Nat) (vs : List VM),i + g = xs.length /\ v30 = .int .i64 i /\ LwSt S B W2 gb hb xs ks LL i vs wr
set_option maxHeartbeats 16000000 in
set_option maxRecDepth 100000 in
theorem lower_c (S : Sem) (L : LSem) : ∀ (x : E) (cs : List Value) (tb B : Nat) (w : World) (v : VM),SupE S x false -> LowE S L x -> meanM S x false = .ok v -> ExprC w (· < B) x cs -> B <= w.heap.size -> Tb w tb (inBs (bas (upN 4))) ->
 Calls Tryz.prog 31 #[.agg #[.map (some tb)],.agg cs.toArray] w fun e w' => e = .returned (.int .i64 (lowM S L x)) /\ Below w.heap.size w w' := by
 refine qaT ?_
 intro k nm n ls xs ih cs tb B w v hsup hlow hmok h hB hT
 unfold ExprC at h
 obtain ⟨la,lc,aa,ac,rfl,hli,ha⟩ := h
 obtain ⟨ks,hrm,vall,hml,hsv⟩ : ∃ ks,rowM k nm xs.length false = .ok ks /\ ∃ vs,meanL S xs ks = .ok vs /\ S nm vs = .ok v := by
  unfold meanM at hmok
  cases hr : rowM k nm xs.length false with
  | error e => rw [hr] at hmok;cases hmok
  | ok ks =>
    rw [hr] at hmok
    cases hm : meanL S xs ks with
    | error e =>
      have hmok : (match meanL S xs ks with | .error e => Except.error e | .ok vs => S nm vs) = .ok v := hmok
      rw [hm] at hmok
      cases hmok
    | ok vs =>
      have hmok : (match meanL S xs ks with | .error e => Except.error e | .ok vs => S nm vs) = .ok v := hmok
      rw [hm] at hmok
      exact ⟨ks,rfl,vs,hm,hmok⟩
 have HLM : Hid (lowM S L (.mk k nm n ls xs) = if genLen v = 0 then -1 else L nm vall (lowL S L xs ks)) := by
  show _ = _
  unfold lowM
  rw [rowM_args hrm]
  show (match meanL S xs ks with | .error _ => -1 | .ok vs => lowRes (S nm vs) (L nm vs (lowL S L xs ks))) = _
  rw [hml]
  show lowRes (S nm vall) _ = _
  rw [hsv]
  rfl
 have HA : Hid (ArgsAt w (· < B) aa xs) := ha
 have HT := Lib.hid hT
 have HTT := Lib.hid hT
 have HRM := Lib.hid hrm
 obtain ⟨hkl,hx5⟩ := rowM_len hrm
 have HKL := Lib.hid hkl
 have HLL : Hid ((lowL S L xs ks).length = xs.length) := lowL_len hkl
 have hsu := hsup
 unfold SupE at hsu
 obtain ⟨hsl,hct⟩ := hsu ks hrm
 have hlo := hlow
 unfold LowE at hlo
 obtain ⟨hll,hlw⟩ := hlo ks hrm
 have HCT := Lib.hid (hct vall hml)
 have HSV := Lib.hid hsv
 have HLW := Lib.hid (hlw vall v hml hsv)
 have HML := Lib.hid hml
 have HIH : Hid (∀ (i : Nat) (h : i < xs.length) (v : VM) (cs : List Value) (w : World),ks[i]? = some 67 -> meanM S (xs[i]'h) false = .ok v -> ExprC w (· < B) (xs[i]'h) cs -> B <= w.heap.size -> Tb w tb (inBs (bas (upN 4))) -> Calls Tryz.prog 31 #[.agg #[.map (some tb)],.agg cs.toArray] w fun e w' => e = .returned (.int .i64 (lowM S L (xs[i]'h))) /\ Below w.heap.size w w') :=
  fun i hi v cs w hk hm h1 h2 h3 => ih _ (List.getElem_mem hi) cs tb B w v (by
   have := hsl.at_ (List.getElem?_eq_getElem hi) hk (.inr rfl)
   exact this) (hll.at_ (List.getElem?_eq_getElem hi) hk) hm h1 h2 h3
 have HSL := Lib.hid hsl
 clear ih ha hT hsup hlow hli hrm hkl hsu hsl hct hlo hll hlw hsv hml hmok
 have HB : Hid (Bx w [([.map (some tb)],71),([.int .i64 k,.string ⟨nm.toArray⟩,.int .i64 n,.slice la ls.length lc,.slice aa xs.length ac],25)] ((w.alloc (.cells #[.map (some tb)] 71)).alloc (.cells #[.int .i64 k,.string ⟨nm.toArray⟩,.int .i64 n,.slice la ls.length lc,.slice aa xs.length ac] 25))) := bx2 w _ _ _ _
 have HWL : Hid (((w.alloc (.cells #[.map (some tb)] 71)).alloc (.cells #[.int .i64 k,.string ⟨nm.toArray⟩,.int .i64 n,.slice la ls.length lc,.slice aa xs.length ac] 25)).heap.size = w.heap.size + 2) := by show _ = _;simp
 go_enter Tryz.func31,Tryz.ntmps31
 go_upto_region 1 with fail
 generalize ((w.alloc (.cells #[.map (some tb)] 71)).alloc (.cells #[.int .i64 k,.string ⟨nm.toArray⟩,.int .i64 n,.slice la ls.length lc,.slice aa xs.length ac] 25)) = W at *
 have HMR : Hid (W.rangeAt w.heap.size 0 [.map (some tb)]) := qaB (HB.out.at_ (i := 0) rfl)
 have HXR : Hid (W.rangeAt (w.heap.size + 1) 0 [.int .i64 k,.string ⟨nm.toArray⟩,.int .i64 n,.slice la ls.length lc,.slice aa xs.length ac]) := qaB (HB.out.at_ (i := 1) rfl)
 go_wp2_with (first
  | (refine wpList_load_mid rfl 71 (.tmp 2) rfl w.heap.size 0 rfl [.map (some tb)] _ HMR.out Tryz.underlying71 rfl compSize ?_)
  | (refine wpList_load_mid rfl 25 (.tmp 3) rfl (w.heap.size + 1) 0 rfl [.int .i64 k,.string ⟨nm.toArray⟩,.int .i64 n,.slice la ls.length lc,.slice aa xs.length ac] _ HXR.out Tryz.underlying25 rfl exprSize ?_))
 refine (row_c tb false k nm n la ls.length lc aa xs.length ac W (HT.out.keep HB.out.below)).mono ?_
 rintro e w1 ⟨⟨v0,v1,v2,ke,rfl,o0,o1,o2,hres⟩,hb1⟩
 rw [HRM.out] at hres
 obtain ⟨rfl,rfl,hri⟩ := hres
 have HBA : Hid (Below w1.heap.size w1 (w1.alloc (.cells #[.string ⟨ks.toArray⟩,v1,v2] 90))) := (Below.refl _ _).alloc (Nat.le_refl _) _
 have HRI : Hid (RowIs (w1.alloc (.cells #[.string ⟨ks.toArray⟩,v1,v2] 90)) nm ks v1 v2) := hri.keep HBA.out
 have hone : (#[.string ⟨ks.toArray⟩,v1,v2].all fun v : Value => v.oneCell') = true := by
  have : (Value.string ⟨ks.toArray⟩).oneCell' = true := rfl
  simp [this,o1,o2]
 have HCR : Hid ((w1.alloc (.cells #[.string ⟨ks.toArray⟩,v1,v2] 90)).heap[w1.heap.size]? = some (.cells #[.string ⟨ks.toArray⟩,v1,v2] 90 (0,0))) := heap_alloc_new _ _
 have HS1 : Hid ((w1.alloc (.cells #[.string ⟨ks.toArray⟩,v1,v2] 90)).heap.size = w1.heap.size + 1) := by show _ = _;simp
 have HB2 : Hid (Below W.heap.size W (w1.alloc (.cells #[.string ⟨ks.toArray⟩,v1,v2] 90))) := hb1.trans (HBA.out.mono hb1.size)
 have HBW2 : Hid (Below w.heap.size w (w1.alloc (.cells #[.string ⟨ks.toArray⟩,v1,v2] 90))) := HB.out.below.trans (HB2.out.mono HB.out.below.size)
 have hw1 : W.heap.size <= w1.heap.size := hb1.size
 obtain ⟨zz,hzz,hmk⟩ := make_vals xs.length (by omega)
 obtain ⟨yy,hmi,hyy⟩ := made_row xs.length (by omega)
 have HYY := Lib.hid hyy
 have HZZ := Lib.hid hzz
 clear hri hb1 o0 o1 o2 HBA hzz HRM hyy
 go_upto_region 2 with (refine qaC rfl 90 (.tmp 5) (.tmp 17) rfl w1 _ #[.string ⟨ks.toArray⟩,v1,v2] rfl rfl callSize rfl hone ?_)
 generalize (w1.alloc (.cells #[.string ⟨ks.toArray⟩,v1,v2] 90)) = W2 at *
 have hac : W2.cell? ⟨w.heap.size + 1,4,none⟩ = some (.slice aa xs.length ac) := (HB2.out.cell (p := ⟨w.heap.size + 1,4,none⟩) (by show w.heap.size + 1 < _;have := HWL.out;omega)).trans (HXR.out 4 _ rfl)
 have hac2 : (W2.alloc (.cells zz 60)).cell? ⟨w.heap.size + 1,4,none⟩ = some (.slice aa xs.length ac) := (World.cell?_alloc_lt _ _ _ (by show w.heap.size + 1 < _;have := HS1.out;have := HWL.out;omega)).trans hac
 have hac3 : ((W2.alloc (.cells zz 60)).alloc (.cells yy 3)).cell? ⟨w.heap.size + 1,4,none⟩ = some (.slice aa xs.length ac) := (World.cell?_alloc_lt _ _ _ (by show w.heap.size + 1 < _;have := HS1.out;have := HWL.out;simp;omega)).trans hac2
 have HVA : Hid (ValsAt ((W2.alloc (.cells zz 60)).alloc (.cells yy 3)) (fun b => b < B \/ W2.heap.size + 1 < b) W2.heap.size xs.length []) := by
  refine ⟨by simp;omega,?_,?_,Nat.zero_le _,fun j v hj => by simp at hj⟩
  . have := HS1.out
    have := HWL.out
    intro h
    rcases h with h | h <;> omega
  . have h1 := there_new W2 zz 60
    rw [HZZ.out] at h1
    exact World.there_alloc h1 _
 have HRW : Hid (Row ((W2.alloc (.cells zz 60)).alloc (.cells yy 3)) W2.heap.size (W2.heap.size + 1) xs.length (List.replicate xs.length 0)) := by
  have := HYY.out (W2.alloc (.cells zz 60)) W2.heap.size (by simp)
  rw [show (W2.alloc (.cells zz 60)).heap.size = W2.heap.size + 1 by simp] at this
  exact this
 have HBV : Hid (Below W2.heap.size W2 ((W2.alloc (.cells zz 60)).alloc (.cells yy 3))) := ((Below.refl _ _).alloc (Nat.le_refl _) _).alloc (by simp) _
 have hszz : (W2.alloc (.cells zz 60)).heap.size = W2.heap.size + 1 := by simp
 go_wp2_with fail
 clear hac hac2 hac3 hmk hmi hone hszz HZZ HYY HXR HMR HT
 have hgbW : w.heap.size <= W2.heap.size := HBW2.out.size
 have HM2 : Hid (W2.rangeAt w.heap.size 0 [.map (some tb)]) := qaJ (qaB (HB.out.at_ (i := 0) rfl)) (HB2.out.block _ (by have := HWL.out;omega))
 have HTB : Hid (Tb W2 tb (inBs (bas (upN 4)))) := HTT.out.keep HBW2.out
 generalize (W2.alloc (.cells zz 60)).alloc (.cells yy 3) = W4 at *
 generalize hgb : W2.heap.size = gb at *
 generalize w1.heap.size = b8 at *
 go_loopg [30] xs.length (fun g v wr => RelLw S B W2 gb (gb + 1) xs ks (lowL S L xs ks) v g wr)
 case atStart => exact ⟨0,[],by omega,rfl,⟨HBV.out,HVA.out,by simpa [zsL] using HRW.out,Upto.zero _ _⟩⟩
 case round =>
  obtain ⟨i,vs,hig,rfl,hst⟩ := hrel
  have HST := Lib.hid hst
  have HWR : Hid (Below w.heap.size w wr) := HBW2.out.trans (hst.below.mono hgbW)
  have hb8 : b8 < gb := by have := HS1.out;omega
  have hgwr : gb + 1 < wr.heap.size := hst.row.lt.2
  have hgw : w.heap.size + 1 < gb := by have := HS1.out;have := HWL.out;omega
  clear hst HVA HBV HRW
  by_cases hi : i < xs.length
  . obtain ⟨b,o,haa,hbB,hxs⟩ := HA.out (by omega)
    obtain ⟨cs5,hrg,hec⟩ := ExprsC.at_ xs o i xs[i] hxs (List.getElem?_eq_getElem hi)
    have hrgw : wr.rangeAt b (o + i * 5) cs5 := qaJ hrg (HWR.out.block b (by omega))
    have hecw : ExprC wr (· < B) xs[i] cs5 := ExprC.mono (fun b hb _ => ⟨hb,HWR.out.block b (Nat.lt_of_lt_of_le hb hB)⟩) _ _ hec
    obtain ⟨k',nm',n',ls',xs',hxe⟩ : ∃ k' nm' n' ls' xs',xs[i] = E.mk k' nm' n' ls' xs' := by
     cases hx : xs[i] with
     | mk a b c d e => exact ⟨a,b,c,d,e,rfl⟩
    obtain ⟨kd,hkd⟩ : ∃ kd,ks[i]? = some kd := ⟨ks[i]'(by have := HKL.out;omega),List.getElem?_eq_getElem _⟩
    obtain ⟨vi,hvi⟩ := arg_of_meanL HML.out (List.getElem?_eq_getElem hi) hkd
    have hec2 := hecw
    rw [hxe] at hec2
    unfold ExprC at hec2
    obtain ⟨la',lc',aa',ac',rfl,hli',_⟩ := hec2
    have HEC := Lib.hid hecw
    have HRG := Lib.hid hrgw
    have HVI := Lib.hid hvi
    have HBX : Hid (Below wr.heap.size wr (wr.alloc (.cells #[.int .i64 k',.string ⟨nm'.toArray⟩,.int .i64 n',.slice la' ls'.length lc',.slice aa' xs'.length ac'] 25))) := (Below.refl _ _).alloc (Nat.le_refl _) _
    have HWX : Hid (Below w.heap.size w (wr.alloc (.cells #[.int .i64 k',.string ⟨nm'.toArray⟩,.int .i64 n',.slice la' ls'.length lc',.slice aa' xs'.length ac'] 25))) := HWR.out.trans (HBX.out.mono HWR.out.size)
    have HXN : Hid ((wr.alloc (.cells #[.int .i64 k',.string ⟨nm'.toArray⟩,.int .i64 n',.slice la' ls'.length lc',.slice aa' xs'.length ac'] 25)).rangeAt wr.heap.size 0 [.int .i64 k',.string ⟨nm'.toArray⟩,.int .i64 n',.slice la' ls'.length lc',.slice aa' xs'.length ac']) := qaB (heap_alloc_new _ _)
    have HST1 : Hid (LwSt S B W2 gb (gb + 1) xs ks (lowL S L xs ks) i vs (wr.alloc (.cells #[.int .i64 k',.string ⟨nm'.toArray⟩,.int .i64 n',.slice la' ls'.length lc',.slice aa' xs'.length ac'] 25))) := ⟨HST.out.below.trans (HBX.out.mono (by omega)),HST.out.vals.keep HBX.out,HST.out.row.alloc _,HST.out.upto⟩
    have hsx : wr.heap.size < (wr.alloc (.cells #[.int .i64 k',.string ⟨nm'.toArray⟩,.int .i64 n',.slice la' ls'.length lc',.slice aa' xs'.length ac'] 25)).heap.size := by simp
    have HARG : Hid (∀ W,Below (wr.alloc (.cells #[.int .i64 k',.string ⟨nm'.toArray⟩,.int .i64 n',.slice la' ls'.length lc',.slice aa' xs'.length ac'] 25)).heap.size (wr.alloc (.cells #[.int .i64 k',.string ⟨nm'.toArray⟩,.int .i64 n',.slice la' ls'.length lc',.slice aa' xs'.length ac'] 25)) W -> Calls Tryz.prog 55 #[.agg #[.map (some tb)],.agg #[.int .i64 k',.string ⟨nm'.toArray⟩,.int .i64 n',.slice la' ls'.length lc',.slice aa' xs'.length ac'],.int .u8 kd.toNat] W (MeanPost W (· < B) (argM S (xs[i]'hi) kd))) := fun W hW => by
     have hwW : Below w.heap.size w W := HWX.out.trans (hW.mono HWX.out.size)
     have hbB : B <= W.heap.size := Nat.le_trans hB hwW.size
     have hwrW : Below wr.heap.size wr W := HBX.out.trans (hW.mono HBX.out.size)
     rw [hxe]
     refine argument_c S tb B k' nm' n' ls' xs' la' lc' aa' ac' kd W (hli'.mono fun b hb _ => ⟨hb,hwrW.block b (Nat.lt_of_lt_of_le (Nat.lt_of_lt_of_le hb hB) HWR.out.size)⟩) hbB ?_
     intro hk W' hW'
     have hwW' : Below w.heap.size w W' := hwW.trans (hW'.mono hwW.size)
     have h1 := mean_c S (xs[i]'hi) (decide (kd = 70)) [.int .i64 k',.string ⟨nm'.toArray⟩,.int .i64 n',.slice la' ls'.length lc',.slice aa' xs'.length ac'] tb B W' (HSL.out.at_ (List.getElem?_eq_getElem hi) hkd hk) (ExprC.mono (fun b hb _ => ⟨hb,(hwW'.block b (Nat.lt_of_lt_of_le hb hB)).trans (HWR.out.block b (Nat.lt_of_lt_of_le hb hB)).symm⟩) _ _ hecw) (Nat.le_trans hB hwW'.size) (HTT.out.keep hwW')
     rw [hxe] at h1
     exact h1
    have hc8w : wr.cell? ⟨b8,0,none⟩ = some (.string ⟨ks.toArray⟩) := (World.cell?_of_block (a := ⟨b8,0,none⟩) (HST.out.below.block _ hb8)).trans (cell_of_row _ _ 0 _ _ _ HCR.out)
    have hb8c : (wr.alloc (.cells #[.int .i64 k',.string ⟨nm'.toArray⟩,.int .i64 n',.slice la' ls'.length lc',.slice aa' xs'.length ac'] 25)).cell? ⟨b8,0,none⟩ = some (.string ⟨ks.toArray⟩) := (HBX.out.cell (p := ⟨b8,0,none⟩) (by show b8 < _;omega)).trans hc8w
    have HB8 := Lib.hid hb8c
    have HM0 : Hid ((wr.alloc (.cells #[.int .i64 k',.string ⟨nm'.toArray⟩,.int .i64 n',.slice la' ls'.length lc',.slice aa' xs'.length ac'] 25)).rangeAt w.heap.size 0 [.map (some tb)]) :=
     qaJ (qaJ HM2.out (HST.out.below.block _ (by omega))) (HBX.out.block _ (by omega))
    have HKD := Lib.hid hkd
    have HHI := Lib.hid hi
    have k0 : (0 : Int) <= (i : Int) := by omega
    have k1 : (i : Int) < (xs.length : Int) := by omega
    have k2 : (i : Int) < (((⟨ks.toArray⟩ : ByteArray).size : Nat) : Int) := by
     have h1 : (⟨ks.toArray⟩ : ByteArray).size = ks.length := by rw [<- qeB]
     have := HKL.out
     omega
    have hix : ∀ W : World,(Instr.index 9 (.string ⟨ks.toArray⟩) (.int .i64 (i : Int))).run Tryz.prog W = .ok (.int .u8 kd.toNat) W := fun W => index_str ks i kd hkd W
    have HXE := Lib.hid hxe
    have HAA : Hid (aa = some ⟨b,o,none⟩) := haa
    subst haa
    clear hxs hrg hec hrgw hecw hli' hb8c hkd hxe hvi hc8w
    go_upto_region 7 with (first
     | (refine wpList_load_mid rfl 25 (.tmp 33) rfl b (o + i * 5) rfl [.int .i64 k',.string ⟨nm'.toArray⟩,.int .i64 n',.slice la' ls'.length lc',.slice aa' xs'.length ac'] _ HRG.out Tryz.underlying25 rfl exprSize ?_)
     | (refine qaC rfl 25 (.tmp 10) (.tmp 34) rfl wr _ #[.int .i64 k',.string ⟨nm'.toArray⟩,.int .i64 n',.slice la' ls'.length lc',.slice aa' xs'.length ac'] rfl rfl exprSize rfl (by simp [Value.oneCell']) ?_))
    generalize (wr.alloc (.cells #[.int .i64 k',.string ⟨nm'.toArray⟩,.int .i64 n',.slice la' ls'.length lc',.slice aa' xs'.length ac'] 25)) = Wa at *
    have HCV : Hid (∀ W,LStM Wa W -> W.cell? ⟨b8,0,none⟩ = some (.string ⟨ks.toArray⟩)) := fun W hW => (Below.cell hW (p := ⟨b8,0,none⟩) (World.block_lt_of_cell? Wa _ HB8.out)).trans HB8.out
    have HRMM : Hid (∀ W,LStM Wa W -> W.rangeAt w.heap.size 0 [.map (some tb)]) := fun W hW => qaJ HM0.out (Below.block hW _ (World.block_lt_of_cell? Wa _ (HM0.out 0 _ rfl)))
    have HRX : Hid (∀ W,LStM Wa W -> W.rangeAt wr.heap.size 0 [.int .i64 k',.string ⟨nm'.toArray⟩,.int .i64 n',.slice la' ls'.length lc',.slice aa' xs'.length ac']) := fun W hW => qaJ HXN.out (Below.block hW _ hsx)
    have HS0 : Hid (LStM Wa Wa.drew) := (Below.refl _ _).drew
    refine wp_region_mixa 13 (LStM Wa) [(1,0),(1,1),(0,2),(0,3),(1,4),(0,5),(1,6),(1,7),(2,8),(1,9),(1,10),(1,11),(1,12),(3,13)] default (by kernel_rfl) (by kernel_rfl) (fun _ _ d _ _ h => by cases d <;> exact h) HS0.out ?_
    simp only [List.map_cons,List.map_nil,List.getD_cons_zero,List.getD_cons_succ]
    iterate 2
     apply qaQ rfl
     . intro W
       go_simp
       rfl
     go_simp
    refine qaP rfl 71 (.tmp 2) rfl w.heap.size 0 rfl [.map (some tb)] _ HRMM.out Tryz.underlying71 rfl compSize ?_
    go_simp
    refine qaP rfl 25 (.tmp 10) rfl wr.heap.size 0 rfl [.int .i64 k',.string ⟨nm'.toArray⟩,.int .i64 n',.slice la' ls'.length lc',.slice aa' xs'.length ac'] _ HRX.out Tryz.underlying25 rfl exprSize ?_
    go_simp
    apply qaQ rfl
    . intro W
      go_simp
      rfl
    go_simp
    apply qbH rfl
    . intro W hW
      have z0 := HCV.out W hW
      go_simp
      rfl
    go_simp
    iterate 2
     apply qaQ rfl
     . intro W
       go_simp
       try rfl
     go_simp
    apply qbF rfl
    . go_simp
      exact ⟨rfl,rfl⟩
    refine (HARG.out _ HS0.out).mono ?_
    rw [HVI.out]
    rintro e w2 ⟨⟨cs,k2',rfl,hten,hone2,hres⟩,hb2⟩
    obtain ⟨rfl,hvc⟩ := hres
    have HSW2 : Hid (LStM Wa w2) := Below.trans HS0.out (hb2.mono (Below.size HS0.out))
    refine ⟨_,rfl,HSW2.out,?_⟩
    go_simp
    iterate 4
     apply qaQ rfl
     . intro W
       go_simp
       rfl
     go_simp
    have hgwa : gb + 1 < Wa.heap.size := HST1.out.row.lt.2
    have HST2 : Hid (LwSt S B W2 gb (gb + 1) xs ks (lowL S L xs ks) i vs w2) := ⟨HST1.out.below.trans (Below.mono HSW2.out (by omega)),HST1.out.vals.keep HSW2.out,HST1.out.row.below HSW2.out hgwa,HST1.out.upto⟩
    have HVC : Hid (ValC w2 (fun b => b < B \/ gb + 1 < b) vi cs) := hvc.more fun b hb _ => hb.imp id (fun h => by have : Wa.heap.size <= b := h;omega)
    have HTEN : Hid (cs.toArray.size = 10) := by show _ = _;simpa using hten
    have HONE : Hid (cs.toArray.all (fun v => v.oneCell') = true) := by show _ = _;simpa using hone2
    have hvs : (Tryz.prog.info? 60).map (·.size) = some cs.toArray.size := by rw [HTEN.out];exact valueSize
    have HVS := Lib.hid hvs
    have HTH : Hid (w2.there gb (i * 10) cs.toArray.size) := by
     show World.there _ _ _ _
     rw [HTEN.out]
     intro j hj
     have := HST2.out.vals.there (i * 10 + j) (by have := HHI.out;omega)
     rw [Nat.zero_add] at this
     exact this
    have hvl : vs.length = i := HST.out.upto.1
    clear hb2 hten hone2 hvs hvc
    refine qfC rfl 60 (.tmp 47) (.tmp 45) rfl gb (i * 10) cs.toArray rfl rfl HTH.out HVS.out HONE.out ?_
    go_simp
    refine qbX ?_
    have HBS : Hid (Below gb W2 (w2.setCells gb (i * 10) cs)) := HST2.out.below.trans (qbT _ gb (Nat.le_refl _) _ _ _)
    have HV5 : Hid (ValsAt (w2.setCells gb (i * 10) cs) (fun b => b < B \/ gb + 1 < b) gb xs.length (vs ++ [vi])) := by
     have h1 := HST2.out.vals.push (by have := HHI.out;omega) HVC.out
     rw [hvl] at h1
     exact h1
    have HR5 : Hid (Row (w2.setCells gb (i * 10) cs) gb (gb + 1) xs.length (zsL (lowL S L xs ks) xs.length i)) := row_setCells HST2.out.row (by omega)
    have HU5 : Hid (Upto S xs ks (i + 1) (vs ++ [vi])) := HST2.out.upto.snoc (List.getElem?_eq_getElem HHI.out) HKD.out HVI.out
    have HX5 : Hid ((w2.setCells gb (i * 10) cs).rangeAt wr.heap.size 0 [.int .i64 k',.string ⟨nm'.toArray⟩,.int .i64 n',.slice la' ls'.length lc',.slice aa' xs'.length ac']) := qaJ (HRX.out _ HSW2.out) (qbE gb _ (by omega) _ _ _)
    have HM5 : Hid ((w2.setCells gb (i * 10) cs).rangeAt w.heap.size 0 [.map (some tb)]) := qaJ (HRMM.out _ HSW2.out) (qbE gb _ (by omega) _ _ _)
    have y8 : (w2.setCells gb (i * 10) cs).cell? ⟨b8,0,none⟩ = some (.string ⟨ks.toArray⟩) := (World.cell?_of_block (a := ⟨b8,0,none⟩) (qbE gb b8 (by omega) _ _ _)).trans (HCV.out _ HSW2.out)
    have HB5 : Hid (Below w.heap.size w (w2.setCells gb (i * 10) cs)) := HBW2.out.trans (HBS.out.mono hgbW)
    have hs5 : wr.heap.size < (w2.setCells gb (i * 10) cs).heap.size := by rw [qdV];have := Below.size HSW2.out;omega
    clear HST2 HSW2 HTH HVS HONE HTEN HVC HS0 HRX HRMM HCV HB8 HM0 HARG HST1 HXN HBX HWX hsx HST HRG
    generalize (w2.setCells gb (i * 10) cs) = W5 at *
    have hLi : (lowL S L xs ks)[i]? = some (if kd = 67 then lowM S L (xs[i]'hi) else 0) := lowL_at (List.getElem?_eq_getElem hi) HKD.out
    by_cases h67 : kd = 67
    . rw [if_pos h67] at hLi
      subst h67
      have hmi : meanM S (xs[i]'hi) false = .ok vi := by
       have := HVI.out
       unfold argM at this
       rw [if_pos (.inr rfl)] at this
       exact this
      have HS0 : Hid (LStM W5 W5.drew) := (Below.refl _ _).drew
      have HLOW : Hid (∀ W,LStM W5 W -> Calls Tryz.prog 31 #[.agg #[.map (some tb)],.agg #[.int .i64 k',.string ⟨nm'.toArray⟩,.int .i64 n',.slice la' ls'.length lc',.slice aa' xs'.length ac']] W fun e w' => e = .returned (.int .i64 (lowM S L (xs[i]'hi))) /\ Below W.heap.size W w') := fun W hW => by
       have hwW : Below w.heap.size w W := HB5.out.trans (Below.mono hW HB5.out.size)
       exact HIH.out i hi vi [.int .i64 k',.string ⟨nm'.toArray⟩,.int .i64 n',.slice la' ls'.length lc',.slice aa' xs'.length ac'] W HKD.out hmi (ExprC.mono (fun b hb _ => ⟨hb,(hwW.block b (Nat.lt_of_lt_of_le hb hB)).trans (HWR.out.block b (Nat.lt_of_lt_of_le hb hB)).symm⟩) _ _ HEC.out) (Nat.le_trans hB hwW.size) (HTT.out.keep hwW)
      have HRMM : Hid (∀ W,LStM W5 W -> W.rangeAt w.heap.size 0 [.map (some tb)]) := fun W hW => qaJ HM5.out (Below.block hW _ (by omega))
      have HRX : Hid (∀ W,LStM W5 W -> W.rangeAt wr.heap.size 0 [.int .i64 k',.string ⟨nm'.toArray⟩,.int .i64 n',.slice la' ls'.length lc',.slice aa' xs'.length ac']) := fun W hW => qaJ HX5.out (Below.block hW _ hs5)
      have HZS : Hid ((zsL (lowL S L xs ks) xs.length i).set i (lowM S L (xs[i]'hi)) = zsL (lowL S L xs ks) xs.length (i + 1)) := zsL_set HLL.out HHI.out hLi
      generalize lowM S L (xs[i]'hi) = lw at *
      clear hLi hmi
      have HS00 : Hid (LStM W5 W5) := Below.refl _ _
      go_wp2_with (first
       | (refine wpList_load_mid rfl 71 (.tmp 2) rfl w.heap.size 0 rfl [.map (some tb)] _ HM5.out Tryz.underlying71 rfl compSize ?_)
       | (refine wpList_load_mid rfl 25 (.tmp 10) rfl wr.heap.size 0 rfl [.int .i64 k',.string ⟨nm'.toArray⟩,.int .i64 n',.slice la' ls'.length lc',.slice aa' xs'.length ac'] _ HX5.out Tryz.underlying25 rfl exprSize ?_))
      refine (HLOW.out _ HS00.out).mono ?_
      rintro e w6 ⟨rfl,hb6⟩
      have HS6 : Hid (LStM W5 w6) := hb6
      have HR6 : Hid (Row w6 gb (gb + 1) xs.length (zsL (lowL S L xs ks) xs.length i)) := HR5.out.below HS6.out HR5.out.lt.2
      have hzl : (zsL (lowL S L xs ks) xs.length i).length = xs.length := zsL_len HLL.out (by have := HHI.out;omega)
      have z1 := HR6.out.cell (j := i) (by omega)
      have z2 := HR6.out.frozen i
      have HV6 : Hid (ValsAt w6 (fun b => b < B \/ gb + 1 < b) gb xs.length (vs ++ [vi])) := HV5.out.keep HS6.out
      have HB6 : Hid (Below gb W2 w6) := HBS.out.trans (Below.mono HS6.out (by omega))
      clear hb6 HS6 HS0 HS00 HRX HRMM HLOW HR5 HV5 HBS HX5 HM5 y8 HB5
      go_upto_region 10 with fail
      have HR7 : Hid (Row (w6.setCell ⟨gb + 1,i,none⟩ (.int .i64 lw)) gb (gb + 1) xs.length (zsL (lowL S L xs ks) xs.length (i + 1))) := by
       have h1 := HR6.out.set i lw
       rw [HZS.out] at h1
       exact h1
      have HV7 : Hid (ValsAt (w6.setCell ⟨gb + 1,i,none⟩ (.int .i64 lw)) (fun b => b < B \/ gb + 1 < b) gb xs.length (vs ++ [vi])) := vals_set HV6.out (by omega) (by intro h;rcases h with h | h <;> omega)
      have HB7 : Hid (Below gb W2 (w6.setCell ⟨gb + 1,i,none⟩ (.int .i64 lw))) := HB6.out.setCell (p := ⟨gb + 1,i,none⟩) (by show gb <= gb + 1;omega) _
      clear z1 z2 HR6 HV6 HB6 HZS
      generalize (w6.setCell ⟨gb + 1,i,none⟩ (.int .i64 lw)) = w7 at *
      go_wp2_with fail
      go_roundg (xs.length - (i + 1))
      case measure => omega
      case rel => exact ⟨i + 1,vs ++ [vi],by omega,by go_num,⟨HB7.out,HV7.out,HR7.out,HU5.out⟩⟩
    . rw [if_neg h67] at hLi
      have e67 : ((kd.toNat : Int) == 67) = false := by
       simp only [beq_eq_false_iff_ne,ne_eq]
       intro h
       exact h67 (UInt8.toNat_inj.1 (by have : kd.toNat = 67 := by omega
                                        simpa using this))
      have HR7 : Hid (Row W5 gb (gb + 1) xs.length (zsL (lowL S L xs ks) xs.length (i + 1))) := by
       rw [zsL_zero HLL.out HHI.out hLi] at HR5
       exact HR5.out
      clear hLi h67 HR5
      go_wp2_with fail
      go_roundg (xs.length - (i + 1))
      case measure => omega
      case rel => exact ⟨i + 1,vs ++ [vi],by omega,by go_num,⟨HBS.out,HV5.out,HR7.out,HU5.out⟩⟩
  . have hie : i = xs.length := by omega
    have hvl : vs.length = xs.length := by rw [HST.out.upto.1,hie]
    have hvv : vs = vall := by
     have h1 := Upto.all HKL.out.symm (by rw [<- hie];exact HST.out.upto)
     have h2 := HML.out
     rw [h1] at h2
     injection h2
    have hval : ValsAt wr (fun b => b < B \/ gb + 1 < b) gb vs.length vs := by rw [hvl];exact HST.out.vals
    rw [hvv] at hval hvl
    have HRIW := Lib.hid (HRI.out.keep (hgb ▸ HST.out.below))
    obtain ⟨f,bb,hv1,hcf,hcall⟩ := HCT.out wr (fun b => b < B \/ gb + 1 < b) gb v1 v2 HRIW.out hval
    subst hv1
    rw [hvl] at hcall hval
    rw [HSV.out] at hcall
    have HCALL := Lib.hid hcall
    have hc81 : wr.cell? ⟨b8,1,none⟩ = some (.func (.func f) #[] #[.pointer (some ⟨bb,0,none⟩)]) := (World.cell?_of_block (a := ⟨b8,1,none⟩) (HST.out.below.block _ hb8)).trans (cell_of_row _ _ 1 _ _ _ HCR.out)
    have HC82 : Hid (wr.cell? ⟨b8,2,none⟩ = some v2) := (World.cell?_of_block (a := ⟨b8,2,none⟩) (HST.out.below.block _ hb8)).trans (cell_of_row _ _ 2 _ _ _ HCR.out)
    have HVALS := Lib.hid hval
    have HROW : Hid (Row wr gb (gb + 1) xs.length (lowL S L xs ks)) := by
     have h1 := HST.out.row
     rw [hie,zsL_all HLL.out] at h1
     exact h1
    clear HST hcall hval HCT HRI HIH HCR HBW2 HM2 HTB HB2 hvv HTT HSL HA
    go_wp2_with fail
    refine HCALL.out.mono ?_
    rintro e w2 ⟨⟨cs,k2,rfl,hten,hone2,hres⟩,hb2⟩
    obtain ⟨rfl,hvc⟩ := hres
    obtain ⟨R,kk,hg7⟩ := hvc.gen
    have HTEN : Hid (cs.toArray.size = 10) := by show _ = _;simpa using hten
    have HONE : Hid (cs.toArray.all (fun v => v.oneCell') = true) := by show _ = _;simpa using hone2
    have hvs : (Tryz.prog.info? 60).map (·.size) = some cs.toArray.size := by rw [HTEN.out];exact valueSize
    have HVS := Lib.hid hvs
    have HB3 : Hid (Below wr.heap.size wr (w2.alloc (.cells cs.toArray 60))) := hb2.trans ((Below.refl _ _).alloc hb2.size _)
    have HK3 : Hid ((w2.alloc (.cells cs.toArray 60)).heap[w2.heap.size]? = some (.cells cs.toArray 60 (0,0))) := heap_alloc_new _ _
    have hcl : ∀ (j : Nat) (u : Value),cs[j]? = some u -> (w2.alloc (.cells cs.toArray 60)).cell? ⟨w2.heap.size,j,none⟩ = some u := fun j u hj => by
     rw [cell_of_row _ _ j _ _ _ HK3.out,List.getElem?_toArray]
     exact hj
    have y7 : (w2.alloc (.cells cs.toArray 60)).cell? ⟨w2.heap.size,7,none⟩ = some (.slice R (genLen v) kk) := hcl 7 _ hg7
    have HBW : Hid (Below w.heap.size w (w2.alloc (.cells cs.toArray 60))) := HWR.out.trans (HB3.out.mono HWR.out.size)
    have HVC3 : Hid (ValC (w2.alloc (.cells cs.toArray 60)) (fun b => (b < B \/ gb + 1 < b) \/ wr.heap.size <= b) v cs) := hvc.keep ((Below.refl _ _).alloc (Nat.le_refl _) _)
    have HC5 : Hid ((w2.alloc (.cells cs.toArray 60)).rangeAt w2.heap.size 3 ((cs.drop 3).take 5)) := by
     intro j u hj
     refine hcl (3 + j) u ?_
     rw [List.getElem?_take] at hj
     split at hj
     . rw [List.getElem?_drop] at hj
       exact hj
     . cases hj
    have HL5 : Hid ((Tryz.prog.info? 35).map (·.size) = some ((cs.drop 3).take 5).length) := by
     show _ = _
     rw [show ((cs.drop 3).take 5).length = 5 by simp;omega]
     exact codeSize
    clear hb2 hten hone2 hvs hvc hg7 HCALL hc81 hcl
    by_cases hg : genLen v = 0
    . rw [if_pos hg] at HLM
      rw [hg] at y7
      clear HLW HC5 HL5 HVC3 HC82
      go_wp2_with (refine qaC rfl 60 (.tmp 11) (.tmp 65) rfl w2 _ cs.toArray rfl rfl HVS.out HTEN.out.symm HONE.out ?_)
      go_ret
      rw [HLM.out]
      exact ⟨rfl,HBW.out⟩
    . rw [if_neg hg] at HLM
      have hg0 : ((genLen v : Int) == 0) = false := by simpa using hg
      obtain ⟨f2,hv2,hcf2,hcall2⟩ := HLW.out hg _ (fun b => (b < B \/ gb + 1 < b) \/ wr.heap.size <= b) gb (gb + 1) _ v2 cs (HRIW.out.keep HB3.out) (by
       have h1 := HVALS.out.keep HB3.out
       rw [hvl]
       refine ⟨h1.lt,?_,h1.there,h1.len,fun j u hj => ?_⟩
       . intro h
         rcases h with (h | h) | h <;> omega
       . obtain ⟨cs',hc',hr'⟩ := h1.val j u hj
         exact ⟨cs',hc'.more fun b hb _ => .inl hb,hr'⟩) (row_ints (HROW.out.below HB3.out HROW.out.lt.2)) HVC3.out
      subst hv2
      rw [HLL.out,hvl] at hcall2
      have HCALL2 := Lib.hid hcall2
      have y82 : (w2.alloc (.cells cs.toArray 60)).cell? ⟨b8,2,none⟩ = some (.func (.func f2) #[] #[]) := (HB3.out.cell (p := ⟨b8,2,none⟩) (by show b8 < _;omega)).trans HC82.out
      clear hcall2 HLW HC82 hg
      go_wp2_with (first
       | (refine qaC rfl 60 (.tmp 11) (.tmp 65) rfl w2 _ cs.toArray rfl rfl HVS.out HTEN.out.symm HONE.out ?_)
       | (refine wpList_load_mid rfl 35 (.tmp 76) rfl w2.heap.size 3 rfl ((cs.drop 3).take 5) _ HC5.out Tryz.underlying35 rfl HL5.out ?_))
      refine HCALL2.out.mono ?_
      rintro e w9 ⟨rfl,hb9⟩
      have HB9 := Lib.hid (HBW.out.trans (hb9.mono HBW.out.size))
      clear hb9
      go_wp2_with fail
      go_ret
      rw [HLM.out]
      exact ⟨rfl,HB9.out⟩
end Go.Proofs.YtaddcadapbpkfaaGreatDoor
