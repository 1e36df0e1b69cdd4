/-
 The law: the forms of the calls of the table. The law: a literal argument, and the field of gf. The law: the field of gf. The law: what mean answers of an expression that has no row of a field. The law: what mean answers of a call of gf. The law's meaning of a field; compile.start and compile.Field. compile.start and compile.Field. A region as in Mf that is taken whole: no tail.
-/
import Derived.Laws.IdiomRangeMap
import Derived.Test.YtaddcadapbpkfaaGreatDoorR32
import Derived.Test.YtaddcadapbpkfaaGreatDoorR21
namespace Go.Proofs.YtaddcadapbpkfaaGreatDoor
open Go.RowKit Pln
end Go.Proofs.YtaddcadapbpkfaaGreatDoor
namespace Go.Proofs.YtaddcadapbpkfaaGreatDoor
open Go.RowKit Pln
def lvC (n : Int) (la : Option Addr) (ll lc : Nat) : List Value := [.int .i64 0,.int .i64 0,.slice none 0 0,.int .i64 0,.int .i64 0,.slice none 0 0,.int .i64 0,.slice none 0 0,.int .i64 n,.slice la ll lc]
end Go.Proofs.YtaddcadapbpkfaaGreatDoor
namespace Go.Proofs.YtaddcadapbpkfaaGreatDoor
open Go.RowKit Pln
end Go.Proofs.YtaddcadapbpkfaaGreatDoor
namespace Go.Proofs.YtaddcadapbpkfaaGreatDoor
open Go.RowKit Pln
def S0 : Sem := fun nm vs => if nm = gfN then match vs with
 | [.num n] => fldRes (stdM n)
 | [.num p,.num m,.lst l] => fldRes (chkR p m l)
 | _ => .error 1
 else .error 1
theorem mean0_err {S : Sem} {k : Int} {nm : List UInt8} {n : Int} {ls : List Int} {xs : List E} {isF : Bool} {e : Int} (h : rowM k nm xs.length isF = .error e) : meanM S (.mk k nm n ls xs) isF = .error e := by
 unfold meanM
 rw [h]
end Go.Proofs.YtaddcadapbpkfaaGreatDoor
namespace Go.Proofs.YtaddcadapbpkfaaGreatDoor
open Go.RowKit Pln
abbrev LT := Int × Option Addr × List Int × Nat
def flatT (ts : List LT) : List Value := ts.flatMap fun t => lvC t.1 t.2.1 t.2.2.1.length t.2.2.2
structure LaSt (B : Nat) (w : World) (xs : List E) (ks : List UInt8) (i : Nat) (vs : List VM) (ts : List LT) (v : Value) (wr : World) : Prop where
 own : wr.ownsRow (w.heap.size + 2) 37 10 v i (flatT ts)
 below : Below w.heap.size w wr
 upto : Upto S0 xs ks i vs
 tl : ts.length = i
 tm : ∀ (j : Nat) (t : LT),ts[j]? = some t -> ∃ x : E,xs[j]? = some x /\ t.1 = x.n /\ t.2.2.1 = x.ls /\ IntsF w (· < B) t.2.1 t.2.2.1
 zero : wr.heap[w.heap.size + 1]? = some (.cells #[.int .i64 0,.int .i64 0,.slice none 0 0,.int .i64 0,.int .i64 0,.slice none 0 0,.int .i64 0,.slice none 0 0,.int .i64 0,.slice none 0 0] 37 (0,0))
 up : w.heap.size + 2 <= wr.heap.size
theorem len_three {α : Type} {l : List α} (h : l.length = 3) : ∃ a b c,l = [a,b,c] := by
 match l,h with
 | [a,b,c],_ => exact ⟨a,b,c,rfl⟩
theorem lit_num {k n : Int} {ls : List Int} {v : VM} (h : litM k n ls 78 = .ok v) : v = .num n := by
 unfold litM at h
 split at h
 . cases h
 . split at h
   . injection h with h
     exact h.symm
   . rw [if_neg (fun e => absurd e.1 (by decide))] at h
     cases h
theorem lit_lst {k n : Int} {ls : List Int} {v : VM} (h : litM k n ls 76 = .ok v) : v = .lst ls := by
 unfold litM at h
 split at h
 . cases h
 . rw [if_neg (fun e => absurd e.1 (by decide))] at h
   split at h
   . injection h with h
     exact h.symm
   . cases h
end Go.Proofs.YtaddcadapbpkfaaGreatDoor
namespace Go.Proofs.YtaddcadapbpkfaaGreatDoor
open Go.RowKit Pln
def litK (ks : List UInt8) : Prop := ∀ kd,kd ∈ ks -> kd = 78 \/ kd = 76
theorem litK_of {m : Nat} {ks : List UInt8} (hk : (m = 1 /\ ks = [78]) \/ (m = 3 /\ ks = [78,78,76])) : litK ks := fun kd hm => by
 rcases hk with ⟨_,rfl⟩ | ⟨_,rfl⟩
 . simp at hm
   exact .inl hm
 . simp at hm
   exact hm
theorem argM_lit {S : Sem} {x : E} {kd : UInt8} (h : kd = 78 \/ kd = 76) : argM S x kd = litM x.k x.n x.ls kd := if_neg (by rcases h with h | h <;> rw [h] <;> decide)
theorem supL_lit {S : Sem} : ∀ {xs : List E} {ks : List UInt8},litK ks -> SupL S xs ks
 | [],ks,_ => by unfold SupL;trivial
 | x :: r,[],_ => by unfold SupL;trivial
 | x :: r,kd :: ks,hk => by
   unfold SupL
   exact ⟨fun h => by
    rcases hk kd (by simp) with h1 | h1 <;> rw [h1] at h <;> rcases h with h | h <;> exact absurd h (by decide),supL_lit fun k hm => hk k (by simp [hm])⟩
theorem meanL_lit {S : Sem} {x : E} {r : List E} {kd : UInt8} {ks : List UInt8} {vs : List VM} (hk : kd = 78 \/ kd = 76) (h : meanL S (x :: r) (kd :: ks) = .ok vs) : ∃ v vs',vs = v :: vs' /\ litM x.k x.n x.ls kd = .ok v /\ meanL S r ks = .ok vs' := by
 rw [qcH,argM_lit hk] at h
 split at h
 . cases h
 . rename_i v hv
   split at h
   . cases h
   . rename_i vs' hvs
     injection h with h
     exact ⟨v,vs',h.symm,hv,hvs⟩
theorem meanL_nil {S : Sem} {vs : List VM} (h : meanL S [] [] = .ok vs) : vs = [] := by
 unfold meanL at h
 injection h with h
 exact h.symm
theorem meanL_one {S : Sem} {x : E} {vs : List VM} (h : meanL S [x] [78] = .ok vs) : vs = [.num x.n] := by
 obtain ⟨v,vs',rfl,hv,h⟩ := meanL_lit (.inl rfl) h
 rw [lit_num hv,meanL_nil h]
theorem meanL_three {S : Sem} {x y z : E} {vs : List VM} (h : meanL S [x,y,z] [78,78,76] = .ok vs) : vs = [.num x.n,.num y.n,.lst z.ls] := by
 obtain ⟨v,vs',rfl,hv,h⟩ := meanL_lit (.inl rfl) h
 obtain ⟨u,us',rfl,hu,h⟩ := meanL_lit (.inl rfl) h
 obtain ⟨t,ts',rfl,ht,h⟩ := meanL_lit (.inr rfl) h
 rw [lit_num hv,lit_num hu,lit_lst ht,meanL_nil h]
theorem callT1 : ∀ (xs : Array Value) (w : World),(callFunc 46 xs).run Tryz.prog w = .ok (.enter 46 xs) w := fun xs w => by kernel_rfl
theorem callT2 : ∀ (xs : Array Value) (w : World),(callFunc 48 xs).run Tryz.prog w = .ok (.enter 48 xs) w := fun xs w => by kernel_rfl
theorem callR1 : ∀ (xs : Array Value) (w : World),(callFunc 81 xs).run Tryz.prog w = .ok (.enter 81 xs) w := fun xs w => by kernel_rfl
theorem gf_ct {xs : List E} {ks : List UInt8} {vs : List VM} (hk : (xs.length = 1 /\ ks = [78]) \/ (xs.length = 3 /\ ks = [78,78,76])) (hl : ∀ x,x ∈ xs -> x.ls.length <= 1000000) {S : Sem} (h : meanL S xs ks = .ok vs) : RowCt gfN ks vs (S0 gfN vs) := by
 intro w F g v1 v2 hri hv
 rcases hri with ⟨_,b,rfl,hcap⟩ | ⟨hne,_⟩
 . refine ⟨81,b,rfl,callR1,?_⟩
   rcases hk with ⟨h1,rfl⟩ | ⟨h3,rfl⟩
   . obtain ⟨x0,rfl⟩ : ∃ x0,xs = [x0] := List.length_eq_one_iff.1 h1
     have hvs := meanL_one h
     subst hvs
     rcases hcap with ⟨_,hcap⟩ | ⟨hne,_⟩
     . exact fieldRow1_c 46 b _ (stdM x0.n) F w callT1 hcap fun W hW => table1_c g 1 x0.n F W (hv.keep hW)
     . cases hne
   . obtain ⟨x0,x1,x2,rfl⟩ := len_three h3
     have hvs := meanL_three h
     subst hvs
     rcases hcap with ⟨hne,_⟩ | ⟨_,hcap⟩
     . cases hne
     . exact fieldRow1_c 48 b _ (chkR x0.n x1.n x2.ls) F w callT2 hcap fun W hW => table2_c g 3 x0.n x1.n x2.ls F W (hv.keep hW) (hl x2 (by simp))
 . exact absurd rfl hne
theorem mean0_ok {S : Sem} {k : Int} {nm : List UInt8} {n : Int} {ls : List Int} {xs : List E} {isF : Bool} {ks : List UInt8} (h : rowM k nm xs.length isF = .ok ks) : meanM S (.mk k nm n ls xs) isF = match meanL S xs ks with | .error e => .error e | .ok vs => S nm vs := by
 unfold meanM
 rw [h]
 rfl
end Go.Proofs.YtaddcadapbpkfaaGreatDoor
namespace Go.Proofs.YtaddcadapbpkfaaGreatDoor
open Go.RowKit Pln
def startM (S : Sem) (x : E) (isF : Bool) : Res := if checkE x = 0 then meanM S x isF else .error (checkE x)
def LSs (a w : World) : Prop := Below a.heap.size a w
set_option maxHeartbeats 4000000 in
set_option maxRecDepth 100000 in
theorem start_c (S : Sem) (x : E) (isF : Bool) (cs : List Value) (B : Nat) (w : World) (hsup : SupE S x isF) (h : ExprC w (· < B) x cs) (hB : B <= w.heap.size) (hs : sizeE x <= 1000000000) (he : entE x <= 9223372036854775807) (hp : Pows w) :
 Calls Tryz.prog 21 #[.agg cs.toArray,.bool isF] w (MeanPost w (· < B) (startM S x isF)) := by
 obtain ⟨k,nm,n,la,ll,lc,aa,al,ac,rfl⟩ := h.shape
 have HX := Lib.hid (bx2 w #[.int .i64 k,.string nm,.int .i64 n,.slice la ll lc,.slice aa al ac] #[.int .i64 0,.int .i64 0,.slice none 0 0,.int .i64 0,.int .i64 0,.slice none 0 0,.int .i64 0,.slice none 0 0,.int .i64 0,.slice none 0 0] 25 60)
 have HWL : Hid (((w.alloc (.cells #[.int .i64 k,.string nm,.int .i64 n,.slice la ll lc,.slice aa al ac] 25)).alloc (.cells #[.int .i64 0,.int .i64 0,.slice none 0 0,.int .i64 0,.int .i64 0,.slice none 0 0,.int .i64 0,.slice none 0 0,.int .i64 0,.slice none 0 0] 60)).heap.size = w.heap.size + 2) := by show _ = _;simp
 have HLC : Hid (∀ W,Below w.heap.size w W -> Calls Tryz.prog 23 #[.agg #[.int .i64 k,.string nm,.int .i64 n,.slice la ll lc,.slice aa al ac]] W fun e w' => e = .returned (.int .i64 (checkE x)) /\ Below W.heap.size W w') := fun W hW => check_cL x _ (· < B) W (ExprC.mono (fun b hb _ => ⟨hb,hW.block b (Nat.lt_of_lt_of_le hb hB)⟩) _ _ h) hs he (hp.keep hp.lt hW)
 have HMC : Hid (∀ tb W,Below w.heap.size w W -> Tb W tb (inBs (bas (upN 4))) -> Calls Tryz.prog 32 #[.agg #[.map (some tb)],.agg #[.int .i64 k,.string nm,.int .i64 n,.slice la ll lc,.slice aa al ac],.bool isF] W (MeanPost W (· < B) (meanM S x isF))) := fun tb W hW ht => mean_c S x isF _ tb B W hsup (ExprC.mono (fun b hb _ => ⟨hb,hW.block b (Nat.lt_of_lt_of_le hb hB)⟩) _ _ h) (Nat.le_trans hB hW.size) ht
 clear h hs he hp hsup
 go_enter Tryz.func21,Tryz.ntmps21
 go_upto_region 1 with fail
 generalize (w.alloc (.cells #[.int .i64 k,.string nm,.int .i64 n,.slice la ll lc,.slice aa al ac] 25)).alloc (.cells #[.int .i64 0,.int .i64 0,.slice none 0 0,.int .i64 0,.int .i64 0,.slice none 0 0,.int .i64 0,.slice none 0 0,.int .i64 0,.slice none 0 0] 60) = W at *
 have HXR : Hid (W.rangeAt w.heap.size 0 [.int .i64 k,.string nm,.int .i64 n,.slice la ll lc,.slice aa al ac]) := qaB (HX.out.at_ (i := 0) rfl)
 have HK : Hid (W.heap[w.heap.size + 1]? = some (.cells #[.int .i64 0,.int .i64 0,.slice none 0 0,.int .i64 0,.int .i64 0,.slice none 0 0,.int .i64 0,.slice none 0 0,.int .i64 0,.slice none 0 0] 60 (0,0))) := HX.out.at_ (i := 1) rfl
 go_wp2_with (refine wpList_load_mid rfl 25 (.tmp 2) rfl w.heap.size 0 rfl [.int .i64 k,.string nm,.int .i64 n,.slice la ll lc,.slice aa al ac] _ HXR.out Tryz.underlying25 rfl exprSize ?_)
 refine (HLC.out W HX.out.below).mono ?_
 rintro e w1 ⟨rfl,hb1⟩
 have HB1 := Lib.hid (HX.out.below.trans (hb1.mono HX.out.below.size))
 have HK1 := Lib.hid ((hb1.block _ (by have := HWL.out;omega)).trans HK.out)
 have HXR1 := Lib.hid (qaJ HXR.out (hb1.block _ (by have := HWL.out;omega)))
 have hw1 : w.heap.size + 2 <= w1.heap.size := by have := HWL.out;have := hb1.size;omega
 have HME : Hid (startM S x isF = if checkE x = 0 then meanM S x isF else .error (checkE x)) := rfl
 clear hb1 HLC HK HXR
 by_cases hc : checkE x = 0
 . rw [hc]
   have HM2 : Hid (startM S x isF = meanM S x isF) := by show _ = _;rw [HME.out,if_pos hc]
   clear HME hc
   have HRX : Hid (∀ W,LSs w1 W -> W.rangeAt w.heap.size 0 [.int .i64 k,.string nm,.int .i64 n,.slice la ll lc,.slice aa al ac]) := fun W hW => qaJ HXR1.out (Below.block hW _ (by omega))
   have HS0 : Hid (LSs w1 w1.drew) := (Below.refl _ _).drew
   go_upto_region 4 with fail
   refine qaZ 7 7 (LSs w1) [(0,2),(1,3),(2,0),(1,1),(2,4),(1,5),(1,6)] default (by kernel_rfl) (by kernel_rfl) (fun _ _ d _ _ h => by cases d <;> exact h) HS0.out ?_
   simp only [List.map_cons,List.map_nil,List.getD_cons_zero,List.getD_cons_succ]
   refine qaP rfl 25 (.tmp 2) rfl w.heap.size 0 rfl [.int .i64 k,.string nm,.int .i64 n,.slice la ll lc,.slice aa al ac] _ HRX.out Tryz.underlying25 rfl exprSize ?_
   go_simp
   apply qaQ rfl
   . intro W
     go_simp
     rfl
   go_simp
   apply qbF rfl
   . go_simp
     exact ⟨rfl,rfl⟩
   with_reducible refine (table_c _).mono ?_
   rintro e w2 ⟨⟨tb,rfl,htb⟩,hb2⟩
   have HS2 : Hid (LSs w1 w2) := HS0.out.trans (hb2.mono (Below.size HS0.out))
   refine ⟨_,rfl,HS2.out,?_⟩
   go_simp
   apply qaQ rfl
   . intro W
     go_simp
     rfl
   go_simp
   apply qbF rfl
   . go_simp
     exact ⟨rfl,rfl⟩
   have hbw2 : Below w.heap.size w w2 := HB1.out.trans (Below.mono HS2.out HB1.out.size)
   with_reducible refine (HMC.out tb w2 hbw2 htb).mono ?_
   rintro e w3 ⟨⟨cs,k3,rfl,hten,hone,hres⟩,hb3⟩
   have HS3 : Hid (LSs w1 w3) := Below.trans HS2.out (hb3.mono (Below.size HS2.out))
   refine ⟨_,rfl,HS3.out,?_⟩
   go_simp
   iterate 2
    apply qaQ rfl
    . intro W
      go_simp
      rfl
    go_simp
   refine qbX ?_
   have hs2 : w1.heap.size <= w2.heap.size := Below.size HS2.out
   have HRES : Hid (ResIs w3 (fun b => b < B \/ w2.heap.size <= b) (meanM S x isF) k3 cs) := hres
   have HTEN : Hid (cs.toArray.size = 10) := by show _ = _;simpa using hten
   have HONE : Hid (cs.toArray.all (fun v => v.oneCell') = true) := by show _ = _;simpa using hone
   have hvs : (Tryz.prog.info? 60).map (·.size) = some cs.toArray.size := by rw [HTEN.out];exact valueSize
   have HVS := Lib.hid hvs
   have HB3 := Lib.hid (HB1.out.trans (Below.mono HS3.out HB1.out.size))
   have HK3 := Lib.hid ((Below.block HS3.out _ (by omega)).trans HK1.out)
   clear hbw2 hb2 hb3 hres hten hone hvs htb HS2 HS3 HS0 HRX HXR1 HMC
   show wpList _ _ _ _ _ _
   go_simp
   go_wp2_with (refine qaA rfl 60 (.tmp 4) (.tmp 18) rfl _ (w.heap.size + 1) 60 #[.int .i64 0,.int .i64 0,.slice none 0 0,.int .i64 0,.int .i64 0,.slice none 0 0,.int .i64 0,.slice none 0 0,.int .i64 0,.slice none 0 0] cs.toArray rfl rfl HK3.out HVS.out HTEN.out.symm HONE.out ?_)
   refine bodyPost_ret (qaE (P := Tryz.prog) rfl _ _ (w.heap.size + 1) 60 cs.toArray (0,0) _ _ rfl rfl (qaF w3 (w.heap.size + 1) _ _ _ HK3.out) Tryz.underlying60 rfl HVS.out) rfl ?_
   rw [HM2.out]
   exact ⟨⟨cs,k3,rfl,by simpa using HTEN.out,by simpa using HONE.out,resIs_more HRES.out (fun b hb => by
    refine ⟨hb.imp id (fun h => by omega),?_⟩
    rcases hb with h | h <;> omega) _⟩,qaD HB3.out (by omega) _⟩
 . have hn0 : ((checkE x : Int) != 0) = true := by simpa using hc
   have HM2 : Hid (startM S x isF = .error (checkE x)) := by show _ = _;rw [HME.out,if_neg hc]
   have HNE := Lib.hid hc
   clear HME hc HMC
   generalize checkE x = ce at *
   go_wp2_with (refine qaA rfl 60 (.tmp 4) (.tmp 11) rfl _ (w.heap.size + 1) 60 #[.int .i64 0,.int .i64 0,.slice none 0 0,.int .i64 0,.int .i64 0,.slice none 0 0,.int .i64 0,.slice none 0 0,.int .i64 0,.slice none 0 0] #[.int .i64 0,.int .i64 0,.slice none 0 0,.int .i64 0,.int .i64 0,.slice none 0 0,.int .i64 0,.slice none 0 0,.int .i64 0,.slice none 0 0] rfl rfl HK1.out valueSize rfl (by simp [Value.oneCell']) ?_)
   refine bodyPost_ret (qaE (P := Tryz.prog) rfl _ _ (w.heap.size + 1) 60 #[.int .i64 0,.int .i64 0,.slice none 0 0,.int .i64 0,.int .i64 0,.slice none 0 0,.int .i64 0,.slice none 0 0,.int .i64 0,.slice none 0 0] (0,0) _ _ rfl rfl (qaF _ (w.heap.size + 1) _ _ _ HK1.out) Tryz.underlying60 rfl valueSize) rfl ?_
   rw [HM2.out]
   exact ⟨⟨#[.int .i64 0,.int .i64 0,.slice none 0 0,.int .i64 0,.int .i64 0,.slice none 0 0,.int .i64 0,.slice none 0 0,.int .i64 0,.slice none 0 0].toList,ce,rfl,rfl,qbQ rfl,⟨rfl,by have := HNE.out;omega⟩⟩,qaD HB1.out (by omega) _⟩
end Go.Proofs.YtaddcadapbpkfaaGreatDoor
namespace Go.Proofs.YtaddcadapbpkfaaGreatDoor
section
variable {P : Program} {ops : Array Oper} {md : Region.Mode} {S : World -> Prop} {Q : Exit -> Act -> World -> Prop} {n g s : Nat}
theorem oper_at' {l : List Oper} {d : Oper} {k : Nat} (hl : ops = l.toArray) (hkn : k < n) (hn : n <= ops.size) : ops[k]? = some (l.getD k d) := by
 have hlt : k < l.length := by rw [hl] at hn;simp at hn;omega
 rw [hl]
 simp [List.getD,hlt]
theorem wpAnyHA_first {i : Nat} {oi : Oper} {v : Value} {L : Array Bool -> Act -> World -> Prop} (hi : ops[i]? = some oi) (hsel : ∀ (j : Nat) (o : Oper) cs b,ops[j]? = some o -> o.op ≠ .select cs b)
 (htw : ∀ listed : Array Bool,HeadInv md ops n listed -> ∀ i,i < n -> listed.getD i true = false -> ∀ t,n <= t -> t ∉ Region.ready md ops listed) (hin : i < n) (his : i ≠ s)
 (hdone : ∀ listed a w,L listed a w -> ∀ j ∈ Region.ready md ops listed,n <= j)
 (hQ : ∀ c a w,Q (.panic c) (a.put oi.dst v) w -> Q (.panic c) a w) (T : World -> Prop)
 (hT : (∀ w,T w) \/ ((∀ w,S w -> T w) /\ Region.waitsFor md ops s i = true)) :
 ∀ (f : Nat) (listed : Array Bool) (a : Act) (w : World),HeadInv md ops n listed ->
  (∀ j oj,ops[j]? = some oj -> j ≠ i -> listed.getD j true = false -> (∀ e ∈ oj.after,Region.binds md e = true -> e.on ≠ i) -> oi.apart ops oj = true) ->
  i ∈ Region.ready md ops listed -> YieldsIf P ops T oi v a -> T w -> (listed.getD s false = false -> S w) ->
  wpAnyHF P md ops Q S n s L f (listed.setIfInBounds i true) (a.put oi.dst v) w -> wpAnyHF P md ops Q S n s L (f + 1) listed a w := by
 intro f
 induction f with
 | zero =>
   intro listed a w inv _ hr hy hTw hS H
   have hun := (mem_ready.1 hr).1
   refine ⟨fun h => (by rw [h] at hr;cases hr),fun j hj => ?_⟩
   have hjn : j < n := by
    rcases Nat.lt_or_ge j n with h | h
    . exact h
    . exact absurd hj (htw listed inv i hin hun j h)
   refine ⟨hjn,?_⟩
   by_cases hji : j = i
   . subst hji
     exact hy.wpOp hi hTw ⟨fun h => hS (by rwa [qaL his] at h),H⟩
   . have := hdone _ _ _ H j (ready_mono hj hji)
     omega
 | succ f ih =>
   intro listed a w inv hfree hr hy hTw hS H
   have hun := (mem_ready.1 hr).1
   refine ⟨fun h => (by rw [h] at hr;cases hr),fun j hj => ?_⟩
   have hjn : j < n := by
    rcases Nat.lt_or_ge j n with h | h
    . exact h
    . exact absurd hj (htw listed inv i hin hun j h)
   refine ⟨hjn,?_⟩
   by_cases hji : j = i
   . subst hji
     exact hy.wpOp hi hTw ⟨fun h => hS (by rwa [qaL his] at h),H⟩
   . have h1 := (H.2 j (ready_mono hj hji)).2
     obtain ⟨hjun,oj,hoj,hall⟩ := mem_ready.1 hj
     have hnot : ∀ e ∈ oj.after,Region.binds md e = true -> e.on ≠ i := fun e he hb heq => by
      have h1 := hall e he hb
      rw [heq,getD_both hun] at h1
      cases h1
     have h2 := wpOp_putIf hoj (hfree j oj hoj hji hjun hnot) (fun cs b => hsel i oi cs b hi) (fun cs b => hsel j oj cs b hoj) hQ hy h1
     have hfree' : ∀ k ok,ops[k]? = some ok -> k ≠ i -> (listed.setIfInBounds j true).getD k true = false ->
      (∀ e ∈ ok.after,Region.binds md e = true -> e.on ≠ i) -> oi.apart ops ok = true := fun k ok hk hki hun hno => by
      refine hfree k ok hk hki ?_ hno
      by_cases hjk : j = k
      . subst hjk;exact hjun
      . rw [getD_set_ne true hjk] at hun;exact hun
     have hflag : ((listed.setIfInBounds i true).setIfInBounds j true).getD s false = (listed.setIfInBounds j true).getD s false := by
      rw [Array.setIfInBounds_comm _ _ (Ne.symm hji),qaL his]
     refine wpOp_mono (fun a' w' h3 => ?_) h2
     have hS' : (listed.setIfInBounds j true).getD s false = false -> S w' := fun h => h3.2.1 (by rw [hflag];exact h)
     have hT' : T w' := by
      rcases hT with hT | ⟨hT,hw⟩
      . exact hT w'
      . refine hT w' (hS' ?_)
        have hjs : j ≠ s := fun e => by
         subst e
         obtain ⟨os,hos,e,he,hb,hon⟩ := Region.waitsFor_spec hw
         have : os = oj := Option.some.inj (hos.symm.trans hoj)
         subst this
         exact hnot e he hb hon
        rw [qaL hjs]
        cases hls : listed.getD s false with
        | false => rfl
        | true =>
          obtain ⟨os,hos,e,he,hb,hon⟩ := Region.waitsFor_spec hw
          have := inv.closed s os hos hls e he hb
          rw [hon,getD_both hun] at this
          cases this
     refine ⟨hS',ih (listed.setIfInBounds j true) a' w' (inv.set hj hjn) hfree' (ready_mono hr (Ne.symm hji)) h3.1 hT' hS' ?_⟩
     rw [Array.setIfInBounds_comm _ _ hji]
     exact h3.2.2
theorem qcJ {l : List Oper} {d : Oper} {Lq : Act -> World -> Prop} (hl : ops = l.toArray) (hsel : Region.noSelect ops = true) (htw : ∀ listed : Array Bool,HeadInv md ops n listed -> ∀ i,i < n -> listed.getD i true = false -> ∀ t,n <= t -> t ∉ Region.ready md ops listed) (hn : n <= ops.size) (hQ : ∀ c (a : Act) (dst : Option Tmp) v w,Q (.panic c) (a.put dst v) w -> Q (.panic c) a w) :
 ∀ (ord : List (Nat × Nat)) (listed : Array Bool) (a : Act) (w : World),HeadInv md ops n listed -> Region.mixFB md ops n g s ord listed = true -> (listed.getD s false = false -> S w) -> wpMixF P S Lq (ord.map fun x => (x.1,l.getD x.2 d)) a w ->
  wpAnyHF P md ops Q S n s (fun listed' a' w' => Region.seqB md ops g n listed' = true /\ Lq a' w') ord.length listed a w
 | [],listed,a,w,_,hB,_,h => ⟨hB,h⟩
 | (0,k) :: r,listed,a,w,inv,hB,hS,h => by
   simp only [Region.mixFB,Bool.and_eq_true,decide_eq_true_eq,Bool.not_eq_true'] at hB
   obtain ⟨⟨⟨⟨⟨⟨hr,hf⟩,hkn⟩,hks⟩,hw⟩,hls⟩,hB'⟩ := hB
   have hr' : k ∈ Region.ready md ops listed := by simpa using hr
   obtain ⟨v,⟨hg,hy⟩,hK⟩ := h
   have hk := oper_at' (d := d) hl hkn hn
   exact wpAnyHA_first hk (Region.noSelect_spec hsel) htw hkn hks (fun listed' a' w' hL => seqB_ready hL.1) (fun c a w => hQ c a _ v w) S (.inr ⟨fun _ h => h,hw⟩) r.length listed a w inv (Region.free_spec hk hf) hr' (.inl ⟨qaO hg _,hy⟩) (hS hls) hS
    (qcJ hl hsel htw hn hQ r _ _ _ (inv.set hr' hkn) hB' (fun h => hS (by rwa [qaL hks] at h)) hK)
 | (1,k) :: r,listed,a,w,inv,hB,hS,h => by
   simp only [Region.mixFB,Bool.and_eq_true,decide_eq_true_eq] at hB
   obtain ⟨⟨⟨⟨hr,hf⟩,hkn⟩,hks⟩,hB'⟩ := hB
   have hr' : k ∈ Region.ready md ops listed := by simpa using hr
   obtain ⟨v,⟨hg,hy⟩,hK⟩ := h
   have hk := oper_at' (d := d) hl hkn hn
   exact wpAnyHA_first hk (Region.noSelect_spec hsel) htw hkn hks (fun listed' a' w' hL => seqB_ready hL.1) (fun c a w => hQ c a _ v w) (fun _ => True) (.inl fun _ => trivial) r.length listed a w inv (Region.free_spec hk hf) hr' (.inl ⟨qaO hg _,fun w _ => hy w⟩) trivial hS
    (qcJ hl hsel htw hn hQ r _ _ _ (inv.set hr' hkn) hB' (fun h => hS (by rwa [qaL hks] at h)) hK)
 | (2,k) :: r,listed,a,w,inv,hB,hS,h => by
   simp only [Region.mixFB,Bool.and_eq_true,decide_eq_true_eq] at hB
   obtain ⟨⟨hr,hkn⟩,hB'⟩ := hB
   obtain ⟨hg,hcase⟩ := h
   have hk := oper_at' (d := d) hl hkn hn
   refine ⟨fun h0 => (by rw [hr] at h0;cases h0),fun j hj => ?_⟩
   have hj' := hj
   rw [hr] at hj
   have hji : j = k := by simpa using hj
   subst hji
   refine ⟨hkn,?_⟩
   unfold wpOp
   simp only [hk]
   rw [if_pos (qaO hg _)]
   refine .inl ?_
   unfold Oper.wp
   rcases hcase with ⟨f,args,hrun,hcall⟩ | ⟨v,w',hrun,hS',h1⟩
   . rw [hrun]
     exact hcall.mono fun e w' ⟨u,he,hS',h1⟩ => by
      subst he
      exact ⟨fun _ => hS',qcJ hl hsel htw hn hQ r _ _ _ (inv.set hj' hkn) hB' (fun _ => hS') h1⟩
   . rw [hrun]
     exact ⟨fun _ => hS',qcJ hl hsel htw hn hQ r _ _ _ (inv.set hj' hkn) hB' (fun _ => hS') h1⟩
 | (t + 3,k) :: r,listed,a,w,inv,hB,hS,h => by
   simp only [Region.mixFB,Bool.and_eq_true,decide_eq_true_eq] at hB
   obtain ⟨⟨⟨⟨hr,hkn⟩,hks⟩,hfl⟩,hB'⟩ := hB
   obtain ⟨hg,w',hrun,h1⟩ := h
   have hk := oper_at' (d := d) hl hkn hn
   refine ⟨fun h0 => (by rw [hr] at h0;cases h0),fun j hj => ?_⟩
   have hj' := hj
   rw [hr] at hj
   have hji : j = k := by simpa using hj
   subst hji
   refine ⟨hkn,?_⟩
   unfold wpOp
   simp only [hk]
   rw [if_pos (qaO hg _)]
   refine .inl ?_
   unfold Oper.wp
   rw [hrun]
   have hno : (listed.setIfInBounds j true).getD s false = false -> S w' := fun h => by rw [hfl] at h;cases h
   exact ⟨hno,qcJ hl hsel htw hn hQ r _ _ _ (inv.set hj' hkn) hB' hno h1⟩
def Region.mixAllB (md : Region.Mode) (ops : Array Oper) (s : Nat) (ord : List (Nat × Nat)) : Bool :=
 Region.noSelect ops && decide (ord.length = ops.size) && Region.mixFB md ops ops.size 0 s ord (Array.replicate ops.size false)
theorem wp_region_mixa {id : Nat} {a : Act} {w : World} {l : List Oper} (s : Nat) (S : World -> Prop) (ord : List (Nat × Nat)) (d : Oper) (hm : P.follows .mixedOrders = true) (hB : Region.mixAllB .any l.toArray s ord = true) (hQ : ∀ c (a : Act) (dst : Option Tmp) v w,Q (.panic c) (a.put dst v) w -> Q (.panic c) a w)
 (hS : S w.drew) (h : wpMixF P S (wpList P l.toArray Q []) (ord.map fun x => (x.1,l.getD x.2 d)) a w.drew) : (Code.region id l.toArray true).wp P Q a w := by
 simp only [Region.mixAllB,Bool.and_eq_true,decide_eq_true_eq] at hB
 obtain ⟨⟨hsel,hol⟩,hmix⟩ := hB
 have inv0 : HeadInv .any l.toArray l.toArray.size (Array.replicate l.toArray.size false) :=
  ⟨by simp,fun j oj _ hl => (by rw [getD_replicate_false] at hl;cases hl),fun t _ ht => getD_in (by simpa using ht) (getD_replicate_false _ _)⟩
 have htw : ∀ listed : Array Bool,HeadInv .any l.toArray l.toArray.size listed -> ∀ i,i < l.toArray.size -> listed.getD i true = false -> ∀ t,l.toArray.size <= t -> t ∉ Region.ready .any l.toArray listed := fun listed _ i _ _ t ht hr => by
  obtain ⟨_,ot,hot,_⟩ := mem_ready.1 hr
  have := (Array.getElem?_eq_some_iff.1 hot).1
  omega
 have H := qcJ (P := P) (Q := Q) (md := .any) (g := 0) rfl hsel htw (Nat.le_refl _) hQ ord _ a w.drew inv0 hmix (fun _ => hS) h
 refine wp_region_any hm ?_
 have := qdX (g := 0) (fun listed' a' w' hL => by
  have := wpAny_of_seq (P := P) (md := .any) (Q' := Q) [] l.toArray.size listed' a' w' (fun j => by simp) (by simpa using hL.1) hL.2
  simpa using this) _ _ a w.drew H
 rw [hol] at this
 exact this
end
end Go.Proofs.YtaddcadapbpkfaaGreatDoor
