/-
  The law: a literal argument, and the field of gf. The law: the field of gf. The law: what mean answers of an expression that has no row of a field.
-/
import Derived.Test.YtaddcadapbpkfaaGreatDoorQ36
namespace Go.Proofs.YtaddcadapbpkfaaGreatDoor
open Go.RowKit Pln

def litE (k : Int) (kd : UInt8) : Int := if k = 4 then 15 else if (kd = 78 /\ k = 1) \/ (kd = 76 /\ k = 2) then 0 else 17
def lvC (n : Int) (la : Option Addr) (ll lc : Nat) : List Value := [.int .i64 0,.int .i64 0,.slice none 0 0,.int .i64 0,.int .i64 0,.slice none 0 0,.int .i64 0,.slice none 0 0,.int .i64 n,.slice la ll lc]
def lvZ : List Value := [.int .i64 0,.int .i64 0,.slice none 0 0,.int .i64 0,.int .i64 0,.slice none 0 0,.int .i64 0,.slice none 0 0,.int .i64 0,.slice none 0 0]
theorem lawvSize : (Tryz.prog.info? 37).map (·.size) = some 10 := by kernel_rfl
def OnePost (w : World) (k : Int) (kd : UInt8) (n : Int) (la : Option Addr) (ll lc : Nat) (e : Ending) (w' : World) : Prop :=
  e = .returned (.tuple #[.agg (if litE k kd = 0 then lvC n la ll lc else lvZ).toArray,.int .i64 (litE k kd)]) /\ Below w.heap.size w w'

set_option maxHeartbeats 4000000 in
set_option maxRecDepth 100000 in
theorem one_c (k : Int) (nm : ByteArray) (n : Int) (la : Option Addr) (ll lc : Nat) (aa : Option Addr) (al ac : Nat) (kd : UInt8) (w : World) (hkd : kd = 78 \/ kd = 76) :
    Calls Tryz.prog 34 #[.agg #[.int .i64 k,.string nm,.int .i64 n,.slice la ll lc,.slice aa al ac],.int .u8 kd.toNat] w (OnePost w k kd n la ll lc) := by
  have HB := Lib.hid (bx2 w #[.int .i64 k,.string nm,.int .i64 n,.slice la ll lc,.slice aa al ac] #[.int .i64 0,.int .i64 0,.slice none 0 0,.int .i64 0,.int .i64 0,.slice none 0 0,.int .i64 0,.slice none 0 0,.int .i64 0,.slice none 0 0] 25 37)
  have HKD := Lib.hid hkd
  clear hkd
  go_enter Tryz.func34,Tryz.ntmps34
  go_upto_region 1 with fail
  generalize (w.alloc (.cells #[.int .i64 k,.string nm,.int .i64 n,.slice la ll lc,.slice aa al ac] 25)).alloc (.cells #[.int .i64 0,.int .i64 0,.slice none 0 0,.int .i64 0,.int .i64 0,.slice none 0 0,.int .i64 0,.slice none 0 0,.int .i64 0,.slice none 0 0] 37) = W at *
  have hb0 : W.heap[w.heap.size]? = some (.cells #[.int .i64 k,.string nm,.int .i64 n,.slice la ll lc,.slice aa al ac] 25 (0,0)) := HB.out.at_ (i := 0) rfl
  obtain ⟨b0,b1,b2,b3,b4⟩ := cells5 hb0
  clear hb0
  have HK : Hid (W.heap[w.heap.size + 1]? = some (.cells #[.int .i64 0,.int .i64 0,.slice none 0 0,.int .i64 0,.int .i64 0,.slice none 0 0,.int .i64 0,.slice none 0 0,.int .i64 0,.slice none 0 0] 37 (0,0))) := HB.out.at_ (i := 1) rfl
  rcases HKD.out with rfl | rfl
  . clear HKD
    by_cases h4 : k = 4
    . subst h4
      go_wp2_with (refine wpList_store_row rfl 37 (.tmp 4) (.tmp 22) rfl _ (w.heap.size + 1) 37 #[.int .i64 0,.int .i64 0,.slice none 0 0,.int .i64 0,.int .i64 0,.slice none 0 0,.int .i64 0,.slice none 0 0,.int .i64 0,.slice none 0 0] #[.int .i64 0,.int .i64 0,.slice none 0 0,.int .i64 0,.int .i64 0,.slice none 0 0,.int .i64 0,.slice none 0 0,.int .i64 0,.slice none 0 0] rfl rfl HK.out lawvSize rfl (by simp [Value.oneCell']) ?_)
      refine bodyPost_ret (results_row_one (P := Tryz.prog) rfl _ _ (w.heap.size + 1) 37 #[.int .i64 0,.int .i64 0,.slice none 0 0,.int .i64 0,.int .i64 0,.slice none 0 0,.int .i64 0,.slice none 0 0,.int .i64 0,.slice none 0 0] (0,0) _ _ rfl rfl (setRow_same W (w.heap.size + 1) _ _ _ HK.out) Tryz.underlying37 rfl lawvSize) rfl ?_
      exact ⟨rfl,below_setRow HB.out.below (by omega) _⟩
    . have e4 : (k == 4) = false := by simpa using h4
      rcases Bool.eq_false_or_eq_true (k == 1) with e1 | e1
      . have hE : litE k 78 = 0 := by unfold litE;rw [if_neg h4,if_pos (by first | exact .inl ⟨rfl,by simpa using e1⟩ | exact .inr ⟨rfl,by simpa using e1⟩)]
        have HE := Lib.hid hE
        clear hE h4
        go_wp2_with (refine wpList_store_row rfl 37 (.tmp 4) (.tmp 44) rfl _ (w.heap.size + 1) 37 #[.int .i64 0,.int .i64 0,.slice none 0 0,.int .i64 0,.int .i64 0,.slice none 0 0,.int .i64 0,.slice none 0 0,.int .i64 0,.slice none 0 0] #[.int .i64 0,.int .i64 0,.slice none 0 0,.int .i64 0,.int .i64 0,.slice none 0 0,.int .i64 0,.slice none 0 0,.int .i64 n,.slice la ll lc] rfl rfl HK.out lawvSize rfl (by simp [Value.oneCell']) ?_)
        refine bodyPost_ret (results_row_one (P := Tryz.prog) rfl _ _ (w.heap.size + 1) 37 #[.int .i64 0,.int .i64 0,.slice none 0 0,.int .i64 0,.int .i64 0,.slice none 0 0,.int .i64 0,.slice none 0 0,.int .i64 n,.slice la ll lc] (0,0) _ _ rfl rfl (setRow_same W (w.heap.size + 1) _ _ _ HK.out) Tryz.underlying37 rfl lawvSize) rfl ?_
        unfold OnePost
        rw [HE.out]
        exact ⟨rfl,below_setRow HB.out.below (by omega) _⟩
      . have hE : litE k 78 = 17 := by unfold litE;rw [if_neg h4,if_neg (fun h => by rcases h with ⟨h,h'⟩ | ⟨h,h'⟩ <;> first | exact absurd h (by decide) | (rw [h'] at e1;exact absurd e1 (by decide)))]
        have HE := Lib.hid hE
        clear hE h4
        go_wp2_with (refine wpList_store_row rfl 37 (.tmp 4) (.tmp 45) rfl _ (w.heap.size + 1) 37 #[.int .i64 0,.int .i64 0,.slice none 0 0,.int .i64 0,.int .i64 0,.slice none 0 0,.int .i64 0,.slice none 0 0,.int .i64 0,.slice none 0 0] #[.int .i64 0,.int .i64 0,.slice none 0 0,.int .i64 0,.int .i64 0,.slice none 0 0,.int .i64 0,.slice none 0 0,.int .i64 0,.slice none 0 0] rfl rfl HK.out lawvSize rfl (by simp [Value.oneCell']) ?_)
        refine bodyPost_ret (results_row_one (P := Tryz.prog) rfl _ _ (w.heap.size + 1) 37 #[.int .i64 0,.int .i64 0,.slice none 0 0,.int .i64 0,.int .i64 0,.slice none 0 0,.int .i64 0,.slice none 0 0,.int .i64 0,.slice none 0 0] (0,0) _ _ rfl rfl (setRow_same W (w.heap.size + 1) _ _ _ HK.out) Tryz.underlying37 rfl lawvSize) rfl ?_
        unfold OnePost
        rw [HE.out]
        exact ⟨rfl,below_setRow HB.out.below (by omega) _⟩
  . clear HKD
    by_cases h4 : k = 4
    . subst h4
      go_wp2_with (refine wpList_store_row rfl 37 (.tmp 4) (.tmp 22) rfl _ (w.heap.size + 1) 37 #[.int .i64 0,.int .i64 0,.slice none 0 0,.int .i64 0,.int .i64 0,.slice none 0 0,.int .i64 0,.slice none 0 0,.int .i64 0,.slice none 0 0] #[.int .i64 0,.int .i64 0,.slice none 0 0,.int .i64 0,.int .i64 0,.slice none 0 0,.int .i64 0,.slice none 0 0,.int .i64 0,.slice none 0 0] rfl rfl HK.out lawvSize rfl (by simp [Value.oneCell']) ?_)
      refine bodyPost_ret (results_row_one (P := Tryz.prog) rfl _ _ (w.heap.size + 1) 37 #[.int .i64 0,.int .i64 0,.slice none 0 0,.int .i64 0,.int .i64 0,.slice none 0 0,.int .i64 0,.slice none 0 0,.int .i64 0,.slice none 0 0] (0,0) _ _ rfl rfl (setRow_same W (w.heap.size + 1) _ _ _ HK.out) Tryz.underlying37 rfl lawvSize) rfl ?_
      exact ⟨rfl,below_setRow HB.out.below (by omega) _⟩
    . have e4 : (k == 4) = false := by simpa using h4
      rcases Bool.eq_false_or_eq_true (k == 2) with e1 | e1
      . have hE : litE k 76 = 0 := by unfold litE;rw [if_neg h4,if_pos (by first | exact .inl ⟨rfl,by simpa using e1⟩ | exact .inr ⟨rfl,by simpa using e1⟩)]
        have HE := Lib.hid hE
        clear hE h4
        go_wp2_with (refine wpList_store_row rfl 37 (.tmp 4) (.tmp 44) rfl _ (w.heap.size + 1) 37 #[.int .i64 0,.int .i64 0,.slice none 0 0,.int .i64 0,.int .i64 0,.slice none 0 0,.int .i64 0,.slice none 0 0,.int .i64 0,.slice none 0 0] #[.int .i64 0,.int .i64 0,.slice none 0 0,.int .i64 0,.int .i64 0,.slice none 0 0,.int .i64 0,.slice none 0 0,.int .i64 n,.slice la ll lc] rfl rfl HK.out lawvSize rfl (by simp [Value.oneCell']) ?_)
        refine bodyPost_ret (results_row_one (P := Tryz.prog) rfl _ _ (w.heap.size + 1) 37 #[.int .i64 0,.int .i64 0,.slice none 0 0,.int .i64 0,.int .i64 0,.slice none 0 0,.int .i64 0,.slice none 0 0,.int .i64 n,.slice la ll lc] (0,0) _ _ rfl rfl (setRow_same W (w.heap.size + 1) _ _ _ HK.out) Tryz.underlying37 rfl lawvSize) rfl ?_
        unfold OnePost
        rw [HE.out]
        exact ⟨rfl,below_setRow HB.out.below (by omega) _⟩
      . have hE : litE k 76 = 17 := by unfold litE;rw [if_neg h4,if_neg (fun h => by rcases h with ⟨h,h'⟩ | ⟨h,h'⟩ <;> first | exact absurd h (by decide) | (rw [h'] at e1;exact absurd e1 (by decide)))]
        have HE := Lib.hid hE
        clear hE h4
        go_wp2_with (refine wpList_store_row rfl 37 (.tmp 4) (.tmp 45) rfl _ (w.heap.size + 1) 37 #[.int .i64 0,.int .i64 0,.slice none 0 0,.int .i64 0,.int .i64 0,.slice none 0 0,.int .i64 0,.slice none 0 0,.int .i64 0,.slice none 0 0] #[.int .i64 0,.int .i64 0,.slice none 0 0,.int .i64 0,.int .i64 0,.slice none 0 0,.int .i64 0,.slice none 0 0,.int .i64 0,.slice none 0 0] rfl rfl HK.out lawvSize rfl (by simp [Value.oneCell']) ?_)
        refine bodyPost_ret (results_row_one (P := Tryz.prog) rfl _ _ (w.heap.size + 1) 37 #[.int .i64 0,.int .i64 0,.slice none 0 0,.int .i64 0,.int .i64 0,.slice none 0 0,.int .i64 0,.slice none 0 0,.int .i64 0,.slice none 0 0] (0,0) _ _ rfl rfl (setRow_same W (w.heap.size + 1) _ _ _ HK.out) Tryz.underlying37 rfl lawvSize) rfl ?_
        unfold OnePost
        rw [HE.out]
        exact ⟨rfl,below_setRow HB.out.below (by omega) _⟩
end Go.Proofs.YtaddcadapbpkfaaGreatDoor

namespace Go.Proofs.YtaddcadapbpkfaaGreatDoor
open Go.RowKit Pln

def FldL (w : World) (F : Nat -> Prop) (r : FR) (e : Ending) (w' : World) : Prop :=
  (∃ (A : Option Addr) (c : Nat),e = .returned (.tuple #[.agg #[.int .i64 r.p,.int .i64 r.m,.slice A r.mod.length c],.int .i64 r.e]) /\ IntsF w' (fun b => F b \/ w.heap.size <= b) A r.mod) /\ Below w.heap.size w w'
theorem fldL_of_post {w : World} {F : Nat -> Prop} {r : FR} {e : Ending} {w' : World} (h : FldPost w r e w') : FldL w F r e w' := by
  obtain ⟨⟨A,c,rfl,hA⟩,hb⟩ := h
  exact ⟨⟨A,c,rfl,(ints_up hA).mono fun b hb _ => ⟨.inr hb,rfl⟩⟩,hb⟩

set_option maxHeartbeats 4000000 in
set_option maxRecDepth 100000 in
theorem theField1_c (g c : Nat) (n : Int) (F : Nat -> Prop) (w : World) (hg : g < w.heap.size) (hv : w.cell? ⟨g,8,none⟩ = some (.int .i64 n)) :
    Calls Tryz.prog 35 #[.slice (some ⟨g,0,none⟩) 1 c] w (FldL w F (stdM n)) := by
  have HX := Lib.hid (bx1 w #[.int .i64 0,.int .i64 0,.slice none 0 0] 29)
  have HV := Lib.hid ((HX.out.below.cell (p := ⟨g,8,none⟩) hg).trans hv)
  have hWl : w.heap.size < (w.alloc (.cells #[.int .i64 0,.int .i64 0,.slice none 0 0] 29)).heap.size := by simp
  clear hv
  go_enter Tryz.func35,Tryz.ntmps35
  go_upto_region 1 with fail
  generalize w.alloc (.cells #[.int .i64 0,.int .i64 0,.slice none 0 0] 29) = W at *
  have c8 := HV.out
  go_wp2_with fail
  refine (std_c n W).mono ?_
  rintro e w1 ⟨⟨A,c',rfl,hA⟩,hb1⟩
  have HX1 := Lib.hid (HX.out.keep hb1)
  have HA := Lib.hid hA
  have k0 := HX1.out.at_ (i := 0) rfl
  have HK0 := Lib.hid k0
  clear hb1 hA c8 k0
  have HKY : Hid ((w1.setRow w.heap.size #[.int .i64 (stdM n).p,.int .i64 (stdM n).m,.slice A (stdM n).mod.length c']).heap[w.heap.size]? = some (.cells #[.int .i64 (stdM n).p,.int .i64 (stdM n).m,.slice A (stdM n).mod.length c'] 29 (0,0))) := setRow_same _ _ _ _ _ HK0.out
  go_wp2_with (refine wpList_store_row rfl 29 (.tmp 2) (.tmp 14) rfl _ w.heap.size 29 #[.int .i64 0,.int .i64 0,.slice none 0 0] #[.int .i64 (stdM n).p,.int .i64 (stdM n).m,.slice A (stdM n).mod.length c'] rfl rfl HK0.out fieldSize rfl (by simp [Value.oneCell']) ?_)
  refine bodyPost_ret (results_row_one (P := Tryz.prog) rfl _ _ w.heap.size 29 #[.int .i64 (stdM n).p,.int .i64 (stdM n).m,.slice A (stdM n).mod.length c'] (0,0) _ _ rfl rfl HKY.out Tryz.underlying29 rfl fieldSize) rfl ?_
  refine fldL_of_post ⟨⟨A,c',rfl,?_⟩,below_setRow HX1.out.below (Nat.le_refl _) _⟩
  exact (HA.out.of_blocks (by simp) (fun k hk _ => setRow_other _ _ _ _ (by omega))).lower (Nat.le_of_lt hWl)
def RelLf (w : World) (p m : Int) (A : Option Addr) (ll lc : Nat) (v4 : Value) (wx : World) : Prop :=
  ∃ b : Nat,v4 = .pointer (some ⟨b,0,none⟩) /\ w.heap.size < b /\ wx.heap[b]? = some (.cells [.int .i64 p,.int .i64 m,.slice A ll lc].toArray 29 (0,0)) /\ Bx w [([.int .i64 0,.int .i64 0,.slice none 0 0],29)] wx

set_option maxHeartbeats 4000000 in
set_option maxRecDepth 100000 in
theorem theField3_c (g c : Nat) (p m : Int) (l : List Int) (A : Option Addr) (cl : Nat) (F : Nat -> Prop) (w : World) (hg : g < w.heap.size) (h0 : w.cell? ⟨g,8,none⟩ = some (.int .i64 p)) (h1 : w.cell? ⟨g,18,none⟩ = some (.int .i64 m))
    (h2 : w.cell? ⟨g,29,none⟩ = some (.slice A l.length cl)) (hA : IntsF w F A l) (hl : l.length <= 1000000) :
    Calls Tryz.prog 35 #[.slice (some ⟨g,0,none⟩) 3 c] w (FldL w F (chkR p m l)) := by
  have HX := Lib.hid (bx1 w #[.int .i64 0,.int .i64 0,.slice none 0 0] 29)
  have HA := Lib.hid hA
  have HA2 := Lib.hid hA
  have hWl : w.heap.size + 1 = (w.alloc (.cells #[.int .i64 0,.int .i64 0,.slice none 0 0] 29)).heap.size := by simp
  have HWL := Lib.hid hWl
  have H0 := Lib.hid ((HX.out.below.cell (p := ⟨g,8,none⟩) hg).trans h0)
  have H1 := Lib.hid ((HX.out.below.cell (p := ⟨g,18,none⟩) hg).trans h1)
  have H2 := Lib.hid ((HX.out.below.cell (p := ⟨g,29,none⟩) hg).trans h2)
  clear hA hWl h0 h1 h2
  go_enter Tryz.func35,Tryz.ntmps35
  go_upto_region 3 with fail
  generalize w.alloc (.cells #[.int .i64 0,.int .i64 0,.slice none 0 0] 29) = W0 at *
  have hgW : g < W0.heap.size := by have := HWL.out;omega
  have HCV : Hid (∀ W,LSt2 W0 W -> W.cell? ⟨g,8,none⟩ = some (.int .i64 p) /\ W.cell? ⟨g,18,none⟩ = some (.int .i64 m) /\ W.cell? ⟨g,29,none⟩ = some (.slice A l.length cl)) := fun W hW =>
    ⟨(Below.cell hW (p := ⟨g,8,none⟩) hgW).trans H0.out,(Below.cell hW (p := ⟨g,18,none⟩) hgW).trans H1.out,(Below.cell hW (p := ⟨g,29,none⟩) hgW).trans H2.out⟩
  have HS0 : Hid (LSt2 W0 W0.drew) := (Below.refl _ _).drew
  go_cut [4] (fun v4 wx => RelLf w p m A l.length cl v4 wx)
  case first =>
    refine wp_region_mixx 14 14 13 (LSt2 W0) [(1,0),(1,1),(1,2),(0,3),(1,4),(1,5),(1,6),(0,7),(1,8),(1,9),(1,10),(0,11),(1,12)] [] default _ (.cells #[.int .i64 0,.int .i64 0,.slice none 0 0] 29) (by kernel_rfl) (by kernel_rfl) (fun _ _ d _ _ h => by cases d <;> exact h) rfl rfl ?_ (fun W h => Below.alloc h (Below.size h) _) HS0.out ?_
    . intro a w
      unfold ptrTo
      go_simp
    simp only [List.map_cons,List.map_nil,List.getD_cons_zero,List.getD_cons_succ]
    iterate 3
      iterate 3
        apply x_free rfl
        . intro W
          go_simp
          rfl
        go_simp
      apply x_val rfl
      . intro W hW
        obtain ⟨z0,z1,z2⟩ := HCV.out W hW
        go_simp
        rfl
      go_simp
    apply x_free rfl
    . intro W
      go_simp
      rfl
    go_simp
    refine x_nil ?_
    intro W3 b hW3 hS3 hlo hF hb
    have HX3 := Lib.hid (HX.out.keep hS3)
    have HB := Lib.hid hb
    have hbg : w.heap.size < b := by have := HWL.out;omega
    have HKY : Hid ((W3.setRow b #[.int .i64 p,.int .i64 m,.slice A l.length cl]).heap[b]? = some (.cells #[.int .i64 p,.int .i64 m,.slice A l.length cl] 29 (0,0))) := setRow_same _ _ _ _ _ hb
    have HTY : Hid (Bx w [([.int .i64 0,.int .i64 0,.slice none 0 0],29)] (W3.setRow b #[.int .i64 p,.int .i64 m,.slice A l.length cl])) := by
      refine ⟨below_setRow HX3.out.1 (by omega) _,by simpa using HX3.out.2.1,fun i cc hcc => ?_⟩
      have hi : i = 0 := by have := (List.getElem?_eq_some_iff.1 hcc).1;simp at this;exact this
      subst hi
      exact (setRow_other W3 b _ _ (by omega)).trans (HX3.out.2.2 0 cc hcc)
    show wpList _ _ _ _ _ _
    go_simp
    clear hW3 hS3 hlo hb hF
    go_wp2_with (refine wpList_store_row rfl 29 (.tmp 4) (.tmp 28) rfl W3 b 29 #[.int .i64 0,.int .i64 0,.slice none 0 0] #[.int .i64 p,.int .i64 m,.slice A l.length cl] rfl rfl HB.out fieldSize rfl (by simp [Value.oneCell']) ?_)
    go_meet
    exact ⟨b,rfl,hbg,HKY.out,HTY.out⟩
  case rest =>
    obtain ⟨b,rfl,hbg,hkb,hx⟩ := hcut
    have HKB := Lib.hid hkb
    have HX2 := Lib.hid hx
    have hbl : b < wc.heap.size := (Array.getElem?_eq_some_iff.1 hkb).1
    have hAc : IntsF wc (fun b => F b \/ w.heap.size <= b) A l := HA.out.mono fun b hF hlt => ⟨.inl hF,hx.below.block b hlt⟩
    have HAC := Lib.hid hAc
    have HCK := Lib.hid (fcheck_c p m l A cl wc hAc.at_ (by omega))
    clear hkb hx HX HCV HS0 HA H0 H1 H2 hAc
    go_wp2_with (refine wpList_load_mid rfl 29 (.tmp 4) rfl b 0 rfl [.int .i64 p,.int .i64 m,.slice A l.length cl] _ (range_of_row HKB.out) Tryz.underlying29 rfl fieldSize ?_)
    refine HCK.out.mono ?_
    rintro e w2 ⟨rfl,hb2⟩
    have HKB2 := Lib.hid ((hb2.block b hbl).trans HKB.out)
    have HAC2 := Lib.hid (HAC.out.mono fun b hF hlt => ⟨hF,hb2.block b hlt⟩)
    have HX3 := Lib.hid (HX2.out.keep hb2)
    have k0 := HX3.out.at_ (i := 0) rfl
    have HK0 := Lib.hid k0
    have hw2 : w.heap.size < w2.heap.size := by have := hb2.size;omega
    clear hb2 HKB HX2 HCK k0 HAC
    cases hf : fieldOK p m l
    . have HRE : Hid (chkR p m l = .err 1) := by show _ = _;unfold chkR;rw [hf];rfl
      rw [show errF false = 1 from rfl]
      clear hf
      have HKY : Hid ((w2.setRow w.heap.size #[.int .i64 0,.int .i64 0,.slice none 0 0]).heap[w.heap.size]? = some (.cells #[.int .i64 0,.int .i64 0,.slice none 0 0] 29 (0,0))) := setRow_same _ _ _ _ _ HK0.out
      go_wp2_with (refine wpList_store_row rfl 29 (.tmp 2) (.tmp 33) rfl w2 w.heap.size 29 #[.int .i64 0,.int .i64 0,.slice none 0 0] #[.int .i64 0,.int .i64 0,.slice none 0 0] rfl rfl HK0.out fieldSize rfl (by simp [Value.oneCell']) ?_)
      refine bodyPost_ret (results_row_one (P := Tryz.prog) rfl _ _ w.heap.size 29 #[.int .i64 0,.int .i64 0,.slice none 0 0] (0,0) _ _ rfl rfl HKY.out Tryz.underlying29 rfl fieldSize) rfl ?_
      rw [HRE.out]
      exact ⟨⟨none,0,rfl,fun h => by simp [FR.err] at h⟩,below_setRow HX3.out.below (Nat.le_refl _) _⟩
    . have HRE : Hid (chkR p m l = ⟨0,p,m,l⟩) := by show _ = _;unfold chkR;rw [hf];rfl
      rw [show errF true = 0 from rfl]
      clear hf
      have HKY : Hid ((w2.setRow w.heap.size #[.int .i64 p,.int .i64 m,.slice A l.length cl]).heap[w.heap.size]? = some (.cells #[.int .i64 p,.int .i64 m,.slice A l.length cl] 29 (0,0))) := setRow_same _ _ _ _ _ HK0.out
      go_wp2_with (first
        | (refine wpList_load_mid rfl 29 (.tmp 4) rfl b 0 rfl [.int .i64 p,.int .i64 m,.slice A l.length cl] _ (range_of_row HKB2.out) Tryz.underlying29 rfl fieldSize ?_)
        | (refine wpList_store_row rfl 29 (.tmp 2) (.tmp 35) rfl w2 w.heap.size 29 #[.int .i64 0,.int .i64 0,.slice none 0 0] #[.int .i64 p,.int .i64 m,.slice A l.length cl] rfl rfl HK0.out fieldSize rfl (by simp [Value.oneCell']) ?_))
      refine bodyPost_ret (results_row_one (P := Tryz.prog) rfl _ _ w.heap.size 29 #[.int .i64 p,.int .i64 m,.slice A l.length cl] (0,0) _ _ rfl rfl HKY.out Tryz.underlying29 rfl fieldSize) rfl ?_
      rw [HRE.out]
      exact ⟨⟨A,cl,rfl,HA2.out.mono fun b hF hlt => ⟨.inl hF,(setRow_other w2 w.heap.size b _ (by omega)).trans (HX3.out.below.block b hlt)⟩⟩,below_setRow HX3.out.below (Nat.le_refl _) _⟩
end Go.Proofs.YtaddcadapbpkfaaGreatDoor

namespace Go.Proofs.YtaddcadapbpkfaaGreatDoor
open Go.RowKit Pln

theorem forms_lit {s l : List UInt8} (h : argsK s = none) (hl : argsK l ≠ none) : ¬ (s == l) = true := fun e => by
  have := beq_iff_eq.1 e
  rw [this] at h
  exact hl h
theorem forms_no (s : List UInt8) (n : Int) (hg : s ≠ gfN) (h : argsK s = none) : formsB s n = ⟨#[]⟩ := by
  have hg' : ¬ (s == [103,102]) = true := fun e => hg (beq_iff_eq.1 e)
  unfold formsB
  rw [if_neg hg']
  rw [if_neg (forms_lit h (by decide +kernel))]
  rw [if_neg (forms_lit h (by decide +kernel))]
  rw [if_neg (forms_lit h (by decide +kernel))]
  rw [if_neg (forms_lit h (by decide +kernel))]
  rw [if_neg (forms_lit h (by decide +kernel))]
  rw [if_neg (forms_lit h (by decide +kernel))]
  rw [if_neg (forms_lit h (by decide +kernel))]
  rw [if_neg (forms_lit h (by decide +kernel))]
  rw [if_neg (forms_lit h (by decide +kernel))]
  rw [if_neg (forms_lit h (by decide +kernel))]
  rw [if_neg (forms_lit h (by decide +kernel))]
  rw [if_neg (forms_lit h (by decide +kernel))]
  rw [if_neg (forms_lit h (by decide +kernel))]
  rw [if_neg (forms_lit h (by decide +kernel))]
  rw [if_neg (forms_lit h (by decide +kernel))]
  rw [if_neg (forms_lit h (by decide +kernel))]
  rw [if_neg (forms_lit h (by decide +kernel))]
  rw [if_neg (forms_lit h (by decide +kernel))]
  rw [if_neg (forms_lit h (by decide +kernel))]
  rw [if_neg (forms_lit h (by decide +kernel))]
  rw [if_neg (forms_lit h (by decide +kernel))]
  rw [if_neg (forms_lit h (by decide +kernel))]
  rw [if_neg (forms_lit h (by decide +kernel))]
  rw [if_neg (forms_lit h (by decide +kernel))]
  rw [if_neg (forms_lit h (by decide +kernel))]
  rw [if_neg (forms_lit h (by decide +kernel))]
  rw [if_neg (forms_lit h (by decide +kernel))]
  rw [if_neg (forms_lit h (by decide +kernel))]
  rw [if_neg (forms_lit h (by decide +kernel))]
  rw [if_neg (forms_lit h (by decide +kernel))]
  rw [if_neg (forms_lit h (by decide +kernel))]
  rw [if_neg (forms_lit h (by decide +kernel))]
  rw [if_neg (forms_lit h (by decide +kernel))]
  rw [if_neg (forms_lit h (by decide +kernel))]
  rw [if_neg (forms_lit h (by decide +kernel))]
  rw [if_neg (forms_lit h (by decide +kernel))]
  rw [if_neg (forms_lit h (by decide +kernel))]
theorem forms_any (s : List UInt8) (n : Int) (hg : s ≠ gfN) : formsB s n = formsB s 0 := by
  have hg' : ¬ (s == [103,102]) = true := fun e => hg (beq_iff_eq.1 e)
  unfold formsB
  rw [if_neg hg',if_neg hg']
theorem forms_tab : ∀ d ∈ rowT,(formsB d.k.data.toList 0).data.toList = 67 :: d.a.data.toList := by decide +kernel
theorem forms_row (s : List UInt8) (n : Int) (hg : s ≠ gfN) {a : List UInt8} (h : argsK s = some a) : formsB s n = ⟨(67 :: a).toArray⟩ := by
  rw [forms_any s n hg]
  unfold argsK at h
  obtain ⟨d,hd,rfl⟩ := Option.map_eq_some_iff.1 h
  have h1 := List.find?_some hd
  have h2 := of_decide_eq_true h1
  subst h2
  have h3 := forms_tab d (List.mem_of_find?_eq_some hd)
  rw [<- h3]
theorem forms_gf (n : Int) : formsB gfN n = ⟨(70 :: (if n = 1 then [78] else [78,78,76])).toArray⟩ := by
  unfold formsB
  rw [if_pos (by decide)]
  by_cases h : n = 1
  . rw [if_pos (by simpa using h),if_pos h]
  . rw [if_neg (by simpa using h),if_neg h]
theorem toList_ba (l : List UInt8) : (⟨l.toArray⟩ : ByteArray).toList = l := by
  simp
theorem index_zero (c : UInt8) (r : List UInt8) (W : World) : (Instr.index 9 (.string ⟨(c :: r).toArray⟩) (.int .i64 0)).run Tryz.prog W = .ok (.int .u8 c.toNat) W := index_str (c :: r) 0 c rfl W
def S0 : Sem := fun nm vs => if nm = gfN then match vs with
    | [.num n] => fldRes (stdM n)
    | [.num p,.num m,.lst l] => fldRes (chkR p m l)
    | _ => .error 1
  else .error 1
theorem mean0_err {S : Sem} {k : Int} {nm : List UInt8} {n : Int} {ls : List Int} {xs : List E} {isF : Bool} {e : Int} (h : rowM k nm xs.length isF = .error e) : meanM S (.mk k nm n ls xs) isF = .error e := by
  unfold meanM
  rw [h]
theorem size_ba (l : List UInt8) : (⟨l.toArray⟩ : ByteArray).size = l.length := by rw [<- len_data]

def LawPost (w : World) (F : Nat -> Prop) (r : FR) (e : Ending) (w' : World) : Prop :=
  (∃ (A : Option Addr) (c : Nat),e = .returned (.tuple #[.agg #[.int .i64 r.p,.int .i64 r.m,.slice A r.mod.length c,.int .i64 0,.int .i64 0,.slice none 0 0,.int .i64 0,.slice none 0 0,.int .i64 0,.slice none 0 0],.int .i64 r.e]) /\ IntsF w' (fun b => F b \/ w.heap.size <= b) A r.mod) /\ Below w.heap.size w w'

set_option maxHeartbeats 8000000 in
set_option maxRecDepth 100000 in
theorem lmean_err (k : Int) (nm : List UInt8) (n : Int) (la : Option Addr) (ll lc : Nat) (aa : Option Addr) (al ac : Nat) (w : World) (F : Nat -> Prop) (e0 : Int) (hr : rowM k nm al true = .error e0) (hal : al <= 1000000) :
    Calls Tryz.prog 22 #[.agg #[.int .i64 k,.string ⟨nm.toArray⟩,.int .i64 n,.slice la ll lc,.slice aa al ac],.int .u8 70] w (LawPost w F (.err e0)) := by
  have HB := Lib.hid (bx2 w #[.int .i64 k,.string ⟨nm.toArray⟩,.int .i64 n,.slice la ll lc,.slice aa al ac] #[.int .i64 0,.int .i64 0,.slice none 0 0,.int .i64 0,.int .i64 0,.slice none 0 0,.int .i64 0,.slice none 0 0,.int .i64 0,.slice none 0 0] 25 37)
  have HR := Lib.hid hr
  clear hr
  go_enter Tryz.func22,Tryz.ntmps22
  go_upto_region 1 with fail
  generalize (w.alloc (.cells #[.int .i64 k,.string ⟨nm.toArray⟩,.int .i64 n,.slice la ll lc,.slice aa al ac] 25)).alloc (.cells #[.int .i64 0,.int .i64 0,.slice none 0 0,.int .i64 0,.int .i64 0,.slice none 0 0,.int .i64 0,.slice none 0 0,.int .i64 0,.slice none 0 0] 37) = W at *
  have hb0 : W.heap[w.heap.size]? = some (.cells #[.int .i64 k,.string ⟨nm.toArray⟩,.int .i64 n,.slice la ll lc,.slice aa al ac] 25 (0,0)) := HB.out.at_ (i := 0) rfl
  obtain ⟨b0,b1,b2,b3,b4⟩ := cells5 hb0
  clear hb0
  have HK : Hid (W.heap[w.heap.size + 1]? = some (.cells #[.int .i64 0,.int .i64 0,.slice none 0 0,.int .i64 0,.int .i64 0,.slice none 0 0,.int .i64 0,.slice none 0 0,.int .i64 0,.slice none 0 0] 37 (0,0))) := HB.out.at_ (i := 1) rfl
  have HFIN : Hid (∀ e : Int,LawPost w F (.err e) (.returned (.tuple #[.agg #[.int .i64 0,.int .i64 0,.slice none 0 0,.int .i64 0,.int .i64 0,.slice none 0 0,.int .i64 0,.slice none 0 0,.int .i64 0,.slice none 0 0],.int .i64 e])) (W.setRow (w.heap.size + 1) #[.int .i64 0,.int .i64 0,.slice none 0 0,.int .i64 0,.int .i64 0,.slice none 0 0,.int .i64 0,.slice none 0 0,.int .i64 0,.slice none 0 0])) := fun e =>
    ⟨⟨none,0,rfl,fun h => by simp [FR.err] at h⟩,below_setRow HB.out.below (by omega) _⟩
  by_cases h4 : k = 4
  . subst h4
    have he : (15 : Int) = e0 := by
      have := HR.out
      unfold rowM at this
      rw [if_pos rfl] at this
      injection this
    subst he
    clear HR
    go_wp2_with (refine wpList_store_row rfl 37 (.tmp 4) (.tmp 19) rfl _ (w.heap.size + 1) 37 #[.int .i64 0,.int .i64 0,.slice none 0 0,.int .i64 0,.int .i64 0,.slice none 0 0,.int .i64 0,.slice none 0 0,.int .i64 0,.slice none 0 0] #[.int .i64 0,.int .i64 0,.slice none 0 0,.int .i64 0,.int .i64 0,.slice none 0 0,.int .i64 0,.slice none 0 0,.int .i64 0,.slice none 0 0] rfl rfl HK.out lawvSize rfl (by simp [Value.oneCell']) ?_)
    refine bodyPost_ret (results_row_one (P := Tryz.prog) rfl _ _ (w.heap.size + 1) 37 #[.int .i64 0,.int .i64 0,.slice none 0 0,.int .i64 0,.int .i64 0,.slice none 0 0,.int .i64 0,.slice none 0 0,.int .i64 0,.slice none 0 0] (0,0) _ _ rfl rfl (setRow_same W (w.heap.size + 1) _ _ _ HK.out) Tryz.underlying37 rfl lawvSize) rfl ?_
    exact HFIN.out 15
  . have e4 : (k == 4) = false := by simpa using h4
    by_cases h3 : k = 3
    . subst h3
      have hrr : rowM 3 nm al true = if nm = gfN then (if al = 1 then .ok [78] else if al = 3 then .ok [78,78,76] else .error 16) else match argsK nm with
          | none => .error 15
          | some _ => .error 17 := by
        unfold rowM
        rw [if_neg (by decide),if_pos rfl]
        by_cases hg : nm = gfN
        . rw [if_pos hg,if_pos hg,if_pos rfl]
        . rw [if_neg hg,if_neg hg]
          cases argsK nm <;> rfl
      rw [HR.out] at hrr
      have HRR := Lib.hid hrr
      clear hrr HR h4
      by_cases hg : nm = gfN
      . have h1 : al ≠ 1 := fun h => by
          have := HRR.out
          rw [if_pos hg,if_pos h] at this
          cases this
        have h3 : al ≠ 3 := fun h => by
          have := HRR.out
          rw [if_pos hg,if_neg h1,if_pos h] at this
          cases this
        have he : e0 = 16 := by
          have := HRR.out
          rw [if_pos hg,if_neg h1,if_neg h3] at this
          injection this
        subst he hg
        have HFM : Hid (formsB (⟨gfN.toArray⟩ : ByteArray).toList (al : Int) = ⟨#[70,78,78,76]⟩) := by
          show _ = _
          rw [toList_ba,forms_gf,if_neg (by omega)]
        have hne : ((4 : Int) != (al : Int) + 1) = true := by simp;omega
        clear HRR h1 h3
        go_wp2_with fail
        refine (forms_c _ _ _).mono ?_
        rintro e w1 ⟨rfl,rfl⟩
        rw [HFM.out]
        go_wp2_with (refine wpList_store_row rfl 37 (.tmp 4) (.tmp 48) rfl _ (w.heap.size + 1) 37 #[.int .i64 0,.int .i64 0,.slice none 0 0,.int .i64 0,.int .i64 0,.slice none 0 0,.int .i64 0,.slice none 0 0,.int .i64 0,.slice none 0 0] #[.int .i64 0,.int .i64 0,.slice none 0 0,.int .i64 0,.int .i64 0,.slice none 0 0,.int .i64 0,.slice none 0 0,.int .i64 0,.slice none 0 0] rfl rfl HK.out lawvSize rfl (by simp [Value.oneCell']) ?_)
        refine bodyPost_ret (results_row_one (P := Tryz.prog) rfl _ _ (w.heap.size + 1) 37 #[.int .i64 0,.int .i64 0,.slice none 0 0,.int .i64 0,.int .i64 0,.slice none 0 0,.int .i64 0,.slice none 0 0,.int .i64 0,.slice none 0 0] (0,0) _ _ rfl rfl (setRow_same _ (w.heap.size + 1) _ _ _ HK.out) Tryz.underlying37 rfl lawvSize) rfl ?_
        exact HFIN.out 16
      . cases ha : argsK nm with
        | none =>
          have he : e0 = 15 := by
            have := HRR.out
            rw [if_neg hg,ha] at this
            injection this
          subst he
          have HFM : Hid (formsB (⟨nm.toArray⟩ : ByteArray).toList (al : Int) = ⟨#[]⟩) := by
            show _ = _
            rw [toList_ba,forms_no nm _ hg ha]
          clear HRR ha hg
          go_wp2_with fail
          refine (forms_c _ _ _).mono ?_
          rintro e w1 ⟨rfl,rfl⟩
          rw [HFM.out]
          go_wp2_with (refine wpList_store_row rfl 37 (.tmp 4) (.tmp 31) rfl _ (w.heap.size + 1) 37 #[.int .i64 0,.int .i64 0,.slice none 0 0,.int .i64 0,.int .i64 0,.slice none 0 0,.int .i64 0,.slice none 0 0,.int .i64 0,.slice none 0 0] #[.int .i64 0,.int .i64 0,.slice none 0 0,.int .i64 0,.int .i64 0,.slice none 0 0,.int .i64 0,.slice none 0 0,.int .i64 0,.slice none 0 0] rfl rfl HK.out lawvSize rfl (by simp [Value.oneCell']) ?_)
          refine bodyPost_ret (results_row_one (P := Tryz.prog) rfl _ _ (w.heap.size + 1) 37 #[.int .i64 0,.int .i64 0,.slice none 0 0,.int .i64 0,.int .i64 0,.slice none 0 0,.int .i64 0,.slice none 0 0,.int .i64 0,.slice none 0 0] (0,0) _ _ rfl rfl (setRow_same _ (w.heap.size + 1) _ _ _ HK.out) Tryz.underlying37 rfl lawvSize) rfl ?_
          exact HFIN.out 15
        | some a =>
          have he : e0 = 17 := by
            have := HRR.out
            rw [if_neg hg,ha] at this
            injection this
          subst he
          have HFM : Hid (formsB (⟨nm.toArray⟩ : ByteArray).toList (al : Int) = ⟨(67 :: a).toArray⟩) := by
            show _ = _
            rw [toList_ba,forms_row nm _ hg ha]
          clear HRR ha hg
          have hix := index_zero 67 a
          go_wp2_with fail
          refine (forms_c _ _ _).mono ?_
          rintro e w1 ⟨rfl,rfl⟩
          rw [HFM.out]
          clear HFM
          generalize hfm : (⟨(67 :: a).toArray⟩ : ByteArray) = fm at *
          have hq : (fm.toList == []) = false := by rw [<- hfm,toList_ba];rfl
          clear hfm
          go_wp2_with (refine wpList_store_row rfl 37 (.tmp 4) (.tmp 40) rfl _ (w.heap.size + 1) 37 #[.int .i64 0,.int .i64 0,.slice none 0 0,.int .i64 0,.int .i64 0,.slice none 0 0,.int .i64 0,.slice none 0 0,.int .i64 0,.slice none 0 0] #[.int .i64 0,.int .i64 0,.slice none 0 0,.int .i64 0,.int .i64 0,.slice none 0 0,.int .i64 0,.slice none 0 0,.int .i64 0,.slice none 0 0] rfl rfl HK.out lawvSize rfl (by simp [Value.oneCell']) ?_)
          refine bodyPost_ret (results_row_one (P := Tryz.prog) rfl _ _ (w.heap.size + 1) 37 #[.int .i64 0,.int .i64 0,.slice none 0 0,.int .i64 0,.int .i64 0,.slice none 0 0,.int .i64 0,.slice none 0 0,.int .i64 0,.slice none 0 0] (0,0) _ _ rfl rfl (setRow_same _ (w.heap.size + 1) _ _ _ HK.out) Tryz.underlying37 rfl lawvSize) rfl ?_
          exact HFIN.out 17
    . have e3 : (k == 3) = false := by simpa using h3
      have he : (17 : Int) = e0 := by
        have := HR.out
        unfold rowM at this
        rw [if_neg h4,if_neg h3] at this
        injection this
      subst he
      clear HR h4 h3
      go_wp2_with (refine wpList_store_row rfl 37 (.tmp 4) (.tmp 40) rfl _ (w.heap.size + 1) 37 #[.int .i64 0,.int .i64 0,.slice none 0 0,.int .i64 0,.int .i64 0,.slice none 0 0,.int .i64 0,.slice none 0 0,.int .i64 0,.slice none 0 0] #[.int .i64 0,.int .i64 0,.slice none 0 0,.int .i64 0,.int .i64 0,.slice none 0 0,.int .i64 0,.slice none 0 0,.int .i64 0,.slice none 0 0] rfl rfl HK.out lawvSize rfl (by simp [Value.oneCell']) ?_)
      refine bodyPost_ret (results_row_one (P := Tryz.prog) rfl _ _ (w.heap.size + 1) 37 #[.int .i64 0,.int .i64 0,.slice none 0 0,.int .i64 0,.int .i64 0,.slice none 0 0,.int .i64 0,.slice none 0 0,.int .i64 0,.slice none 0 0] (0,0) _ _ rfl rfl (setRow_same _ (w.heap.size + 1) _ _ _ HK.out) Tryz.underlying37 rfl lawvSize) rfl ?_
      exact HFIN.out 17
end Go.Proofs.YtaddcadapbpkfaaGreatDoor

