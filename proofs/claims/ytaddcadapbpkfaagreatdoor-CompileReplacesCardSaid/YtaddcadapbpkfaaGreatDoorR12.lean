/-
 matrix.clone. The steps of an elimination: exchange, scaling, clearing. matrix.eliminate: a step done to the rows (there are no other rows). matrix.eliminate: what its rounds keep. matrix.eliminate: its steps, as its rounds keep them.
-/
import Derived.RegionTactic
import Derived.BigRegion
import Derived.Test.YtaddcadapbpkfaaGreatDoorR11
namespace Go.Proofs.YtaddcadapbpkfaaGreatDoor
open Go.RowKit Pln
def RowsAt (w : World) (B : Nat) (A : Option Addr) (zs : List (List Int)) : Prop :=
 0 < zs.length -> ∃ b o,A = some ⟨b,o,none⟩ /\ b < B /\ ∀ i,i < zs.length -> ∃ (Ai : Option Addr) (ci : Nat),w.cell? ⟨b,o + i,none⟩ = some (.slice Ai (zs.getD i []).length ci) /\ IntsAt w B Ai (zs.getD i [])
theorem RowsAt.keep {w w' : World} {B : Nat} {A : Option Addr} {zs : List (List Int)} (h : RowsAt w B A zs) (hb : Below B w w') : RowsAt w' B A zs := fun hz => by
 obtain ⟨b,o,e,hlt,hc⟩ := h hz
 refine ⟨b,o,e,hlt,fun i hi => ?_⟩
 obtain ⟨Ai,ci,h1,h2⟩ := hc i hi
 exact ⟨Ai,ci,(hb.cell (p := ⟨b,o + i,none⟩) hlt).trans h1,h2.keep hb⟩
theorem RowsAt.more {w : World} {B B' : Nat} {A : Option Addr} {zs : List (List Int)} (h : RowsAt w B A zs) (hB : B <= B') : RowsAt w B' A zs := fun hz => by
 obtain ⟨b,o,e,hlt,hc⟩ := h hz
 refine ⟨b,o,e,by omega,fun i hi => ?_⟩
 obtain ⟨Ai,ci,h1,h2⟩ := hc i hi
 exact ⟨Ai,ci,h1,h2.more hB⟩
theorem RowsAt.at_ {w : World} {B : Nat} {A : Option Addr} {zs : List (List Int)} (h : RowsAt w B A zs) {i : Nat} (hi : i < zs.length) : ∃ b o Ai ci,A = some ⟨b,o,none⟩ /\ b < B /\ w.cell? ⟨b,o + i,none⟩ = some (.slice Ai (zs.getD i []).length ci) /\ IntsAt w B Ai (zs.getD i []) := by
 obtain ⟨b,o,e,hlt,hc⟩ := h (by omega)
 obtain ⟨Ai,ci,h1,h2⟩ := hc i hi
 exact ⟨b,o,Ai,ci,e,hlt,h1,h2⟩
def nzs (rows : List (List Nat)) : List (List Int) := rows.map nz
theorem qaU (rows : List (List Nat)) : (nzs rows).length = rows.length := by simp [nzs]
theorem qbZ (rows : List (List Nat)) (i : Nat) : (nzs rows).getD i [] = nz (rows.getD i []) := by
 unfold nzs
 simp only [List.getD,List.getElem?_map]
 cases rows[i]? <;> rfl
structure PGrid (w : World) (B R : Nat) (rows : List (List Nat)) (bs : List (Nat × Nat)) (k : Nat) : Prop where
 len : bs.length = k
 le : k <= rows.length
 out : w.ownsRow B 22 1 (.slice (some ⟨R,0,none⟩) rows.length rows.length) rows.length ((List.range k).map (hdr rows bs) ++ List.replicate (rows.length - k) (.slice none 0 0))
 row : ∀ i,i < k -> Row w B (bk bs i) (cp bs i) (nz (rows.getD i []))
 nd : ∀ i j,i < k -> j < k -> i ≠ j -> bk bs i ≠ bk bs j
theorem qcB {α : Type} {l : List α} {x d : α} {i : Nat} (hi : i < l.length) : (l ++ [x]).getD i d = l.getD i d := by
 simp only [List.getD]
 rw [List.getElem?_append_left hi]
theorem qdI {α : Type} (l : List α) (x d : α) : (l ++ [x]).getD l.length d = x := by simp [List.getD]
theorem PGrid.step {w w1 : World} {B R : Nat} {rows : List (List Nat)} {bs : List (Nat × Nat)} {k g c : Nat} (h : PGrid w B R rows bs k) (hk : k < rows.length) (hb : Below w.heap.size w w1) (_hB : B <= w.heap.size) (hr : Row w1 w.heap.size g c (nz (rows.getD k []))) :
 PGrid (w1.setCell ⟨R,k,none⟩ (.slice (some ⟨g,0,none⟩) (rows.getD k []).length c)) B R rows (bs ++ [(g,c)]) (k + 1) := by
 have hR := World.ownsRow.lt h.out R rfl
 have hgl := hr.lt
 have hgR : g ≠ R := by omega
 refine ⟨by simp [h.len],hk,?_,fun i hi => ?_,fun i j hi hj hij => ?_⟩
 . have h1 := (World.ownsRow.stored (qdO h.out (hb.block R hR.2)) k (.slice (some ⟨g,0,none⟩) (rows.getD k []).length c)).1
   have e : ((List.range k).map (hdr rows bs) ++ List.replicate (rows.length - k) (Value.slice none 0 0)).set k (.slice (some ⟨g,0,none⟩) (rows.getD k []).length c)
    = (List.range (k + 1)).map (hdr rows (bs ++ [(g,c)])) ++ List.replicate (rows.length - (k + 1)) (.slice none 0 0) := by
    rw [List.set_append_right _ _ (by simp),List.length_map,List.length_range,Nat.sub_self,show rows.length - k = (rows.length - (k + 1)) + 1 by omega,List.replicate_succ,List.set_cons_zero,List.range_succ,List.map_append,List.append_assoc]
    congr 1
    . apply List.map_congr_left
      intro i hi
      have hi' := List.mem_range.1 hi
      unfold hdr bk cp
      rw [qcB (by rw [h.len];exact hi')]
    . simp only [List.map_cons,List.map_nil,List.singleton_append,hdr,bk,cp]
      have := qdI bs (g,c) (0,0)
      rw [h.len] at this
      rw [this]
   rw [<- e]
   exact h1
 . by_cases hik : i = k
   . subst hik
     unfold bk cp
     have := qdI bs (g,c) (0,0)
     rw [h.len] at this
     rw [this]
     exact (hr.base (B' := B) (by omega)).far (p := ⟨R,i,none⟩) hgR _
   . have hi' : i < k := by omega
     unfold bk cp
     rw [qcB (by rw [h.len];exact hi')]
     have hri := h.row i hi'
     refine (hri.below hb hri.lt.2).far (p := ⟨R,k,none⟩) ?_ _
     intro e
     obtain ⟨c1,e1⟩ := own_block h.out
     obtain ⟨c2,e2⟩ := own_block (e := 3) hri
     have e' : bk bs i = R := e
     rw [e',e1] at e2
     injection e2 with e2
     injection e2 with _ ht
     exact absurd ht (by decide)
 . unfold bk
   have hs := qdI bs (g,c) (0,0)
   rw [h.len] at hs
   by_cases hik : i = k
   . subst hik
     rw [hs,qcB (i := j) (by rw [h.len];omega)]
     have := (h.row j (by omega)).lt.2
     unfold bk at this
     omega
   . rw [qcB (i := i) (by rw [h.len];omega)]
     by_cases hjk : j = k
     . subst hjk
       rw [hs]
       have := (h.row i (by omega)).lt.2
       unfold bk at this
       omega
     . rw [qcB (i := j) (by rw [h.len];omega)]
       exact h.nd i j (by omega) (by omega) hij
theorem PGrid.done {w : World} {B R : Nat} {rows : List (List Nat)} {bs : List (Nat × Nat)} (h : PGrid w B R rows bs rows.length) : GridAt w B R rows.length rows bs := by
 refine ⟨h.len,?_,h.row,h.nd⟩
 have := h.out
 rw [Nat.sub_self,List.replicate_zero,List.append_nil] at this
 exact this
def RelCl (w : World) (rows : List (List Nat)) (v11 : Value) (wr : World) : Prop :=
 ∃ k bs,v11 = .int .i64 ((k : Nat) : Int) /\ PGrid wr w.heap.size w.heap.size rows bs k /\ Below w.heap.size w wr
set_option maxHeartbeats 1000000 in
set_option maxRecDepth 100000 in
theorem clone_c (rows : List (List Nat)) (A : Option Addr) (c : Nat) (w : World) (hA : RowsAt w w.heap.size A (nzs rows)) (hr : ∀ r ∈ rows,0 < r.length /\ r.length <= 1000000) (hl : rows.length <= 1000000) :
 Calls Tryz.prog 276 #[.slice A rows.length c] w fun e w' => e = .returned (.slice (some ⟨w.heap.size,0,none⟩) rows.length rows.length) /\ (∃ bs,GridAt w' w.heap.size w.heap.size rows.length rows bs) /\ Below w.heap.size w w' := by
 obtain ⟨i0,hi,hz0,hz1,hz2⟩ := info_parts infoInts
 have HI := Lib.hid hi
 have HZ0 := Lib.hid hz0
 have HZ1 := Lib.hid hz1
 have HB2 := Lib.hid (show i0.bytes * rows.length <= 281474976710656 by rw [hz2];omega)
 have HB3 := Lib.hid (show rows.length <= maxLen by unfold maxLen;omega)
 have HA := Lib.hid hA
 have HRL : Hid (∀ k,k < rows.length -> 0 < (rows.getD k []).length /\ (rows.getD k []).length <= 1000000) := fun k hk => by
  have : rows.getD k [] = rows[k] := by simp [List.getD,hk]
  rw [this]
  exact hr _ (List.getElem_mem hk)
 clear hi hz0 hz1 hz2 hA hr
 go_enter Tryz.func276,Tryz.ntmps276
 go_wp2_with (refine wpList_make_full w rfl (.tmp 7) (.tmp 7) 33 rfl w.heap.size 22 i0 (.slice none 0 0) 1 Tryz.underlying33 HI.out HZ0.out HZ1.out .i64 .i64 rows.length rows.length rows.length rfl rfl rfl rfl HB2.out HB3.out (Nat.le_refl _) ?_;intro w1 hown hgr)
 have HS : Hid (RelCl w rows (.int .i64 ((0 : Nat) : Int)) w1) := by
  refine ⟨0,[],rfl,⟨rfl,Nat.zero_le _,?_,fun i hi => absurd hi (by omega),fun i j hi => absurd hi (by omega)⟩,qbJ hgr⟩
  have e : (List.range 0).map (hdr rows []) ++ List.replicate (rows.length - 0) (Value.slice none 0 0) = (madeCells (Value.slice none 0 0).cells (rows.length * 1)).toList := by
   apply List.ext_getElem
   . simp [madeCells]
   . intro i h1 h2
     simp [madeCells,Value.cells,Nat.mod_one]
  rw [e]
  exact hown
 clear hown hgr
 go_loopw [11] (fun v11 wr => RelCl w rows v11 wr) (fun v11 _ => rows.length - (intOf v11).toNat)
 case atStart => exact HS.out
 case round =>
  obtain ⟨k,bs,rfl,hpg,hb⟩ := hrel
  have HP := Lib.hid hpg
  have HB := Lib.hid hb
  have hk := hpg.le
  have hws : w.heap.size <= wr.heap.size := hb.size
  clear hpg hb HS
  by_cases hlt : k < rows.length
  . obtain ⟨b,o,Ai,ci,rfl,hbl,hc,hi⟩ := (HA.out.keep HB.out).at_ (i := k) (by rw [qaU];exact hlt)
    rw [qbZ,qaI] at hc
    rw [qbZ] at hi
    obtain ⟨hr1,hr2⟩ := HRL.out k hlt
    have HC : Hid (Calls Tryz.prog 199 #[.slice Ai (rows.getD k []).length ci] wr fun e w' => (∃ g c',e = .returned (.slice (some ⟨g,0,none⟩) (rows.getD k []).length c') /\ Row w' wr.heap.size g c' (nz (rows.getD k []))) /\ Below wr.heap.size wr w') := by
     have h := sclone_c (nz (rows.getD k [])) Ai ci wr (hi.more hws) (by rw [qaI];exact hr1) (by rw [qaI];exact hr2)
     rw [qaI] at h
     exact h
    have HST : Hid (∀ (w1 : World) (g c : Nat),Below wr.heap.size wr w1 -> Row w1 wr.heap.size g c (nz (rows.getD k [])) -> PGrid (w1.setCell ⟨w.heap.size,k,none⟩ (.slice (some ⟨g,0,none⟩) (rows.getD k []).length c)) w.heap.size w.heap.size rows (bs ++ [(g,c)]) (k + 1)) := fun w1 g c h1 h2 => HP.out.step hlt h1 hws h2
    have hRl := World.ownsRow.lt HP.out.out w.heap.size rfl
    have HFR : Hid (wr.frozen? ⟨w.heap.size,k,none⟩ = false) := World.ownsRow.frozenAt HP.out.out k
    have HCE : Hid (wr.cell? ⟨w.heap.size,k,none⟩ = some (.slice none 0 0)) := by
     show _ = _
     rw [World.ownsRow.cellAt HP.out.out k (by omega),List.getElem?_append_right (by simp),List.length_map,List.length_range,Nat.sub_self,List.getElem?_replicate,if_pos (by omega)]
    clear hi HP
    generalize rows.getD k [] = r at *
    go_wp2_with fail
    (with_reducible refine HC.out.mono ?_)
    rintro e w2 ⟨⟨g,c',rfl,hrow⟩,hb2⟩
    have HR := Lib.hid hrow
    have HB2' := Lib.hid hb2
    have f2 : w2.frozen? ⟨w.heap.size,k,none⟩ = false := (hb2.frozen (p := ⟨w.heap.size,k,none⟩) hRl.2).trans HFR.out
    have c2 : w2.cell? ⟨w.heap.size,k,none⟩ = some (.slice none 0 0) := (hb2.cell (p := ⟨w.heap.size,k,none⟩) hRl.2).trans HCE.out
    clear hrow hb2
    go_wp2_with fail
    go_roundw
    case rel => exact ⟨k + 1,bs ++ [(g,c')],by go_num,HST.out w2 g c' HB2'.out HR.out,(HB.out.trans (HB2'.out.mono hws)).setCell (p := ⟨w.heap.size,k,none⟩) (Nat.le_refl _) _⟩
    case measure => simp [intOf];omega
  . obtain rfl : k = rows.length := by omega
    go_wp2_with fail
    go_ret
    exact ⟨rfl,⟨bs,HP.out.done⟩,HB.out⟩
end Go.Proofs.YtaddcadapbpkfaaGreatDoor
namespace Go.Proofs.YtaddcadapbpkfaaGreatDoor
open Go.RowKit Pln
def SwapBs (bs : List (Nat × Nat)) (i j : Nat) : List (Nat × Nat) := (bs.set i (bs.getD j (0,0))).set j (bs.getD i (0,0))
theorem GridAt.swap {w : World} {B R cR : Nat} {rows : List (List Nat)} {bs : List (Nat × Nat)} (h : GridAt w B R cR rows bs) {i j : Nat} (hi : i < rows.length) (hj : j < rows.length) (hij : i ≠ j) :
 GridAt ((w.setCell ⟨R,i,none⟩ (hdr rows bs j)).setCell ⟨R,j,none⟩ (hdr rows bs i)) B R cR (swapRows rows i j) (SwapBs bs i j) := by
 have hl := h.len
 have e1 : ∀ k,k < rows.length -> (SwapBs bs i j).getD k (0,0) = if k = j then bs.getD i (0,0) else if k = i then bs.getD j (0,0) else bs.getD k (0,0) := fun k _ => by
  unfold SwapBs
  rw [qbG _ _ _ _ _ (by simp;omega),qbG _ _ _ _ _ (by omega)]
 have e2 : ∀ k,k < rows.length -> (swapRows rows i j).getD k [] = if k = j then rows.getD i [] else if k = i then rows.getD j [] else rows.getD k [] := fun k _ => by
  unfold swapRows
  rw [qbG _ _ _ _ _ (by simp;omega),qbG _ _ _ _ _ (by omega)]
 have hlr : (swapRows rows i j).length = rows.length := by simp [swapRows]
 have eh : hdrs (swapRows rows i j) (SwapBs bs i j) = ((hdrs rows bs).set i (hdr rows bs j)).set j (hdr rows bs i) := by
  apply List.ext_getElem
  . simp [hdrs,hlr]
  . intro k h1 h2
    have hk : k < rows.length := by simpa [hdrs,hlr] using h1
    rw [List.getElem_set,List.getElem_set]
    simp only [hdrs,List.getElem_map,List.getElem_range,hdr,bk,cp,e1 k hk,e2 k hk]
    by_cases h3 : k = j
    . subst h3;simp
    . have h3' : ¬ j = k := fun e => h3 e.symm
      by_cases h4 : k = i
      . simp only [if_neg h3,if_neg h3',if_pos h4,if_pos h4.symm]
      . have h4' : ¬ i = k := fun e => h4 e.symm
        simp only [if_neg h3,if_neg h3',if_neg h4,if_neg h4']
 have hstay : ∀ k,k < rows.length -> Row ((w.setCell ⟨R,i,none⟩ (hdr rows bs j)).setCell ⟨R,j,none⟩ (hdr rows bs i)) B (bk bs k) (cp bs k) (nz (rows.getD k [])) := fun k hk =>
  ((h.row k hk).far (p := ⟨R,i,none⟩) (h.ne (h.row k hk)) _).far (p := ⟨R,j,none⟩) (h.ne (h.row k hk)) _
 refine ⟨by simp [SwapBs,hl,hlr],?_,fun k hk => ?_,fun k k' hk hk' hkk => ?_⟩
 . rw [eh,hlr]
   exact (World.ownsRow.stored (World.ownsRow.stored h.out i _).1 j _).1
 . rw [hlr] at hk
   unfold bk cp
   rw [e1 k hk,e2 k hk]
   by_cases h3 : k = j
   . rw [if_pos h3,if_pos h3];exact hstay i hi
   . rw [if_neg h3,if_neg h3]
     by_cases h4 : k = i
     . rw [if_pos h4,if_pos h4];exact hstay j hj
     . rw [if_neg h4,if_neg h4];exact hstay k hk
 . rw [hlr] at hk hk'
   have hnd := h.nd
   unfold bk at hnd ⊢
   have e3 : ∀ k,k < rows.length -> (SwapBs bs i j).getD k (0,0) = bs.getD (if k = j then i else if k = i then j else k) (0,0) := fun k hk => by
    rw [e1 k hk]
    split
    . rfl
    . split <;> rfl
   rw [e3 k hk,e3 k' hk']
   refine hnd _ _ ?_ ?_ ?_
   . split
     . exact hi
     . split
       . exact hj
       . exact hk
   . split
     . exact hi
     . split
       . exact hj
       . exact hk'
   . repeat' split
     all_goals omega
theorem hdr_at {w : World} {B R cR : Nat} {rows : List (List Nat)} {bs : List (Nat × Nat)} (h : GridAt w B R cR rows bs) {i : Nat} (hi : i < rows.length) : w.cell? ⟨R,i,none⟩ = some (hdr rows bs i) := h.cell hi
set_option maxHeartbeats 1000000 in
set_option maxRecDepth 100000 in
theorem swap_c (B R cR i j gi gj : Nat) (rows : List (List Nat)) (bs : List (Nat × Nat)) (w : World) (hG : GridAt w B R cR rows bs) (hi : i < rows.length) (hj : j < rows.length) (hij : i ≠ j) (_hl : rows.length <= 1000000)
 (hci : w.cell? ⟨gi,0,none⟩ = some (.int .i64 i)) (hcj : w.cell? ⟨gj,0,none⟩ = some (.int .i64 j)) (hgi : gi ≠ R) (hgj : gj ≠ R) :
 Calls Tryz.prog 316 #[.slice (some ⟨R,0,none⟩) rows.length cR,.pointer (some ⟨gj,0,none⟩),.pointer (some ⟨gi,0,none⟩)] w fun e w' => e = .returned (.tuple #[]) /\ GridAt w' B R cR (swapRows rows i j) (SwapBs bs i j) /\ w.grownBy w' (some R) := by
 have HSW := Lib.hid (hG.swap hi hj hij)
 have HGR : Hid (w.grownBy ((w.setCell ⟨R,i,none⟩ (hdr rows bs j)).setCell ⟨R,j,none⟩ (hdr rows bs i)) (some R)) := qbA (qdP w ⟨R,i,none⟩ _) (qdP _ ⟨R,j,none⟩ _)
 have h1 := hdr_at hG hi
 have h2 := hdr_at hG hj
 have f1 := hG.frozen i
 have f2 := hG.frozen j
 have i0 : (0 : Int) <= (i : Int) := by omega
 have i1 : (i : Int) < (rows.length : Int) := by omega
 have j0 : (0 : Int) <= (j : Int) := by omega
 have j1 : (j : Int) < (rows.length : Int) := by omega
 have HIJ := Lib.hid hij
 clear hG
 obtain ⟨A1,n1,c1,e1⟩ : ∃ A n c,hdr rows bs i = .slice A n c := ⟨_,_,_,rfl⟩
 obtain ⟨A2,n2,c2,e2⟩ : ∃ A n c,hdr rows bs j = .slice A n c := ⟨_,_,_,rfl⟩
 rw [e1,e2] at HSW HGR
 rw [e1] at h1
 rw [e2] at h2
 clear e1 e2
 go_enter Tryz.func316,Tryz.ntmps316
 have hji : j ≠ i := fun e => hij e.symm
 have hRi : R ≠ gi := fun e => hgi e.symm
 have hRj : R ≠ gj := fun e => hgj e.symm
 go_region
 all_goals (go_end0;exact ⟨rfl,HSW.out.drewN 1,qbA HGR.out (qbL _ 1 _)⟩)
set_option maxHeartbeats 1000000 in
set_option maxRecDepth 100000 in
theorem scrow_c (B R cR i bg bi ba gb p m a : Nat) (md l : List Nat) (rows : List (List Nat)) (bs : List (Nat × Nat)) (w : World) (hF : FT p m md l) (hG : GFAt w w.heap.size gb p m l (logL l (p ^ m))) (hD : GridAt w B R cR rows bs) (hi : i < rows.length) (_hl : rows.length <= 1000000)
 (ha : a < p ^ m) (hv : ∀ x ∈ rows.getD i [],x < p ^ m) (hl2 : (rows.getD i []).length <= 1000) (hB : B <= w.heap.size)
 (hcg : w.cell? ⟨bg,0,none⟩ = some (.pointer (some ⟨gb,0,none⟩))) (hci : w.cell? ⟨bi,0,none⟩ = some (.int .i64 a)) (hca : w.cell? ⟨ba,0,none⟩ = some (.int .i64 i)) :
 Calls Tryz.prog 317 #[.slice (some ⟨R,0,none⟩) rows.length cR,.pointer (some ⟨bg,0,none⟩),.pointer (some ⟨bi,0,none⟩),.pointer (some ⟨ba,0,none⟩)] w fun e w' => e = .returned (.tuple #[]) /\ GridAt w' B R cR (rows.set i (scaleRow (opsT p m l) a (rows.getD i []))) (bs.set i (w.heap.size,(rows.getD i []).length)) /\ w.grownBy w' (some R) := by
 have hrow := hD.row i hi
 have HSC := Lib.hid (scale_c a gb p m md l (rows.getD i []) (some ⟨bk bs i,0,none⟩) (cp bs i) w.drew hF (show GFAt w.drew w.drew.heap.size gb p m l (logL l (p ^ m)) from hG) ha hv (show IntsAt w.drew w.drew.heap.size (some ⟨bk bs i,0,none⟩) (nz (rows.getD i [])) from hrow.ints hrow.lt.2) hl2)
 have h1 := hD.cell hi
 have HD := Lib.hid hD
 have i0 : (0 : Int) <= (i : Int) := by omega
 have i1 : (i : Int) < (rows.length : Int) := by omega
 have hbg : bg < w.heap.size := World.block_lt_of_cell? w _ hcg
 have hbi : bi < w.heap.size := World.block_lt_of_cell? w _ hci
 have hba : ba < w.heap.size := World.block_lt_of_cell? w _ hca
 have hRl := hD.lt.2
 have HFI : Hid (w.frozen? ⟨R,i,none⟩ = false) := hD.frozen i
 have HRL : Hid ((scaleRow (opsT p m l) a (rows.getD i [])).length = (rows.getD i []).length) := by show _ = _;simp [scaleRow]
 clear hD hrow hF hG hv
 generalize hsr : scaleRow (opsT p m l) a (rows.getD i []) = sr at *
 clear hsr
 generalize (rows.getD i []).length = n at *
 generalize bk bs i = gi at *
 generalize cp bs i = ci at *
 go_enter Tryz.func317,Tryz.ntmps317
 have hfi := HFI.out
 go_region_law (go_simp;(with_reducible refine HSC.out.mono ?_);rintro e w1 ⟨rfl,hr1,hb1⟩;have k1 := (hb1.cell (p := ⟨bg,0,none⟩) hbg).trans hcg;have k2 := (hb1.cell (p := ⟨bi,0,none⟩) hbi).trans hci;have k3 := (hb1.cell (p := ⟨ba,0,none⟩) hba).trans hca;have k4 := (hb1.cell (p := ⟨R,i,none⟩) hRl).trans h1;have k5 := (hb1.frozen (p := ⟨R,i,none⟩) hRl).trans hfi)
 all_goals
  have hb2 : Below w.heap.size w w1 := ⟨hb1.os,hb1.tape,hb1.output,hb1.size,hb1.block⟩
  have hr2 : Row w1 w.heap.size w.heap.size n (nz sr) := hr1
  have hput := (HD.out.grow hb2).put hi (r := sr) (hr2.base (B' := B) hB) (fun j hj => by have := (HD.out.row j hj).lt.2;omega)
  rw [HRL.out] at hput
  have hgw : w.grownBy (w1.setCell ⟨R,i,none⟩ (.slice (some ⟨w.heap.size,0,none⟩) n n)) (some R) := qbA ⟨hb2.os,hb2.tape,hb2.output,hb2.size,fun k hk _ => hb2.block k hk⟩ (qdP w1 ⟨R,i,none⟩ _)
  go_end0
  exact ⟨rfl,hput,hgw⟩
set_option maxHeartbeats 1000000 in
set_option maxRecDepth 100000 in
theorem clrow_c (B R cR i t bg bi bx ba gb Bg p m x : Nat) (md l : List Nat) (rows : List (List Nat)) (bs : List (Nat × Nat)) (w : World) (hF : FT p m md l) (hG : GFAt w Bg gb p m l (logL l (p ^ m))) (hBg : Bg <= B) (hD : GridAt w B R cR rows bs) (hi : i < rows.length) (ht : t < rows.length) (hit : i ≠ t) (_hl : rows.length <= 1000000)
 (hx : x < p ^ m) (hv : ∀ y ∈ rows.getD i [],y < p ^ m) (hu : ∀ y ∈ rows.getD t [],y < p ^ m) (hlen : (rows.getD i []).length = (rows.getD t []).length) (hl2 : (rows.getD i []).length <= 1000)
 (hcg : w.cell? ⟨bg,0,none⟩ = some (.pointer (some ⟨gb,0,none⟩))) (hci : w.cell? ⟨bi,0,none⟩ = some (.int .i64 i)) (hcx : w.cell? ⟨bx,0,none⟩ = some (.int .i64 x)) (hca : w.cell? ⟨ba,0,none⟩ = some (.int .i64 t)) :
 Calls Tryz.prog 318 #[.slice (some ⟨R,0,none⟩) rows.length cR,.pointer (some ⟨bg,0,none⟩),.pointer (some ⟨bi,0,none⟩),.pointer (some ⟨bx,0,none⟩),.pointer (some ⟨ba,0,none⟩)] w fun e w' => e = .returned (.tuple #[]) /\ GridAt w' B R cR (rows.set i (addRow (opsT p m l) (rows.getD i []) (negD p m x) (rows.getD t []))) bs /\ w.grownBy w' (some (bk bs i)) := by
 have hri := hD.row i hi
 have hrt := hD.row t ht
 have HNG : Hid (∀ W,SDrew w W -> Calls Tryz.prog 200 #[.pointer (some ⟨gb,0,none⟩),.int .i64 (x : Int)] W fun e w' => e = .returned (.int .i64 ((negD p m x : Nat) : Int)) /\ SDrew w w') := fun W ⟨n,hW⟩ => by
  subst hW
  refine (neg_c x gb p m Bg l _ _ hF.small (show GFAt (w.drewN n) Bg gb p m l (logL l (p ^ m)) from hG) hx).mono ?_
  rintro e w' ⟨he,k,rfl⟩
  exact ⟨he,n + k,by rw [World.drewN_drewN]⟩
 have HAD : Hid (∀ n,Calls Tryz.prog 319 #[.pointer (some ⟨gb,0,none⟩),.slice (some ⟨bk bs i,0,none⟩) (rows.getD i []).length (cp bs i),.int .i64 ((negD p m x : Nat) : Int),.slice (some ⟨bk bs t,0,none⟩) (rows.getD t []).length (cp bs t)] (w.drewN n) fun e w' => e = .returned (.tuple #[]) /\ Row w' B (bk bs i) (cp bs i) (nz (addRow (opsT p m l) (rows.getD i []) (negD p m x) (rows.getD t []))) /\ (w.drewN n).grownBy w' (some (bk bs i))) := fun n => by
  have h := madd_c (negD p m x) gb p m Bg B (bk bs i) (cp bs i) (bk bs t) (cp bs t) md l (rows.getD i []) (rows.getD t []) (w.drewN n) hF (show GFAt (w.drewN n) Bg gb p m l (logL l (p ^ m)) from hG) (Nat.le_trans hBg hri.lt.1) (negD_lt (by have := hF.small.p1;omega) m x) hv hu hri hrt (fun e => hD.nd i t hi ht hit e.symm) hlen hl2
  rw [<- hlen]
  exact h
 have HD := Lib.hid hD
 have h1 := hD.cell hi
 have h2 := hD.cell ht
 have i0 : (0 : Int) <= (i : Int) := by omega
 have i1 : (i : Int) < (rows.length : Int) := by omega
 have t0 : (0 : Int) <= (t : Int) := by omega
 have t1 : (t : Int) < (rows.length : Int) := by omega
 have HLR : Hid ((addRow (opsT p m l) (rows.getD i []) (negD p m x) (rows.getD t [])).length = (rows.getD i []).length) := qdT _ _ _ _ hlen
 clear hD hri hrt hF hG hv hu hlen
 generalize addRow (opsT p m l) (rows.getD i []) (negD p m x) (rows.getD t []) = ar at *
 generalize negD p m x = nx at *
 have HE : Hid ((rows.getD i []).length = (rows.getD i []).length) := rfl
 generalize hni : (rows.getD i []).length = n1 at *
 generalize hnt : (rows.getD t []).length = n2 at *
 have HNI := Lib.hid hni
 clear hni hnt HE
 go_enter Tryz.func318,Tryz.ntmps318
 refine qaS 12 (SDrew w) (by kernel_rfl) (by kernel_rfl) ⟨1,rfl⟩ ?_
 simp only [List.take_succ_cons,List.take_zero,List.drop_succ_cons,List.drop_zero]
 repeat (first
  | (apply qbK rfl
     . intro W hS
       obtain ⟨n,rfl⟩ := hS
       go_simp
       rfl
     go_simp)
  | (apply qcE rfl
     . intro W hS
       go_simp
       exact ⟨rfl,rfl⟩
     . intro W hS
       exact HNG.out W hS
     go_simp))
 refine qbD ?_
 intro w2 hS2
 obtain ⟨n,rfl⟩ := hS2
 clear hcg hci hcx hca h1 h2
 go_wp2_with fail
 (with_reducible refine (HAD.out n).mono ?_)
 rintro e w3 ⟨rfl,hr3,hg3⟩
 have HR3 := Lib.hid hr3
 have HG3 := Lib.hid hg3
 clear hr3 hg3
 go_wp2_with fail
 go_end0
 exact ⟨rfl,(HD.out.drewN n).turn hi (by rw [HLR.out,HNI.out]) HR3.out HG3.out,qbA (qbL w n _) HG3.out⟩
end Go.Proofs.YtaddcadapbpkfaaGreatDoor
namespace Go.Proofs.YtaddcadapbpkfaaGreatDoor
open Go.RowKit Pln
set_option maxHeartbeats 1000000 in
set_option maxRecDepth 100000 in
theorem each2_c (p0 p1 R n cR b5 b7 g : Nat) (Q : World -> Prop) (w : World) (h5 : w.cell? ⟨b5,0,none⟩ = some (.slice (some ⟨R,0,none⟩) n cR)) (h7 : w.cell? ⟨b7,0,none⟩ = some (.slice none 0 0)) (hne : b7 ≠ g)
 (hs : Calls Tryz.prog 316 #[.slice (some ⟨R,0,none⟩) n cR,.pointer (some ⟨p0,0,none⟩),.pointer (some ⟨p1,0,none⟩)] w fun e w' => e = .returned (.tuple #[]) /\ Q w' /\ w.grownBy w' (some g)) :
 Calls Tryz.prog 315 #[.func (.func 316) #[] #[.pointer (some ⟨p0,0,none⟩),.pointer (some ⟨p1,0,none⟩)],.pointer (some ⟨b5,0,none⟩),.pointer (some ⟨b7,0,none⟩)] w fun e w' => e = .returned (.tuple #[]) /\ Q w' /\ w.grownBy w' (some g) := by
 have HS := Lib.hid hs
 have H7 := Lib.hid h7
 have hlt : b7 < w.heap.size := World.block_lt_of_cell? w _ h7
 clear hs h7
 go_enter Tryz.func315,Tryz.ntmps315
 go_wp2_with fail
 (with_reducible refine HS.out.mono ?_)
 rintro e w1 ⟨rfl,hq,hg⟩
 have HQ := Lib.hid hq
 have HG := Lib.hid hg
 have h7 : w1.cell? ⟨b7,0,none⟩ = some (.slice none 0 0) := (hg.cell_far ⟨b7,0,none⟩ hlt (fun e => hne (by injection e))).trans H7.out
 clear hq hg h5
 go_wp2_with fail
 go_end0
 exact ⟨rfl,HQ.out,HG.out⟩
set_option maxHeartbeats 1000000 in
set_option maxRecDepth 100000 in
theorem each3_c (p0 p1 p2 R n cR b5 b7 g : Nat) (Q : World -> Prop) (w : World) (h5 : w.cell? ⟨b5,0,none⟩ = some (.slice (some ⟨R,0,none⟩) n cR)) (h7 : w.cell? ⟨b7,0,none⟩ = some (.slice none 0 0)) (hne : b7 ≠ g)
 (hs : Calls Tryz.prog 317 #[.slice (some ⟨R,0,none⟩) n cR,.pointer (some ⟨p0,0,none⟩),.pointer (some ⟨p1,0,none⟩),.pointer (some ⟨p2,0,none⟩)] w fun e w' => e = .returned (.tuple #[]) /\ Q w' /\ w.grownBy w' (some g)) :
 Calls Tryz.prog 315 #[.func (.func 317) #[] #[.pointer (some ⟨p0,0,none⟩),.pointer (some ⟨p1,0,none⟩),.pointer (some ⟨p2,0,none⟩)],.pointer (some ⟨b5,0,none⟩),.pointer (some ⟨b7,0,none⟩)] w fun e w' => e = .returned (.tuple #[]) /\ Q w' /\ w.grownBy w' (some g) := by
 have HS := Lib.hid hs
 have H7 := Lib.hid h7
 have hlt : b7 < w.heap.size := World.block_lt_of_cell? w _ h7
 clear hs h7
 go_enter Tryz.func315,Tryz.ntmps315
 go_wp2_with fail
 (with_reducible refine HS.out.mono ?_)
 rintro e w1 ⟨rfl,hq,hg⟩
 have HQ := Lib.hid hq
 have HG := Lib.hid hg
 have h7 : w1.cell? ⟨b7,0,none⟩ = some (.slice none 0 0) := (hg.cell_far ⟨b7,0,none⟩ hlt (fun e => hne (by injection e))).trans H7.out
 clear hq hg h5
 go_wp2_with fail
 go_end0
 exact ⟨rfl,HQ.out,HG.out⟩
set_option maxHeartbeats 1000000 in
set_option maxRecDepth 100000 in
theorem each4_c (p0 p1 p2 p3 R n cR b5 b7 g : Nat) (Q : World -> Prop) (w : World) (h5 : w.cell? ⟨b5,0,none⟩ = some (.slice (some ⟨R,0,none⟩) n cR)) (h7 : w.cell? ⟨b7,0,none⟩ = some (.slice none 0 0)) (hne : b7 ≠ g)
 (hs : Calls Tryz.prog 318 #[.slice (some ⟨R,0,none⟩) n cR,.pointer (some ⟨p0,0,none⟩),.pointer (some ⟨p1,0,none⟩),.pointer (some ⟨p2,0,none⟩),.pointer (some ⟨p3,0,none⟩)] w fun e w' => e = .returned (.tuple #[]) /\ Q w' /\ w.grownBy w' (some g)) :
 Calls Tryz.prog 315 #[.func (.func 318) #[] #[.pointer (some ⟨p0,0,none⟩),.pointer (some ⟨p1,0,none⟩),.pointer (some ⟨p2,0,none⟩),.pointer (some ⟨p3,0,none⟩)],.pointer (some ⟨b5,0,none⟩),.pointer (some ⟨b7,0,none⟩)] w fun e w' => e = .returned (.tuple #[]) /\ Q w' /\ w.grownBy w' (some g) := by
 have HS := Lib.hid hs
 have H7 := Lib.hid h7
 have hlt : b7 < w.heap.size := World.block_lt_of_cell? w _ h7
 clear hs h7
 go_enter Tryz.func315,Tryz.ntmps315
 go_wp2_with fail
 (with_reducible refine HS.out.mono ?_)
 rintro e w1 ⟨rfl,hq,hg⟩
 have HQ := Lib.hid hq
 have HG := Lib.hid hg
 have h7 : w1.cell? ⟨b7,0,none⟩ = some (.slice none 0 0) := (hg.cell_far ⟨b7,0,none⟩ hlt (fun e => hne (by injection e))).trans H7.out
 clear hq hg h5
 go_wp2_with fail
 go_end0
 exact ⟨rfl,HQ.out,HG.out⟩
end Go.Proofs.YtaddcadapbpkfaaGreatDoor
namespace Go.Proofs.YtaddcadapbpkfaaGreatDoor
open Go.RowKit Pln
structure EI (w : World) (B R cR gb Bg p m : Nat) (l : List Nat) (rows : List (List Nat)) (bs : List (Nat × Nat)) (wr : World) : Prop where
 grid : GridAt wr B R cR rows bs
 field : GFAt wr Bg gb p m l (logL l (p ^ m))
 b4 : wr.cell? ⟨w.heap.size,0,none⟩ = some (.pointer (some ⟨gb,0,none⟩))
 b5 : wr.cell? ⟨w.heap.size + 1,0,none⟩ = some (.slice (some ⟨R,0,none⟩) rows.length cR)
 b7 : wr.cell? ⟨w.heap.size + 1 + 1,0,none⟩ = some (.slice none 0 0)
 below : Below B w wr
 size : w.heap.size + 3 <= wr.heap.size
 out : R < w.heap.size
 apart : ∀ i,i < rows.length -> bk bs i < w.heap.size \/ w.heap.size + 3 <= bk bs i
def PivAt (w : World) (base : Nat) (v : Value) (piv : List Nat) (n : Nat) (bs : List (Nat × Nat)) : Prop :=
 w.ownsRow base 3 1 v piv.length ((nz piv).map (Value.int .i64)) /\ ∀ i,i < n -> v.ownBlock ≠ some (bk bs i)
section
variable {w : World} {B R cR gb Bg p m : Nat} {l : List Nat} {rows : List (List Nat)} {bs : List (Nat × Nat)} {wr wx : World}
theorem EI.grow (h : EI w B R cR gb Bg p m l rows bs wr) (hB : B <= w.heap.size) (hBg : Bg <= B) (hb : Below wr.heap.size wr wx) : EI w B R cR gb Bg p m l rows bs wx := by
 have hs := h.size
 refine ⟨h.grid.grow hb,h.field.keep (hb.mono (by omega)),(hb.cell (p := ⟨w.heap.size,0,none⟩) (by show w.heap.size < _;omega)).trans h.b4,(hb.cell (p := ⟨w.heap.size + 1,0,none⟩) (by show w.heap.size + 1 < _;omega)).trans h.b5,
  (hb.cell (p := ⟨w.heap.size + 2,0,none⟩) (by show w.heap.size + 2 < _;omega)).trans h.b7,h.below.trans (hb.mono (by omega)),Nat.le_trans hs hb.size,h.out,h.apart⟩
theorem EI.wrote (h : EI w B R cR gb Bg p m l rows bs wr) (hB : B <= w.heap.size) (hBg : Bg <= B) {g : Nat} (hg : w.heap.size + 3 <= g) (hap : ∀ i,i < rows.length -> bk bs i ≠ g) (u : Value) : EI w B R cR gb Bg p m l rows bs (wr.setCell ⟨g,0,none⟩ u) := by
 have hs := h.size
 have ho := h.out
 have hb : Below (w.heap.size + 3) wr (wr.setCell ⟨g,0,none⟩ u) := (Below.refl _ _).setCell (p := ⟨g,0,none⟩) hg u
 refine ⟨h.grid.else_ (p := ⟨g,0,none⟩) (by show R ≠ g;omega) hap u,h.field.keep (hb.mono (by omega)),(hb.cell (p := ⟨w.heap.size,0,none⟩) (by show w.heap.size < _;omega)).trans h.b4,(hb.cell (p := ⟨w.heap.size + 1,0,none⟩) (by show w.heap.size + 1 < _;omega)).trans h.b5,
  (hb.cell (p := ⟨w.heap.size + 2,0,none⟩) (by show w.heap.size + 2 < _;omega)).trans h.b7,h.below.trans (hb.mono (by omega)),Nat.le_trans hs (by simp),h.out,h.apart⟩
theorem EI.turned (h : EI w B R cR gb Bg p m l rows bs wr) (hB : B <= w.heap.size) (hBg : Bg <= B) {rows' : List (List Nat)} {bs' : List (Nat × Nat)} {g : Nat} (hl : rows'.length = rows.length) (hd : GridAt wx B R cR rows' bs') (hg : wr.grownBy wx (some g)) (hgB : B <= g) (hgb : g < w.heap.size \/ w.heap.size + 3 <= g)
 (hap : ∀ i,i < rows.length -> bk bs' i < w.heap.size \/ w.heap.size + 3 <= bk bs' i) : EI w B R cR gb Bg p m l rows' bs' wx := by
 have hs := h.size
 have hcell : ∀ k,k < 3 -> wx.cell? ⟨w.heap.size + k,0,none⟩ = wr.cell? ⟨w.heap.size + k,0,none⟩ := fun k hk => hg.cell_far ⟨w.heap.size + k,0,none⟩ (by show w.heap.size + k < _;omega) (fun e => by injection e with e;have e' : w.heap.size + k = g := e;omega)
 have hb : Below B wr wx := ⟨hg.os,hg.tape,hg.output,hg.size,fun k hk => hg.block k (by omega) (fun e => by injection e with e;omega)⟩
 exact ⟨hd,h.field.keep (hb.mono hBg),(hcell 0 (by omega)).trans h.b4,by rw [hl];exact (hcell 1 (by omega)).trans h.b5,(hcell 2 (by omega)).trans h.b7,h.below.trans hb,Nat.le_trans hs hg.size,h.out,fun i hi => hap i (by omega)⟩
end
theorem PivAt.grow {w w' : World} {base n : Nat} {v : Value} {piv : List Nat} {bs : List (Nat × Nat)} (h : PivAt w base v piv n bs) (hb : Below w.heap.size w w') : PivAt w' base v piv n bs := by
 refine ⟨h.1.kept (row := none) ⟨hb.os,hb.tape,hb.output,hb.size,fun k hk _ => hb.block k hk⟩ ?_,h.2⟩
 cases hv : v.ownBlock <;> simp
theorem PivAt.grown {w w' : World} {base n g : Nat} {v : Value} {piv : List Nat} {bs bs' : List (Nat × Nat)} (h : PivAt w base v piv n bs) (hg : w.grownBy w' (some g)) (hne : v.ownBlock ≠ some g) (hb : ∀ i,i < n -> v.ownBlock ≠ some (bk bs' i)) : PivAt w' base v piv n bs' :=
 ⟨h.1.kept hg (.inr hne),hb⟩
section
variable {O : Ops}
theorem swap_len (rows : List (List Nat)) (i j : Nat) : (swapRows rows i j).length = rows.length := by simp [swapRows]
theorem norm_len (rows : List (List Nat)) (i c : Nat) : (normRow O rows i c).length = rows.length := by unfold normRow;split <;> simp
theorem clear_len (c t : Nat) (rows : List (List Nat)) : ∀ i,(clearGo O c t rows i).length = rows.length
 | 0 => rfl
 | i + 1 => by
   unfold clearGo
   split
   . rw [List.length_set];exact clear_len c t rows i
   . exact clear_len c t rows i
theorem elStep_len (c : Nat) (s : ElS) : (elStep O c s).rows.length = s.rows.length := by
 unfold elStep
 split
 . split
   . rfl
   . show (clearGo O c _ _ _).length = _
     rw [clear_len,norm_len,swap_len]
 . rfl
theorem qdY (rows : List (List Nat)) : ∀ c,(elGo O rows c).rows.length = rows.length
 | 0 => rfl
 | c + 1 => by unfold elGo;rw [elStep_len,qdY rows c]
theorem qcU (rows : List (List Nat)) : ∀ c,(elGo O rows c).piv.length <= c /\ (elGo O rows c).piv.length <= rows.length
 | 0 => ⟨Nat.zero_le _,Nat.zero_le _⟩
 | c + 1 => by
   have ih := qcU rows c
   have hl := qdY (O := O) rows c
   unfold elGo elStep
   split
   . split
     . exact ⟨by omega,ih.2⟩
     . rename_i h1 h2
       show ((elGo O rows c).piv ++ [c]).length <= _ /\ ((elGo O rows c).piv ++ [c]).length <= _
       rw [List.length_append,List.length_singleton]
       omega
   . exact ⟨by omega,ih.2⟩
theorem elGo_full (rows : List (List Nat)) {c : Nat} (h : (elGo O rows c).piv.length = rows.length) : ∀ k,elGo O rows (c + k) = elGo O rows c
 | 0 => rfl
 | k + 1 => by
   have ih := elGo_full rows h k
   show elStep O (c + k) (elGo O rows (c + k)) = _
   rw [ih]
   unfold elStep
   rw [if_neg (by rw [h,qdY];omega)]
end
theorem qcN {p m : Nat} {md l : List Nat} (h : FT p m md l) : OpsEq (p ^ m) (opsT p m l) (opsT p m l) where
 add x y _ _ := ⟨rfl,addD_lt (by have := h.small.p1;omega) m x y⟩
 mul x y hx hy := ⟨rfl,mulT_lt h hx hy⟩
 neg x _ := ⟨rfl,negD_lt (by have := h.small.p1;omega) m x⟩
 inv x hx h0 := ⟨rfl,(h.tab.inv (qbY (by have := h.small.p1;omega) h.small.m1 md) h0 hx).2.1⟩
end Go.Proofs.YtaddcadapbpkfaaGreatDoor
namespace Go.Proofs.YtaddcadapbpkfaaGreatDoor
open Go.RowKit Pln
def St (w : World) (B R cR gb Bg p m : Nat) (l : List Nat) (rows : List (List Nat)) (n : Nat) (v12 : Value) (piv : List Nat) (ba t : Nat) (wr : World) : Prop :=
 ∃ bs,wr.heap[ba]? = some (.cells #[.int .i64 (t : Int)] 3 (0,0)) /\ EI w B R cR gb Bg p m l rows bs wr /\ PivAt wr (w.heap.size + 3) v12 piv n bs /\ (∀ i,i < n -> bk bs i ≠ ba) /\ rows.length = n /\ w.heap.size + 3 <= ba
theorem qcZ {w : World} {b : Nat} {o : Obj} (h : w.heap[b]? = some o) : b < w.heap.size := by
 rcases Nat.lt_or_ge b w.heap.size with h1 | h1
 . exact h1
 . rw [Array.getElem?_eq_none h1] at h
   cases h
theorem bk_swap {bs : List (Nat × Nat)} {i j n : Nat} (hl : bs.length = n) (hi : i < n) (hj : j < n) (P : Nat -> Prop) (h : ∀ k,k < n -> P (bk bs k)) : ∀ k,k < n -> P (bk (SwapBs bs i j) k) := by
 intro k hk
 unfold bk SwapBs
 rw [qbG _ _ _ _ _ (by simp;omega),qbG _ _ _ _ _ (by omega)]
 split
 . exact h i hi
 . split
   . exact h j hj
   . exact h k hk
theorem bk_set {bs : List (Nat × Nat)} {i n g c : Nat} (hl : bs.length = n) (hi : i < n) (P : Nat -> Prop) (hg : P g) (h : ∀ k,k < n -> P (bk bs k)) : ∀ k,k < n -> P (bk (bs.set i (g,c)) k) := by
 intro k hk
 unfold bk
 rw [qbG _ _ _ _ _ (by omega)]
 split
 . exact hg
 . exact h k hk
section
variable {w : World} {B R cR gb Bg p m : Nat} {l : List Nat} {rows : List (List Nat)} {n : Nat} {v12 : Value} {piv : List Nat} {ba t : Nat} {wr wx : World}
theorem GridAt.kept {w w' : World} {bs : List (Nat × Nat)} {r : Option Nat} (h : GridAt w B R cR rows bs) (hg : w.grownBy w' r) (hR : r ≠ some R) (hr : ∀ i,i < rows.length -> r ≠ some (bk bs i)) : GridAt w' B R cR rows bs :=
 ⟨h.len,qdO h.out (hg.block R h.lt.2 (fun e => hR e.symm)),fun i hi => (h.row i hi).grown hg (fun e => hr i hi e.symm),h.nd⟩
theorem EI.kept {bs : List (Nat × Nat)} {r : Option Nat} (h : EI w B R cR gb Bg p m l rows bs wr) (hB : B <= w.heap.size) (hBg : Bg <= B) (hg : wr.grownBy wx r) (hr : ∀ g,r = some g -> w.heap.size + 3 <= g) (ha : ∀ i,i < rows.length -> r ≠ some (bk bs i)) : EI w B R cR gb Bg p m l rows bs wx := by
 have hs := h.size
 have ho := h.out
 have hcell : ∀ k,k < 3 -> wx.cell? ⟨w.heap.size + k,0,none⟩ = wr.cell? ⟨w.heap.size + k,0,none⟩ := fun k hk => hg.cell_far ⟨w.heap.size + k,0,none⟩ (by show w.heap.size + k < _;omega) (fun e => by have e' : w.heap.size + 3 <= w.heap.size + k := hr _ e.symm;omega)
 have hb : Below B wr wx := ⟨hg.os,hg.tape,hg.output,hg.size,fun k hk => hg.block k (by omega) (fun e => by have := hr _ e.symm;omega)⟩
 exact ⟨h.grid.kept hg (fun e => by have := hr _ e;omega) ha,h.field.keep (hb.mono hBg),(hcell 0 (by omega)).trans h.b4,(hcell 1 (by omega)).trans h.b5,(hcell 2 (by omega)).trans h.b7,h.below.trans hb,Nat.le_trans hs hg.size,ho,h.apart⟩
theorem St.grow (h : St w B R cR gb Bg p m l rows n v12 piv ba t wr) (hB : B <= w.heap.size) (hBg : Bg <= B) (hb : Below wr.heap.size wr wx) : St w B R cR gb Bg p m l rows n v12 piv ba t wx := by
 obtain ⟨bs,h1,h2,h3,h4,h5,h6⟩ := h
 exact ⟨bs,(hb.block ba (qcZ h1)).trans h1,h2.grow hB hBg hb,h3.grow hb,h4,h5,h6⟩
theorem St.b4 (h : St w B R cR gb Bg p m l rows n v12 piv ba t wr) : wr.cell? ⟨w.heap.size,0,none⟩ = some (.pointer (some ⟨gb,0,none⟩)) := by
 obtain ⟨_,_,h,_⟩ := h
 exact h.b4
theorem St.b5 (h : St w B R cR gb Bg p m l rows n v12 piv ba t wr) : wr.cell? ⟨w.heap.size + 1,0,none⟩ = some (.slice (some ⟨R,0,none⟩) n cR) := by
 obtain ⟨_,_,h,_,_,rfl,_⟩ := h
 exact h.b5
theorem St.box (h : St w B R cR gb Bg p m l rows n v12 piv ba t wr) : wr.cell? ⟨ba,0,none⟩ = some (.int .i64 t) := by
 obtain ⟨_,h,_⟩ := h
 exact cell_of_row _ _ 0 _ _ _ h
theorem St.field (h : St w B R cR gb Bg p m l rows n v12 piv ba t wr) : GFAt wr Bg gb p m l (logL l (p ^ m)) := by
 obtain ⟨_,_,h,_⟩ := h
 exact h.field
theorem St.at_ (h : St w B R cR gb Bg p m l rows n v12 piv ba t wr) {cols : Nat} (hg : Grid (p ^ m) n cols rows) {i c : Nat} (hi : i < n) (hc : c < cols) : ∃ b cc,wr.cell? ⟨R,i,none⟩ = some (.slice (some ⟨b,0,none⟩) cols cc) /\ wr.cell? ⟨b,c,none⟩ = some (.int .i64 ((at2 rows i c : Nat) : Int)) := by
 obtain ⟨bs,_,h,_,_,hl,_⟩ := h
 have h1 := h.grid.cell (i := i) (by omega)
 have h2 := h.grid.row i (by omega)
 have h3 := (hg.row hi).1
 rw [h3] at h1
 refine ⟨_,_,h1,?_⟩
 have := h2.cell (j := c) (by rw [qaI,h3];exact hc)
 rw [qaN] at this
 exact this
def RelD (w : World) (B R cR gb Bg p m : Nat) (l : List Nat) (rows : List (List Nat)) (n : Nat) (v12 : Value) (piv : List Nat) (ba t : Nat) (v10 : Value) (wx : World) : Prop :=
 ∃ d : Nat,v10 = .int .i64 (d : Int) /\ d < p ^ m /\ St w B R cR gb Bg p m l rows n v12 piv ba t wx
def RelV (w : World) (B R cR gb Bg p m : Nat) (l : List Nat) (rows : List (List Nat)) (n : Nat) (v12 : Value) (piv : List Nat) (ba t iv : Nat) (v16 v17 : Value) (wx : World) : Prop :=
 ∃ bi : Nat,v16 = .pointer (some ⟨bi,0,none⟩) /\ v17 = .int .i64 0 /\ wx.cell? ⟨bi,0,none⟩ = some (.int .i64 (iv : Int)) /\ St w B R cR gb Bg p m l rows n v12 piv ba t wx
def RelCI (w : World) (B R cR gb Bg p m : Nat) (l : List Nat) (c : Nat) (rows2 : List (List Nat)) (n : Nat) (v12 : Value) (piv : List Nat) (ba t : Nat) (v98 : Value) (wx : World) : Prop :=
 ∃ i : Nat,i <= n /\ v98 = .int .i64 (i : Int) /\ St w B R cR gb Bg p m l (clearGo (opsT p m l) c t rows2 i) n v12 piv ba t wx
theorem swap_st (h : St w B R cR gb Bg p m l rows n v12 piv ba t wr) (hB : B <= w.heap.size) (hBg : Bg <= B) {k b1 : Nat} (ht : t < n) (hk : k < n) (hne : t ≠ k) (hn : n <= 256) (hbk : wr.cell? ⟨b1,0,none⟩ = some (.int .i64 k)) (hb1 : b1 ≠ R) :
 Calls Tryz.prog 315 #[.func (.func 316) #[] #[.pointer (some ⟨b1,0,none⟩),.pointer (some ⟨ba,0,none⟩)],.pointer (some ⟨w.heap.size + 1,0,none⟩),.pointer (some ⟨w.heap.size + 1 + 1,0,none⟩)] wr fun e w' => e = .returned (.tuple #[]) /\ St w B R cR gb Bg p m l (swapRows rows t k) n v12 piv ba t w' := by
 obtain ⟨bs,hbx,hei,hpv,hap,rfl,hba⟩ := h
 have hR := hei.grid.lt
 have ho := hei.out
 refine (each2_c b1 ba R rows.length cR (w.heap.size + 1) (w.heap.size + 1 + 1) R (fun w' => GridAt w' B R cR (swapRows rows t k) (SwapBs bs t k)) wr hei.b5 hei.b7 (by omega)
  (swap_c B R cR t k ba b1 rows bs wr hei.grid ht hk hne (by omega) (cell_of_row _ _ 0 _ _ _ hbx) hbk (by omega) hb1)).mono ?_
 rintro e w' ⟨he,hd,hg⟩
 refine ⟨he,SwapBs bs t k,(hg.block ba (qcZ hbx) (fun e => by injection e with e;omega)).trans hbx,hei.turned hB hBg (swap_len ..) hd hg hR.1 (.inl ho) (bk_swap hei.grid.len ht hk (fun b => b < w.heap.size \/ w.heap.size + 3 <= b) hei.apart),hpv.grown hg (fun e => by have := (hpv.1.lt _ e).1;omega) (bk_swap hei.grid.len ht hk (fun b => v12.ownBlock ≠ some b) hpv.2),bk_swap hei.grid.len ht hk (fun b => b ≠ ba) hap,swap_len ..,hba⟩
theorem scale_st (h : St w B R cR gb Bg p m l rows n v12 piv ba t wr) (hB : B <= w.heap.size) (hBg : Bg <= B) {md : List Nat} {a b1 cols : Nat} (hF : FT p m md l) (hgr : Grid (p ^ m) n cols rows) (hc : cols <= 256) (ht : t < n) (hn : n <= 256) (ha : a < p ^ m) (hbi : wr.cell? ⟨b1,0,none⟩ = some (.int .i64 a)) :
 Calls Tryz.prog 315 #[.func (.func 317) #[] #[.pointer (some ⟨w.heap.size,0,none⟩),.pointer (some ⟨b1,0,none⟩),.pointer (some ⟨ba,0,none⟩)],.pointer (some ⟨w.heap.size + 1,0,none⟩),.pointer (some ⟨w.heap.size + 1 + 1,0,none⟩)] wr fun e w' => e = .returned (.tuple #[]) /\ St w B R cR gb Bg p m l (rows.set t (scaleRow (opsT p m l) a (rows.getD t []))) n v12 piv ba t w' := by
 obtain ⟨bs,hbx,hei,hpv,hap,rfl,hba⟩ := h
 have hR := hei.grid.lt
 have ho := hei.out
 have hs := hei.size
 have hbl := qcZ hbx
 obtain ⟨hr1,hr2⟩ := hgr.row ht
 refine (each3_c w.heap.size b1 ba R rows.length cR (w.heap.size + 1) (w.heap.size + 1 + 1) R (fun w' => GridAt w' B R cR (rows.set t (scaleRow (opsT p m l) a (rows.getD t []))) (bs.set t (wr.heap.size,(rows.getD t []).length))) wr hei.b5 hei.b7 (by omega)
  (scrow_c B R cR t w.heap.size b1 ba gb p m a md l rows bs wr hF (hei.field.more (by omega)) hei.grid ht (by omega) ha hr2 (by omega) (by omega) hei.b4 hbi (cell_of_row _ _ 0 _ _ _ hbx))).mono ?_
 rintro e w' ⟨he,hd,hg⟩
 refine ⟨he,bs.set t (wr.heap.size,(rows.getD t []).length),(hg.block ba hbl (fun e => by injection e with e;omega)).trans hbx,hei.turned hB hBg (by simp) hd hg hR.1 (.inl ho) (bk_set hei.grid.len ht (fun b => b < w.heap.size \/ w.heap.size + 3 <= b) (.inr hs) hei.apart),hpv.grown hg (fun e => by have := (hpv.1.lt _ e).1;omega) (bk_set hei.grid.len ht (fun b => v12.ownBlock ≠ some b) (fun e => by have := (hpv.1.lt _ e).2;omega) hpv.2),bk_set hei.grid.len ht (fun b => b ≠ ba) (by omega) hap,by simp,hba⟩
theorem clear_st (h : St w B R cR gb Bg p m l rows n v12 piv ba t wr) (hB : B <= w.heap.size) (hBg : Bg <= B) {md : List Nat} {i x bi bx cols : Nat} (hF : FT p m md l) (hgr : Grid (p ^ m) n cols rows) (hc : cols <= 256) (ht : t < n) (hi : i < n) (hit : i ≠ t) (hn : n <= 256) (hx : x < p ^ m) (hbi : wr.cell? ⟨bi,0,none⟩ = some (.int .i64 i)) (hbx' : wr.cell? ⟨bx,0,none⟩ = some (.int .i64 x)) :
 Calls Tryz.prog 315 #[.func (.func 318) #[] #[.pointer (some ⟨w.heap.size,0,none⟩),.pointer (some ⟨bi,0,none⟩),.pointer (some ⟨bx,0,none⟩),.pointer (some ⟨ba,0,none⟩)],.pointer (some ⟨w.heap.size + 1,0,none⟩),.pointer (some ⟨w.heap.size + 1 + 1,0,none⟩)] wr fun e w' => e = .returned (.tuple #[]) /\ St w B R cR gb Bg p m l (rows.set i (addRow (opsT p m l) (rows.getD i []) (negD p m x) (rows.getD t []))) n v12 piv ba t w' := by
 obtain ⟨bs,hbx,hei,hpv,hap,rfl,hba⟩ := h
 have hs := hei.size
 have hbl := qcZ hbx
 have hai := hei.apart i hi
 obtain ⟨hr1,hr2⟩ := hgr.row hi
 obtain ⟨hr3,hr4⟩ := hgr.row ht
 refine (each4_c w.heap.size bi bx ba R rows.length cR (w.heap.size + 1) (w.heap.size + 1 + 1) (bk bs i) (fun w' => GridAt w' B R cR (rows.set i (addRow (opsT p m l) (rows.getD i []) (negD p m x) (rows.getD t []))) bs) wr hei.b5 hei.b7 (by omega)
  (clrow_c B R cR i t w.heap.size bi bx ba gb Bg p m x md l rows bs wr hF hei.field hBg hei.grid hi ht hit (by omega) hx hr2 hr4 (by omega) (by omega) hei.b4 hbi hbx' (cell_of_row _ _ 0 _ _ _ hbx))).mono ?_
 rintro e w' ⟨he,hd,hg⟩
 exact ⟨he,bs,(hg.block ba hbl (fun e => hap i hi (by injection e with e;exact e.symm))).trans hbx,hei.turned hB hBg (by simp) hd hg (hei.grid.row i hi).lt.1 hai hei.apart,hpv.grown hg (hpv.2 i hi) hpv.2,hap,by simp,hba⟩
end
theorem col_facts {p m : Nat} {md l : List Nat} (hF : FT p m md l) {n cols c k : Nat} {s : ElS} (hG : Grid (p ^ m) n cols s.rows) (hpn : s.piv.length < n) (hlt : c < cols) (hk : k = findRow s.rows c (s.rows.length - s.piv.length) s.piv.length) (hk2 : k < n) :
 Grid (p ^ m) n cols (swapRows s.rows s.piv.length k) /\ at2 (swapRows s.rows s.piv.length k) s.piv.length c ≠ 0 /\ Grid (p ^ m) n cols (normRow (opsT p m l) (swapRows s.rows s.piv.length k) s.piv.length c) /\
 (∀ i,i <= n -> Grid (p ^ m) n cols (clearGo (opsT p m l) c s.piv.length (normRow (opsT p m l) (swapRows s.rows s.piv.length k) s.piv.length c) i)) /\
 elStep (opsT p m l) c s = ⟨clearGo (opsT p m l) c s.piv.length (normRow (opsT p m l) (swapRows s.rows s.piv.length k) s.piv.length c) n,s.piv ++ [c]⟩ := by
 have hln := hG.1
 have g1 := swap_grid hG hpn hk2
 have e0 : at2 s.rows k c ≠ 0 := by
  have := findRow_ne s.rows c (s.rows.length - s.piv.length) s.piv.length (by omega)
  rw [<- hk] at this
  exact this
 have e1 : at2 (swapRows s.rows s.piv.length k) s.piv.length c ≠ 0 := by
  unfold at2 at e0 ⊢
  rw [swap_at (by omega) (by omega)]
  exact e0
 have g2 := (norm_eq (qcN hF) g1 hpn hlt e1).2
 refine ⟨g1,e1,g2,fun i hi => (clear_eq (qcN hF) g2 hlt hpn i hi).2,?_⟩
 unfold elStep
 rw [if_pos (by omega),<- hk,if_neg (by omega),hln]
theorem inv_one {p m : Nat} {md l : List Nat} (hF : FT p m md l) {x : Nat} (hx : x < p ^ m) (h0 : x ≠ 0) : (opsT p m l).inv x < p ^ m /\ (x = 1 ↔ (opsT p m l).inv x = 1) := by
 have H := qbY (p := p) (m := m) (by have := hF.small.p1;omega) hF.small.m1 md
 obtain ⟨h1,h2,_⟩ := hF.tab.inv H h0 hx
 refine ⟨h2,?_,?_⟩
 . intro h
   subst h
   rw [H.one _ h2] at h1
   exact h1
 . intro h
   have h3 : invT l (logL l (p ^ m)) (p ^ m) x = 1 := h
   rw [h3,H.comm,H.one _ hx] at h1
   exact h1
theorem swap_self (rows : List (List Nat)) (i : Nat) (hi : i < rows.length) : swapRows rows i i = rows := by
 unfold swapRows
 apply List.ext_getElem
 . simp
 . intro j h1 h2
   rw [List.getElem_set,List.getElem_set]
   by_cases h : i = j
   . subst h;simp [List.getD,hi]
   . rw [if_neg h,if_neg h]
theorem clear_stay {O : Ops} {c t i : Nat} {rows : List (List Nat)} (h : i = t \/ at2 (clearGo O c t rows i) i c = 0) : clearGo O c t rows (i + 1) = clearGo O c t rows i := by
 show (if _ then _ else _) = _
 rw [if_neg (by omega)]
theorem clear_turn {O : Ops} {c t i : Nat} {rows : List (List Nat)} (h1 : i ≠ t) (h2 : at2 (clearGo O c t rows i) i c ≠ 0) : clearGo O c t rows (i + 1) = (clearGo O c t rows i).set i (addRow O ((clearGo O c t rows i).getD i []) (O.neg (at2 (clearGo O c t rows i) i c)) ((clearGo O c t rows i).getD t [])) := by
 show (if _ then _ else _) = _
 rw [if_pos ⟨h1,h2⟩]
end Go.Proofs.YtaddcadapbpkfaaGreatDoor
