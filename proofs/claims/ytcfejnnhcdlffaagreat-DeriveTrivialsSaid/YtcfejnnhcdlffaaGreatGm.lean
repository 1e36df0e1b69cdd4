/-
  matrix.canon.
-/
import Derived.Test.YtcfejnnhcdlffaaGreatGh
namespace Go.Proofs.YtcfejnnhcdlffaaGreat
open Go.RowKit Pln

theorem canonM_len (O : Ops) (rows : List (List Nat)) (cols : Nat) : (canonM O rows cols).length = (elGo O rows cols).piv.length := by
  unfold canonM
  rw [List.length_take, elGo_len]
  have := (elGo_piv (O := O) rows cols).2
  omega
theorem canonM_getD (O : Ops) (rows : List (List Nat)) (cols i : Nat) (hi : i < (elGo O rows cols).piv.length) : (canonM O rows cols).getD i [] = (elGo O rows cols).rows.getD i [] := by
  unfold canonM
  simp only [List.getD]
  rw [List.getElem?_take_of_lt hi]
theorem own_slice {w : World} {base n : Nat} {v : Value} {xs : List Value} (h : w.ownsRow base 3 1 v n xs) : ∃ VA ck, v = .slice VA n ck := by
  rcases h.2 with ⟨h1, h2⟩ | ⟨g, cap, cur, hv, _⟩
  · subst h2
    exact ⟨_, _, h1⟩
  · exact ⟨_, _, hv⟩
/-- A slice of slices that reads as rows, in blocks from lo on. -/
def RowsUp (w : World) (lo : Nat) (A : Option Addr) (zs : List (List Int)) : Prop :=
  0 < zs.length → ∃ b o, A = some ⟨b, o, none⟩ ∧ lo ≤ b ∧ b < w.heap.size ∧ ∀ i, i < zs.length → ∃ (bi oi ci : Nat), w.cell? ⟨b, o + i, none⟩ = some (.slice (some ⟨bi, oi, none⟩) (zs.getD i []).length ci) ∧ lo ≤ bi ∧ bi < w.heap.size ∧ ∀ j, j < (zs.getD i []).length → w.cell? ⟨bi, oi + j, none⟩ = some (.int .i64 ((zs.getD i []).getD j 0))
theorem RowsUp.rowsAt {w : World} {lo : Nat} {A : Option Addr} {zs : List (List Int)} (h : RowsUp w lo A zs) : RowsAt w w.heap.size A zs := fun hz => by
  obtain ⟨b, o, e, _, hlt, hc⟩ := h hz
  refine ⟨b, o, e, hlt, fun i hi => ?_⟩
  obtain ⟨bi, oi, ci, h1, _, h3, h4⟩ := hc i hi
  exact ⟨_, ci, h1, fun _ => ⟨bi, oi, rfl, h3, h4⟩⟩
theorem RowsUp.of_blocks {w w' : World} {lo : Nat} {A : Option Addr} {zs : List (List Int)} (h : RowsUp w lo A zs) (hs : w.heap.size ≤ w'.heap.size) (hb : ∀ k, lo ≤ k → k < w.heap.size → w'.heap[k]? = w.heap[k]?) : RowsUp w' lo A zs := fun hz => by
  have hcell : ∀ b o, lo ≤ b → b < w.heap.size → w'.cell? ⟨b, o, none⟩ = w.cell? ⟨b, o, none⟩ := fun b o h1 h2 => by
    unfold World.cell?
    rw [hb b h1 h2]
  obtain ⟨b, o, e, hlo, hlt, hc⟩ := h hz
  refine ⟨b, o, e, hlo, by omega, fun i hi => ?_⟩
  obtain ⟨bi, oi, ci, h1, h2, h3, h4⟩ := hc i hi
  exact ⟨bi, oi, ci, (hcell b _ hlo hlt).trans h1, h2, by omega, fun j hj => (hcell bi _ h2 h3).trans (h4 j hj)⟩
theorem RowsUp.setRow {w : World} {lo : Nat} {A : Option Addr} {zs : List (List Int)} (h : RowsUp w lo A zs) {g : Nat} (hg : g < lo) (cs : Array Value) : RowsUp (w.setRow g cs) lo A zs :=
  h.of_blocks (by simp) fun k hk _ => setRow_other w g k cs (by omega)
theorem GridAt.rowsAt {w : World} {B R cR : Nat} {rows : List (List Nat)} {bs : List (Nat × Nat)} (h : GridAt w B R cR rows bs) (zs : List (List Nat)) (hz : zs.length ≤ rows.length) (he : ∀ i, i < zs.length → zs.getD i [] = rows.getD i []) : RowsUp w B (some ⟨R, 0, none⟩) (nzs zs) := by
  intro _
  refine ⟨R, 0, rfl, h.lt.1, h.lt.2, fun i hi => ?_⟩
  rw [nzs_len] at hi
  have hr := h.row i (by omega)
  refine ⟨bk bs i, 0, cp bs i, ?_, hr.lt.1, hr.lt.2, fun j hj => ?_⟩
  · rw [Nat.zero_add, nzs_getD, nz_len, he i hi]
    exact h.cell (by omega)
  · rw [nzs_getD, he i hi] at hj ⊢
    rw [Nat.zero_add]
    exact hr.cell hj

set_option maxHeartbeats 1000000 in
set_option maxRecDepth 100000 in
theorem canon_c (gb Bg p m cols : Nat) (md l : List Nat) (rows : List (List Nat)) (A : Option Addr) (c : Nat) (w : World) (hF : FT p m md l) (hG : GFAt w Bg gb p m l (logL l (p ^ m))) (hBg : Bg ≤ w.heap.size) (hA : RowsAt w w.heap.size A (nzs rows))
    (hgr : Grid (p ^ m) rows.length cols rows) (h1 : 1 ≤ cols) (hc : cols ≤ 256) (hn : rows.length ≤ 256) :
    Calls Tryz.prog 95 #[.pointer (some ⟨gb, 0, none⟩), .slice A rows.length c, .int .i64 cols] w fun e w' => (∃ (R : Nat) (VA : Option Addr) (n ck : Nat), e = .returned (.tuple #[.slice (some ⟨R, 0, none⟩) (canonM (opsT p m l) rows cols).length (canonM (opsT p m l) rows cols).length, .slice VA n ck]) ∧ RowsUp w' w.heap.size (some ⟨R, 0, none⟩) (nzs (canonM (opsT p m l) rows cols))) ∧ Below w.heap.size w w' := by
  have HC1 := Lib.hid (clone_c rows A c w hA (fun r hr => by have := (hgr.2 r hr).1; omega) (by omega))
  have HC2 : Hid (∀ (bs : List (Nat × Nat)) (w1 : World), Below w.heap.size w w1 → GridAt w1 w.heap.size w.heap.size rows.length rows bs → Calls Tryz.prog 150 #[.pointer (some ⟨gb, 0, none⟩), .slice (some ⟨w.heap.size, 0, none⟩) rows.length rows.length, .int .i64 cols, .slice none 0 0] w1 (ElPost w1 w.heap.size w.heap.size rows.length p m l rows cols)) :=
    fun bs w1 hb hg => eliminate_c w.heap.size w.heap.size rows.length gb Bg p m cols md l rows bs w1 hF (hG.keep (hb.mono hBg)) hBg hb.size hg hgr hn hc
  have HK := Lib.hid (canonM_len (opsT p m l) rows cols)
  have HK2 := Lib.hid (elGo_piv (O := opsT p m l) rows cols)
  have HRL := Lib.hid (elGo_len (O := opsT p m l) rows cols)
  have HGD := Lib.hid (canonM_getD (opsT p m l) rows cols)
  clear hF hG hA hgr
  generalize canonM (opsT p m l) rows cols = cm at *
  go_enter Tryz.func95, Tryz.ntmps95
  go_wp2_with fail
  (with_reducible refine HC1.out.mono ?_)
  rintro e w1 ⟨rfl, ⟨bs, hg⟩, hb⟩
  have HG := Lib.hid hg
  have HB := Lib.hid hb
  clear hg hb
  go_wp2_with fail
  (with_reducible refine (HC2.out bs w1 HB.out HG.out).mono ?_)
  rintro e w2 ⟨⟨vp, d, bs2, rfl, hown, hgrid⟩, hb2⟩
  obtain ⟨VA, ck, rfl⟩ := own_slice hown
  have HGR := Lib.hid hgrid
  have HB2 := Lib.hid (HB.out.trans hb2)
  clear hown hgrid hb2
  have HX : Hid (RowsUp w2 w.heap.size (some ⟨w.heap.size, 0, none⟩) (nzs cm)) := HGR.out.rowsAt cm (by rw [HK.out, HRL.out]; exact HK2.out.2) (fun i hi => HGD.out i (by rw [← HK.out]; exact hi))
  have hk1 : (elGo (opsT p m l) rows cols).piv.length ≤ rows.length := HK2.out.2
  rw [← HK.out] at hk1
  have HK3 := Lib.hid HK.out.symm
  clear HK HK2 HRL HGD HC1 HC2 HGR
  rw [HK3.out]
  go_wp2_with fail
  go_ret2
  exact ⟨⟨_, _, _, _, rfl, HX.out⟩, HB2.out⟩
#print axioms canon_c
end Go.Proofs.YtcfejnnhcdlffaaGreat
