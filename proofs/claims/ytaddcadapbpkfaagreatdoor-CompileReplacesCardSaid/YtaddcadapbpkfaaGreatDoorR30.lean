/-
 code.own, code.of, code.New where nothing is wrong; modify.gen. code.of, code.New where nothing is wrong. modify.set of one position; modify.rest.
-/
import Derived.Test.YtaddcadapbpkfaaGreatDoorR29
namespace Go.Proofs.YtaddcadapbpkfaaGreatDoor
open Go.RowKit Pln
set_option maxHeartbeats 1000000 in
set_option maxRecDepth 100000 in
theorem own_c (p m : Int) (mod : List Int) (Am : Option Addr) (cm : Nat) (w : World) (hM : IntsAt w w.heap.size Am mod) (h0 : 0 < mod.length) (hl : mod.length <= 1000000) :
 Calls Tryz.prog 222 #[.agg #[.int .i64 p,.int .i64 m,.slice Am mod.length cm]] w fun e w' => (∃ (g c' : Nat),e = .returned (.agg #[.int .i64 p,.int .i64 m,.slice (some ⟨g,0,none⟩) mod.length c']) /\ IntsUp w' w.heap.size (some ⟨g,0,none⟩) mod) /\ Below w.heap.size w w' := by
 have HB0 : Hid (Below w.heap.size w ((w.alloc (.cells #[.int .i64 p,.int .i64 m,.slice Am mod.length cm] 29)).alloc (.cells #[.int .i64 0,.int .i64 0,.slice none 0 0] 29))) := ((Below.refl _ _).alloc (Nat.le_refl _) _).alloc (by simp) _
 have HS0 : Hid (w.heap.size + 1 < ((w.alloc (.cells #[.int .i64 p,.int .i64 m,.slice Am mod.length cm] 29)).alloc (.cells #[.int .i64 0,.int .i64 0,.slice none 0 0] 29)).heap.size) := by show _ < _;simp
 have HK0 : Hid (((w.alloc (.cells #[.int .i64 p,.int .i64 m,.slice Am mod.length cm] 29)).alloc (.cells #[.int .i64 0,.int .i64 0,.slice none 0 0] 29)).heap[w.heap.size]? = some (.cells [.int .i64 p,.int .i64 m,.slice Am mod.length cm].toArray 29 (0,0))) := (heap_alloc_old _ _ (by simp)).trans (heap_alloc_new _ _)
 have HK1 : Hid (((w.alloc (.cells #[.int .i64 p,.int .i64 m,.slice Am mod.length cm] 29)).alloc (.cells #[.int .i64 0,.int .i64 0,.slice none 0 0] 29)).heap[w.heap.size + 1]? = some (.cells #[.int .i64 0,.int .i64 0,.slice none 0 0] 29 (0,0))) := qbO (by simp) _
 have HM := Lib.hid hM
 clear hM
 go_enter Tryz.func222,Tryz.ntmps222
 go_wp2_with fail
 generalize (w.alloc (.cells #[.int .i64 p,.int .i64 m,.slice Am mod.length cm] 29)).alloc (.cells #[.int .i64 0,.int .i64 0,.slice none 0 0] 29) = W0 at *
 have HC := Lib.hid (sclone_c mod Am cm W0 ((HM.out.keep HB0.out).more HB0.out.size) h0 hl)
 (with_reducible refine HC.out.mono ?_)
 rintro e w1 ⟨⟨g,c',rfl,hrow⟩,hb1⟩
 have HR := Lib.hid hrow
 have HB1 := Lib.hid (HB0.out.trans (hb1.mono HB0.out.size))
 have k0 := (hb1.block w.heap.size (by have := HS0.out;omega)).trans HK0.out
 have k1 := (hb1.block (w.heap.size + 1) HS0.out).trans HK1.out
 have y2 : w1.cell? ⟨w.heap.size,2,none⟩ = some (.slice Am mod.length cm) := cell_of_row _ _ 2 _ _ _ k0
 have f2 : w1.frozen? ⟨w.heap.size,2,none⟩ = false := by simp [World.frozen?,k0]
 have K0 := Lib.hid (qaY k0 2 (.slice (some ⟨g,0,none⟩) mod.length c'))
 have K1 := Lib.hid ((Below.heap_setCell w1 ⟨w.heap.size,2,none⟩ (.slice (some ⟨g,0,none⟩) mod.length c') (w.heap.size + 1) (by show w.heap.size + 1 ≠ w.heap.size;omega)).trans k1)
 have HB2 := Lib.hid (HB1.out.setCell (p := ⟨w.heap.size,2,none⟩) (Nat.le_refl _) (.slice (some ⟨g,0,none⟩) mod.length c'))
 have hgl := HR.out.lt
 have hs0 := HS0.out
 have HU : Hid (IntsUp (w1.setCell ⟨w.heap.size,2,none⟩ (.slice (some ⟨g,0,none⟩) mod.length c')) W0.heap.size (some ⟨g,0,none⟩) mod) := fun hz => by
  have hr := (HR.out.far (p := ⟨w.heap.size,2,none⟩) (by show g ≠ w.heap.size;omega) (.slice (some ⟨g,0,none⟩) mod.length c'))
  exact ⟨g,0,rfl,hr.lt.1,hr.lt.2,fun j hj => by rw [Nat.zero_add];exact hr.cell hj⟩
 clear hrow hb1 k0 k1 HC HM
 go_upto_region 2 with fail
 generalize w1.setCell ⟨w.heap.size,2,none⟩ (.slice (some ⟨g,0,none⟩) mod.length c') = w2 at *
 clear y2 f2
 have HRG : Hid (w2.rangeAt w.heap.size 0 [.int .i64 p,.int .i64 m,.slice (some ⟨g,0,none⟩) mod.length c']) := qaB K0.out
 have HK2 : Hid ((w2.setRow (w.heap.size + 1) #[.int .i64 p,.int .i64 m,.slice (some ⟨g,0,none⟩) mod.length c']).heap[w.heap.size + 1]? = some (.cells #[.int .i64 p,.int .i64 m,.slice (some ⟨g,0,none⟩) mod.length c'] 29 (0,0))) := qaF _ _ _ _ _ K1.out
 go_wp2_with (first | (refine wpList_load_mid rfl 29 (.tmp 1) rfl w.heap.size 0 rfl [.int .i64 p,.int .i64 m,.slice (some ⟨g,0,none⟩) mod.length c'] _ HRG.out Tryz.underlying29 rfl fieldSize ?_) | (refine qaA rfl 29 (.tmp 2) (.tmp 7) rfl w2 (w.heap.size + 1) 29 #[.int .i64 0,.int .i64 0,.slice none 0 0] #[.int .i64 p,.int .i64 m,.slice (some ⟨g,0,none⟩) mod.length c'] rfl rfl K1.out fieldSize rfl (by simp [Value.oneCell']) ?_))
 refine bodyPost_ret (results_cell_row (P := Tryz.prog) rfl _ _ (w.heap.size + 1) 29 #[.int .i64 p,.int .i64 m,.slice (some ⟨g,0,none⟩) mod.length c'] (0,0) _ rfl HK2.out Tryz.underlying29 rfl fieldSize) rfl ?_
 refine ⟨⟨g,c',rfl,?_⟩,qaD HB2.out (by omega) _⟩
 exact (HU.out.of_blocks (by simp) fun k hk _ => setRow_other w2 (w.heap.size + 1) k _ (by omega)).lower (by have := HB0.out.size;omega)
set_option maxHeartbeats 1000000 in
set_option maxRecDepth 100000 in
theorem mgen_c (p m : Int) (Am : Option Addr) (n cm : Nat) (N : Int) (A : Option Addr) (nz c : Nat) (w : World) :
 Calls Tryz.prog 192 #[.agg #[.int .i64 p,.int .i64 m,.slice Am n cm,.int .i64 N,.slice A nz c]] w fun e w' => e = .returned (.agg #[.int .i64 N,.slice A nz c]) /\ Below w.heap.size w w' := by
 have HB0 : Hid (Below w.heap.size w (w.alloc (.cells #[.int .i64 p,.int .i64 m,.slice Am n cm,.int .i64 N,.slice A nz c] 35))) := (Below.refl _ _).alloc (Nat.le_refl _) _
 go_enter Tryz.func192,Tryz.ntmps192
 have HW0 : Hid ((w.alloc (.cells #[.int .i64 p,.int .i64 m,.slice Am n cm,.int .i64 N,.slice A nz c] 35)).heap.size = w.heap.size + 1) := by show _ = _;simp
 have HK : Hid (((w.alloc (.cells #[.int .i64 p,.int .i64 m,.slice Am n cm,.int .i64 N,.slice A nz c] 35)).alloc (.cells #[.int .i64 N,.slice A nz c] 105)).heap[w.heap.size + 1]? = some (.cells #[.int .i64 N,.slice A nz c] 105 (0,0))) := qbO HW0.out _
 have HB1 : Hid (Below w.heap.size w ((w.alloc (.cells #[.int .i64 p,.int .i64 m,.slice Am n cm,.int .i64 N,.slice A nz c] 35)).alloc (.cells #[.int .i64 N,.slice A nz c] 105))) := HB0.out.alloc (by rw [HW0.out];omega) _
 go_wp2_with (refine qaC rfl 105 (.tmp 2) (.tmp 7) rfl (w.alloc (.cells #[.int .i64 p,.int .i64 m,.slice Am n cm,.int .i64 N,.slice A nz c] 35)) _ #[.int .i64 N,.slice A nz c] (by show _ = Value.pointer (some ⟨_,0,none⟩);rw [HW0.out];rfl) rfl matSize rfl (by simp [Value.oneCell']) ?_)
 refine bodyPost_ret (results_cell_row (P := Tryz.prog) rfl _ _ (w.heap.size + 1) 105 #[.int .i64 N,.slice A nz c] (0,0) _ rfl HK.out Tryz.underlying105 rfl matSize) rfl ?_
 exact ⟨rfl,HB1.out⟩
end Go.Proofs.YtaddcadapbpkfaaGreatDoor
namespace Go.Proofs.YtaddcadapbpkfaaGreatDoor
open Go.RowKit Pln
def OfPost (w : World) (p m : Int) (mod : List Int) (cols : Int) (A : Option Addr) (n c : Nat) (e : Ending) (w' : World) : Prop :=
 (∃ (g c' : Nat),e = .returned (.tuple #[.agg #[.int .i64 p,.int .i64 m,.slice (some ⟨g,0,none⟩) mod.length c',.int .i64 cols,.slice A n c],.int .i64 0]) /\ IntsUp w' w.heap.size (some ⟨g,0,none⟩) mod) /\ Below w.heap.size w w'
structure BoxC (w : World) (f a r : List Value) (W : World) : Prop where
 below : Below w.heap.size w W
 size : w.heap.size + 2 < W.heap.size
 k0 : W.heap[w.heap.size]? = some (.cells f.toArray 29 (0,0))
 k1 : W.heap[w.heap.size + 1]? = some (.cells a.toArray 105 (0,0))
 k2 : W.heap[w.heap.size + 1 + 1]? = some (.cells r.toArray 35 (0,0))
section
variable {w : World} {f a r : List Value} {W W' : World}
theorem BoxC.keep (h : BoxC w f a r W) (hb : Below W.heap.size W W') : BoxC w f a r W' := by
 have hs := h.size
 exact ⟨h.below.trans (hb.mono (by omega)),Nat.lt_of_lt_of_le hs hb.size,(hb.block _ (by omega)).trans h.k0,(hb.block _ (by omega)).trans h.k1,(hb.block _ (by omega)).trans h.k2⟩
theorem BoxC.set (h : BoxC w f a r W) (r' : List Value) : BoxC w f a r' (W.setRow (w.heap.size + 1 + 1) r'.toArray) :=
 ⟨qaD h.below (by omega) _,by simpa using h.size,(setRow_other W _ _ _ (by omega)).trans h.k0,(setRow_other W _ _ _ (by omega)).trans h.k1,qaF W _ _ _ _ h.k2⟩
theorem boxC (w : World) (f a r : Array Value) : BoxC w f.toList a.toList r.toList (((w.alloc (.cells f 29)).alloc (.cells a 105)).alloc (.cells r 35)) := by
 refine ⟨(((Below.refl _ _).alloc (Nat.le_refl _) _).alloc (by simp) _).alloc (by simp;omega) _,by simp,?_,?_,?_⟩
 . exact (heap_alloc_old _ _ (by simp;omega)).trans ((heap_alloc_old _ _ (by simp)).trans (heap_alloc_new _ _))
 . exact (heap_alloc_old _ _ (by simp)).trans (qbO (by simp) _)
 . exact qbO (by simp) _
end
set_option maxHeartbeats 1000000 in
set_option maxRecDepth 100000 in
theorem of_c (p m : Int) (mod : List Int) (Am : Option Addr) (cm : Nat) (cols : Int) (A : Option Addr) (n c : Nat) (w : World) (hM : IntsAt w w.heap.size Am mod) (h0 : 0 < mod.length) (hl : mod.length <= 1000000) :
 Calls Tryz.prog 152 #[.agg #[.int .i64 p,.int .i64 m,.slice Am mod.length cm],.agg #[.int .i64 cols,.slice A n c],.int .i64 0] w (OfPost w p m mod cols A n c) := by
 have HX : Hid (BoxC w [.int .i64 p,.int .i64 m,.slice Am mod.length cm] [.int .i64 cols,.slice A n c] [.int .i64 0,.int .i64 0,.slice none 0 0,.int .i64 0,.slice none 0 0] (((w.alloc (.cells #[.int .i64 p,.int .i64 m,.slice Am mod.length cm] 29)).alloc (.cells #[.int .i64 cols,.slice A n c] 105)).alloc (.cells #[.int .i64 0,.int .i64 0,.slice none 0 0,.int .i64 0,.slice none 0 0] 35))) := boxC w _ _ _
 have HM := Lib.hid hM
 clear hM
 go_enter Tryz.func152,Tryz.ntmps152
 go_upto_region 3 with fail
 generalize ((w.alloc (.cells #[.int .i64 p,.int .i64 m,.slice Am mod.length cm] 29)).alloc (.cells #[.int .i64 cols,.slice A n c] 105)).alloc (.cells #[.int .i64 0,.int .i64 0,.slice none 0 0,.int .i64 0,.slice none 0 0] 35) = W0 at *
 have HRNG : Hid (∀ W,LSt W0 W -> W.rangeAt w.heap.size 0 [.int .i64 p,.int .i64 m,.slice Am mod.length cm]) := fun W hW => qaB (HX.out.keep hW).k0
 have HCV : Hid (∀ W,LSt W0 W -> W.cell? ⟨w.heap.size + 1,0,none⟩ = some (.int .i64 cols) /\ W.cell? ⟨w.heap.size + 1,1,none⟩ = some (.slice A n c)) := fun W hW => ⟨cell_of_row _ _ 0 _ _ _ (HX.out.keep hW).k1,cell_of_row _ _ 1 _ _ _ (HX.out.keep hW).k1⟩
 have HS0 : Hid (LSt W0 W0.drew) := (Below.refl _ _).drew
 have HC : Hid (Calls Tryz.prog 222 #[.agg #[.int .i64 p,.int .i64 m,.slice Am mod.length cm]] W0.drew fun e w' => (∃ (g c' : Nat),e = .returned (.agg #[.int .i64 p,.int .i64 m,.slice (some ⟨g,0,none⟩) mod.length c']) /\ IntsUp w' W0.heap.size (some ⟨g,0,none⟩) mod) /\ Below W0.heap.size W0 w') :=
  (own_c p m mod Am cm W0.drew (((HM.out.keep HX.out.below).keep (HS0.out.mono HX.out.below.size)).more HX.out.below.size) h0 hl).mono fun e w' ⟨h1,h2⟩ => ⟨h1,HS0.out.trans h2⟩
 refine qcY 7 (LSt W0) [(true,0),(true,2),(true,3),(true,4),(true,5),(false,1),(true,6)] default (by kernel_rfl) (by kernel_rfl) (fun _ _ d _ _ h => by cases d <;> exact h) HS0.out ?_
 simp only [List.map_cons,List.map_nil,List.getD_cons_zero,List.getD_cons_succ]
 refine mix_load_mid rfl 29 (.tmp 3) rfl w.heap.size 0 rfl [.int .i64 p,.int .i64 m,.slice Am mod.length cm] _ HRNG.out Tryz.underlying29 rfl fieldSize ?_
 go_simp
 iterate 4
  apply qfF rfl
  . intro W hW
    obtain ⟨z0,z1⟩ := HCV.out W hW
    go_simp
    rfl
  go_simp
 apply mix_call rfl
 . go_simp
   exact ⟨rfl,rfl⟩
 with_reducible refine HC.out.mono ?_
 rintro e w1 ⟨⟨g,c',rfl,hu⟩,hb1⟩
 refine ⟨_,rfl,hb1,?_⟩
 go_simp
 apply qfF rfl
 . intro W hW
   go_simp
   rfl
 go_simp
 refine mix_nil ?_
 have HX1 := Lib.hid (HX.out.keep hb1)
 have HK2 := Lib.hid HX1.out.k2
 have HY := Lib.hid (HX1.out.set [.int .i64 p,.int .i64 m,.slice (some ⟨g,0,none⟩) mod.length c',.int .i64 cols,.slice A n c])
 have HU := Lib.hid hu
 have hs := HX.out.size
 clear hu hb1
 go_wp2_with (refine qaA rfl 35 (.tmp 6) (.tmp 18) rfl w1 (w.heap.size + 1 + 1) 35 #[.int .i64 0,.int .i64 0,.slice none 0 0,.int .i64 0,.slice none 0 0] #[.int .i64 p,.int .i64 m,.slice (some ⟨g,0,none⟩) mod.length c',.int .i64 cols,.slice A n c] rfl rfl HK2.out codeSize rfl (by simp [Value.oneCell']) ?_)
 refine bodyPost_ret (qaE (P := Tryz.prog) rfl _ _ (w.heap.size + 1 + 1) 35 #[.int .i64 p,.int .i64 m,.slice (some ⟨g,0,none⟩) mod.length c',.int .i64 cols,.slice A n c] (0,0) _ _ rfl rfl HY.out.k2 Tryz.underlying35 rfl codeSize) rfl ?_
 refine ⟨⟨g,c',rfl,?_⟩,HY.out.below⟩
 exact (HU.out.of_blocks (by simp) fun k hk _ => setRow_other w1 (w.heap.size + 1 + 1) k _ (by omega)).lower (by omega)
set_option maxHeartbeats 1000000 in
set_option maxRecDepth 100000 in
theorem canonical2_c (p m : Int) (mod : List Int) (Am : Option Addr) (cm : Nat) (cols : Nat) (rows : List (List Nat)) (A : Option Addr) (c : Nat) (w : World) (hM : IntsAt w w.heap.size Am mod) (hl : mod.length <= 9223372036854775807)
 (hA : RowsAt w w.heap.size A (nzs rows)) (h1 : 1 <= cols) (herr : errC p m mod cols (nzs rows) = 0) :
 Calls Tryz.prog 150 #[.agg #[.int .i64 p,.int .i64 m,.slice Am mod.length cm],.agg #[.int .i64 (cols : Int),.slice A rows.length c]] w fun e w' => (∃ (R : Nat) (VA : Option Addr) (ck : Nat),e = .returned (.tuple #[.agg #[.int .i64 (cols : Int),.slice (some ⟨R,0,none⟩) (canonM (opsT p.toNat m.toNat (lOf p m mod)) rows cols).length (canonM (opsT p.toNat m.toNat (lOf p m mod)) rows cols).length],.slice VA (canonM (opsT p.toNat m.toNat (lOf p m mod)) rows cols).length ck,.int .i64 0]) /\ RowsUp w' (w.heap.size + 1 + 1 + 1) (some ⟨R,0,none⟩) (nzs (canonM (opsT p.toNat m.toNat (lOf p m mod)) rows cols)) /\ IntsUp w' (w.heap.size + 1 + 1 + 1) VA (nz (elGo (opsT p.toNat m.toNat (lOf p m mod)) rows cols).piv)) /\ Below w.heap.size w w' := by
 obtain ⟨hok,hz,hgr,_,hc1,hn⟩ := qdF herr
 rw [Int.toNat_natCast] at hgr
 have HX := Lib.hid ((box3 w p m Am mod.length cm cols A rows.length c 105 #[.int .i64 0,.slice none 0 0]).keep ((Below.refl _ _).alloc (Nat.le_refl _) (.cells #[.int .i64 (cols : Int),.slice A rows.length c] 105)))
 have HK3 : Hid (((((w.alloc (.cells #[.int .i64 p,.int .i64 m,.slice Am mod.length cm] 29)).alloc (.cells #[.int .i64 (cols : Int),.slice A rows.length c] 105)).alloc (.cells #[.int .i64 0,.slice none 0 0] 105)).alloc (.cells #[.int .i64 (cols : Int),.slice A rows.length c] 105)).heap[w.heap.size + 1 + 1 + 1]? = some (.cells #[.int .i64 (cols : Int),.slice A rows.length c] 105 (0,0))) := qbO (by simp) _
 have HM := Lib.hid hM
 have HA := Lib.hid hA
 have HFT := Lib.hid (qdK hok)
 have HGR := Lib.hid hgr
 clear hM hA herr
 go_enter Tryz.func150,Tryz.ntmps150
 go_wp2_with fail
 generalize (((w.alloc (.cells #[.int .i64 p,.int .i64 m,.slice Am mod.length cm] 29)).alloc (.cells #[.int .i64 (cols : Int),.slice A rows.length c] 105)).alloc (.cells #[.int .i64 0,.slice none 0 0] 105)).alloc (.cells #[.int .i64 (cols : Int),.slice A rows.length c] 105) = W0 at *
 have HC := Lib.hid (open_c p m mod Am cm cols (nzs rows) A c (w.heap.size + 1 + 1 + 1) 1 W0 ((HM.out.keep HX.out.below).more HX.out.below.size) hl ((HA.out.keep HX.out.below).more HX.out.below.size) (by rw [qaU];omega) (by rw [qaU];exact HK3.out))
 (with_reducible refine HC.out.mono ?_)
 rintro e w1 ⟨hb1,hcase⟩
 have HX1 := Lib.hid (HX.out.keep hb1)
 have HA1 := Lib.hid ((HA.out.keep HX1.out.below).more HX1.out.below.size)
 clear HX HM HA HC HK3 hb1
 clear W0
 rcases hcase with ⟨hok',_⟩ | ⟨_,hz',_⟩ | ⟨_,_,gb,rfl,hg⟩
 . rw [hok] at hok';cases hok'
 . exact absurd hz hz'
 clear hok hz
 have HCA := Lib.hid (canon2_c gb w1.heap.size p.toNat m.toNat cols (mdOf m mod) (lOf p m mod) rows A c w1 HFT.out hg (Nat.le_refl _) HA1.out HGR.out h1 (by omega) hn)
 have hs1 := HX1.out.size
 have hs2 : w.heap.size + 1 < w1.heap.size := by omega
 have a0 : w1.cell? ⟨w.heap.size + 1,0,none⟩ = some (.int .i64 (cols : Int)) := cell_of_row _ _ 0 _ _ _ HX1.out.k1
 have a1 : w1.cell? ⟨w.heap.size + 1,1,none⟩ = some (.slice A rows.length c) := cell_of_row _ _ 1 _ _ _ HX1.out.k1
 clear hg HA1
 generalize hpiv : (elGo (opsT p.toNat m.toNat (lOf p m mod)) rows cols).piv = piv at *
 generalize hout : canonM (opsT p.toNat m.toNat (lOf p m mod)) rows cols = out at *
 have HPIV := Lib.hid hpiv
 have HOUT := Lib.hid hout
 clear hpiv hout
 go_wp2_with fail
 (with_reducible refine HCA.out.mono ?_)
 rintro e w2 ⟨⟨R,VA,ck,rfl,hru,hpv⟩,hb2⟩
 have HX2 := Lib.hid (HX1.out.keep hb2)
 have HRU := Lib.hid hru
 have HPV := Lib.hid hpv
 have HK22 := Lib.hid HX2.out.k2
 clear hru hpv hb2 HCA HX1 a0 a1
 have a0 : w2.cell? ⟨w.heap.size + 1,0,none⟩ = some (.int .i64 (cols : Int)) := cell_of_row _ _ 0 _ _ _ HX2.out.k1
 have HY := Lib.hid (HX2.out.set #[.int .i64 (cols : Int),.slice (some ⟨R,0,none⟩) out.length out.length])
 go_wp2_with (refine qaA rfl 105 (.tmp 4) (.tmp 34) rfl w2 (w.heap.size + 1 + 1) 105 #[.int .i64 0,.slice none 0 0] #[.int .i64 (cols : Int),.slice (some ⟨R,0,none⟩) out.length out.length] rfl rfl HK22.out matSize rfl (by simp [Value.oneCell']) ?_)
 refine bodyPost_ret (qcG (P := Tryz.prog) rfl _ _ (w.heap.size + 1 + 1) 105 #[.int .i64 (cols : Int),.slice (some ⟨R,0,none⟩) out.length out.length] (0,0) _ _ _ rfl rfl rfl HY.out.k2 Tryz.underlying105 rfl matSize) rfl ?_
 rw [HPIV.out,HOUT.out]
 refine ⟨⟨R,VA,ck,rfl,?_,?_⟩,HY.out.below⟩
 . have h1 := HRU.out.setRow (show w.heap.size + 1 + 1 < w1.heap.size by omega) #[.int .i64 (cols : Int),.slice (some ⟨R,0,none⟩) out.length out.length]
   exact h1.lower (by omega)
 . have h1 : IntsUp (w2.setRow (w.heap.size + 1 + 1) #[.int .i64 (cols : Int),.slice (some ⟨R,0,none⟩) out.length out.length]) w1.heap.size VA (nz piv) := HPV.out.of_blocks (by simp) fun k hk _ => setRow_other w2 (w.heap.size + 1 + 1) k _ (by omega)
   exact h1.lower (by omega)
def NewPost (w : World) (p m : Int) (mod : List Int) (cols : Int) (rows : List (List Nat)) (e : Ending) (w' : World) : Prop :=
 (∃ (g c' : Nat) (R : Option Addr) (k : Nat),e = .returned (.tuple #[.agg #[.int .i64 p,.int .i64 m,.slice (some ⟨g,0,none⟩) mod.length c',.int .i64 cols,.slice R rows.length k],.int .i64 0]) /\ IntsUp w' (w.heap.size + 1 + 1 + 1) (some ⟨g,0,none⟩) mod /\ RowsUp w' (w.heap.size + 1 + 1 + 1) R (nzs rows)) /\ Below w.heap.size w w'
set_option maxHeartbeats 1000000 in
set_option maxRecDepth 100000 in
theorem new_c (p m : Int) (mod : List Int) (Am : Option Addr) (cm : Nat) (cols : Nat) (rows : List (List Nat)) (A : Option Addr) (c : Nat) (w : World) (hM : IntsAt w w.heap.size Am mod) (h0 : 0 < mod.length) (hl : mod.length <= 1000000)
 (hA : RowsAt w w.heap.size A (nzs rows)) (h1 : 1 <= cols) (herr : errC p m mod cols (nzs rows) = 0) (hN : lengthZ cols = 0) :
 Calls Tryz.prog 56 #[.agg #[.int .i64 p,.int .i64 m,.slice Am mod.length cm],.agg #[.int .i64 (cols : Int),.slice A rows.length c]] w (NewPost w p m mod cols (canonM (opsT p.toNat m.toNat (lOf p m mod)) rows cols)) := by
 have HX : Hid (BoxC w [.int .i64 p,.int .i64 m,.slice Am mod.length cm] [.int .i64 (cols : Int),.slice A rows.length c] [.int .i64 0,.int .i64 0,.slice none 0 0,.int .i64 0,.slice none 0 0] (((w.alloc (.cells #[.int .i64 p,.int .i64 m,.slice Am mod.length cm] 29)).alloc (.cells #[.int .i64 (cols : Int),.slice A rows.length c] 105)).alloc (.cells #[.int .i64 0,.int .i64 0,.slice none 0 0,.int .i64 0,.slice none 0 0] 35))) := boxC w _ _ _
 have HM := Lib.hid hM
 have HA := Lib.hid hA
 have HN := Lib.hid hN
 clear hM hA hN
 go_enter Tryz.func56,Tryz.ntmps56
 go_wp2_with fail
 generalize ((w.alloc (.cells #[.int .i64 p,.int .i64 m,.slice Am mod.length cm] 29)).alloc (.cells #[.int .i64 (cols : Int),.slice A rows.length c] 105)).alloc (.cells #[.int .i64 0,.int .i64 0,.slice none 0 0,.int .i64 0,.slice none 0 0] 35) = W0 at *
 have HC := Lib.hid (canonical2_c p m mod Am cm cols rows A c W0 ((HM.out.keep HX.out.below).more HX.out.below.size) (by omega) ((HA.out.keep HX.out.below).more HX.out.below.size) h1 herr)
 (with_reducible refine HC.out.mono ?_)
 rintro e w1 ⟨⟨R,VA,ck,rfl,hra,hpvx⟩,hb1⟩
 clear hpvx
 have hs0 := HX.out.size
 have HX1 := Lib.hid (HX.out.keep hb1)
 have HM1 := Lib.hid ((HM.out.keep HX1.out.below).more HX1.out.below.size)
 clear HX HM HA HC hb1
 generalize canonM (opsT p.toNat m.toNat (lOf p m mod)) rows cols = out at *
 have HRA := Lib.hid (hra.lower (lo' := w.heap.size + 1 + 1 + 1) (by omega))
 have hs1 : w.heap.size < w1.heap.size := by have := HX1.out.size;omega
 have hs2 : w.heap.size + 1 < w1.heap.size := by have := HX1.out.size;omega
 have HBA : Hid (Below w1.heap.size w1 (w1.alloc (.cells #[.int .i64 (cols : Int),.slice (some ⟨R,0,none⟩) out.length out.length] 105))) := (Below.refl _ _).alloc (Nat.le_refl _) _
 have HX2 := Lib.hid (HX1.out.keep HBA.out)
 have HM2 := Lib.hid ((HM1.out.keep HBA.out).more HBA.out.size)
 have HR2 := Lib.hid (HRA.out.grow HBA.out)
 have HBX : Hid ((w1.alloc (.cells #[.int .i64 (cols : Int),.slice (some ⟨R,0,none⟩) out.length out.length] 105)).heap[w1.heap.size]? = some (.cells [.int .i64 (cols : Int),.slice (some ⟨R,0,none⟩) out.length out.length].toArray 105 (0,0))) := heap_alloc_new _ _
 have HBS : Hid (w1.heap.size < (w1.alloc (.cells #[.int .i64 (cols : Int),.slice (some ⟨R,0,none⟩) out.length out.length] 105)).heap.size) := by show _ < _;simp
 clear hra HRA HM1 hs0
 clear W0
 go_upto_region 3 with (refine qaC rfl 105 (.tmp 6) (.tmp 13) rfl w1 _ #[.int .i64 (cols : Int),.slice (some ⟨R,0,none⟩) out.length out.length] rfl rfl matSize rfl (by simp [Value.oneCell']) ?_)
 generalize w1.alloc (.cells #[.int .i64 (cols : Int),.slice (some ⟨R,0,none⟩) out.length out.length] 105) = w2 at *
 have a0 : w2.cell? ⟨w.heap.size + 1,0,none⟩ = some (.int .i64 (cols : Int)) := cell_of_row _ _ 0 _ _ _ HX2.out.k1
 have HLN := Lib.hid (length_c cols w2)
 rw [HN.out] at HLN
 go_wp2_with fail
 (with_reducible refine HLN.out.mono ?_)
 rintro e w3 ⟨rfl,rfl⟩
 have HRF : Hid (w2.rangeAt w.heap.size 0 [.int .i64 p,.int .i64 m,.slice Am mod.length cm]) := qaB HX2.out.k0
 have HRM : Hid (w2.rangeAt w1.heap.size 0 [.int .i64 (cols : Int),.slice (some ⟨R,0,none⟩) out.length out.length]) := qaB HBX.out
 have HOF := Lib.hid (of_c p m mod Am cm cols (some ⟨R,0,none⟩) out.length out.length w2 HM2.out h0 hl)
 clear a0
 go_wp2_with (first | (refine wpList_load_mid rfl 29 (.tmp 2) rfl w.heap.size 0 rfl [.int .i64 p,.int .i64 m,.slice Am mod.length cm] _ HRF.out Tryz.underlying29 rfl fieldSize ?_) | (refine wpList_load_mid rfl 105 (.tmp 6) rfl w1.heap.size 0 rfl [.int .i64 (cols : Int),.slice (some ⟨R,0,none⟩) out.length out.length] _ HRM.out Tryz.underlying105 rfl matSize ?_))
 (with_reducible refine HOF.out.mono ?_)
 rintro e w4 ⟨⟨g,c',rfl,hu⟩,hb4⟩
 have HX4 := Lib.hid (HX2.out.keep hb4)
 have HK2 := Lib.hid HX4.out.k2
 have HY := Lib.hid (HX4.out.set [.int .i64 p,.int .i64 m,.slice (some ⟨g,0,none⟩) mod.length c',.int .i64 (cols : Int),.slice (some ⟨R,0,none⟩) out.length out.length])
 have HU := Lib.hid hu
 have HR4 := Lib.hid (HR2.out.grow hb4)
 have hsz := HX2.out.size
 have hb4s := hb4.size
 clear hu hb4
 go_wp2_with (refine qaA rfl 35 (.tmp 4) (.tmp 25) rfl w4 (w.heap.size + 1 + 1) 35 #[.int .i64 0,.int .i64 0,.slice none 0 0,.int .i64 0,.slice none 0 0] #[.int .i64 p,.int .i64 m,.slice (some ⟨g,0,none⟩) mod.length c',.int .i64 (cols : Int),.slice (some ⟨R,0,none⟩) out.length out.length] rfl rfl HK2.out codeSize rfl (by simp [Value.oneCell']) ?_)
 refine bodyPost_ret (qaE (P := Tryz.prog) rfl _ _ (w.heap.size + 1 + 1) 35 #[.int .i64 p,.int .i64 m,.slice (some ⟨g,0,none⟩) mod.length c',.int .i64 (cols : Int),.slice (some ⟨R,0,none⟩) out.length out.length] (0,0) _ _ rfl rfl HY.out.k2 Tryz.underlying35 rfl codeSize) rfl ?_
 refine ⟨⟨g,c',_,_,rfl,?_,?_⟩,HY.out.below⟩
 . have h1 : IntsUp (w4.setRow (w.heap.size + 1 + 1) #[.int .i64 p,.int .i64 m,.slice (some ⟨g,0,none⟩) mod.length c',.int .i64 (cols : Int),.slice (some ⟨R,0,none⟩) out.length out.length]) w2.heap.size (some ⟨g,0,none⟩) mod := HU.out.of_blocks (by simp) fun k hk _ => setRow_other w4 (w.heap.size + 1 + 1) k _ (by omega)
   exact h1.lower (by omega)
 . exact HR4.out.setRow (show w.heap.size + 1 + 1 < w.heap.size + 1 + 1 + 1 by omega) _
end Go.Proofs.YtaddcadapbpkfaaGreatDoor
namespace Go.Proofs.YtaddcadapbpkfaaGreatDoor
open Go.RowKit Pln
def Num (w : World) (B : Nat) (v : Value) (l : List Nat) : Prop := w.ownsRow B 3 1 v l.length ((nz l).map (Value.int .i64))
section
variable {w w' : World} {B : Nat} {v : Value} {l : List Nat}
theorem Num.nil (w : World) (B : Nat) : Num w B (.slice none 0 0) [] := World.ownsRow_nil _ _ _ _
theorem Num.grow (h : Num w B v l) (hb : Below w.heap.size w w') : Num w' B v l :=
 World.ownsRow.kept h (row := none) ⟨hb.os,hb.tape,hb.output,hb.size,fun j hj _ => hb.block j hj⟩ (by cases v.ownBlock <;> simp)
theorem Num.slice (h : Num w B v l) : ∃ VA ck,v = .slice VA l.length ck := own_slice h
theorem Num.up {VA : Option Addr} {ck : Nat} (h : Num w B (.slice VA l.length ck) l) : IntsUp w B VA (nz l) := ints_of_own h rfl
theorem Num.step {w2 : World} {v' : Value} {x : Nat} (h : w2.ownsRow B 3 1 v' (l.length + 1) ((nz l).map (Value.int .i64) ++ [.int .i64 (x : Int)])) : Num w2 B v' (l ++ [x]) := by
 unfold Num
 rw [List.length_append,nz,List.map_append,List.map_append]
 exact h
end
def RelRest (w : World) (set : List Nat) (n : Nat) (v5 v8 : Value) (wr : World) : Prop := ∃ c : Nat,c <= n /\ v8 = .int .i64 c /\ Num wr w.heap.size v5 (freeC set c) /\ Below w.heap.size w wr
set_option maxHeartbeats 1000000 in
set_option maxRecDepth 100000 in
theorem rest_c (set : List Nat) (n : Nat) (A : Option Addr) (ca : Nat) (w : World) (hA : IntsAt w w.heap.size A (nz set)) (hl : set.length <= 1000000) (hn : n <= 1000000) :
 Calls Tryz.prog 194 #[.slice A set.length ca,.int .i64 (n : Int)] w fun e w' => (∃ VA ck,e = .returned (.slice VA (freeC set n).length ck) /\ IntsUp w' w.heap.size VA (nz (freeC set n))) /\ Below w.heap.size w w' := by
 obtain ⟨i0,hi,hz0,hz1,hz2⟩ := info_parts infoInt
 have HI := Lib.hid hi
 have HZ0 := Lib.hid hz0
 have HZ1 := Lib.hid hz1
 have HZ2 := Lib.hid hz2
 have HA := Lib.hid hA
 clear hA hi hz0 hz1 hz2
 go_enter Tryz.func194,Tryz.ntmps194
 go_wp2_with fail
 go_loopw [5,8] (fun v5 v8 wr => RelRest w set n v5 v8 wr) (fun _ v8 _ => n - (intOf v8).toNat)
 case atStart => exact ⟨0,by omega,rfl,Num.nil _ _,Below.refl _ _⟩
 case round =>
  obtain ⟨c,hc,rfl,hnum,hb⟩ := hrel
  obtain ⟨VA,ck,rfl⟩ := hnum.slice
  have HNU := Lib.hid hnum
  have HB := Lib.hid hb
  have hbs := hb.size
  clear hnum hb
  by_cases hlt : c < n
  . have HCT : Hid (Calls Tryz.prog 218 #[.slice A set.length ca,.int .i64 (c : Int)] wr (Quiet (.bool (decide (c ∈ set))) wr)) := by
     have := contains_c (nz set) c A ca wr ((HA.out.keep HB.out).more hbs) (by rw [qaI];omega)
     rw [qaI,show decide ((c : Int) ∈ nz set) = decide (c ∈ set) by simp [mem_nz]] at this
     exact this
    by_cases hp : c ∈ set
    . rw [decide_eq_true hp] at HCT
      have HFS : Hid (freeC set (c + 1) = freeC set c) := by show _ = _;rw [qcK,if_pos hp,List.append_nil]
      clear hp
      go_wp2_with fail
      (with_reducible refine HCT.out.mono ?_)
      rintro e w3 ⟨rfl,k,rfl⟩
      have HB3 : Hid (Below wr.heap.size wr (wr.drewN k)) := qaK (Below.refl _ _) k
      generalize wr.drewN k = w4 at *
      go_wp2_with fail
      go_roundw
      case rel => exact ⟨c + 1,by omega,by go_num,by rw [HFS.out];exact HNU.out.grow HB3.out,HB.out.trans (HB3.out.mono hbs)⟩
      case measure => simp [intOf];omega
    . rw [decide_eq_false hp] at HCT
      have HFS : Hid (freeC set (c + 1) = freeC set c ++ [c]) := by show _ = _;rw [qcK,if_neg hp]
      have hfl := qeR set c
      clear hp
      go_wp2_with fail
      (with_reducible refine HCT.out.mono ?_)
      rintro e w3 ⟨rfl,k,rfl⟩
      have HB3 : Hid (Below wr.heap.size wr (wr.drewN k)) := qaK (Below.refl _ _) k
      have HN4 := Lib.hid (HNU.out.grow HB3.out)
      have HB4 := Lib.hid (HB.out.trans (HB3.out.mono hbs))
      clear HNU HB HB3
      generalize wr.drewN k = w4 at *
      have hb4 := HB4.out.size
      have HOW : Hid ((w4.alloc (.cells #[.int .i64 (c : Int)] 3)).ownsRow w.heap.size 3 1 (.slice VA (freeC set c).length ck) (freeC set c).length ((nz (freeC set c)).map (Value.int .i64))) := World.ownsRow.alloc HN4.out _
      go_wp2_with (at_builtin;refine wpList_append_own_at _ rfl (.tmp 15) (.tmp 17) 22 rfl w.heap.size 3 i0 _ 1 8 Tryz.underlying22 HI.out HZ0.out HZ1.out HZ2.out rfl (by decide) (.slice VA (freeC set c).length ck) (freeC set c).length ((nz (freeC set c)).map (Value.int .i64)) rfl HOW.out ⟨w4.heap.size,0,none⟩ 1 1 [.int .i64 (c : Int)] rfl rfl ?d1 ?d2 ?d3 ?d4 ?d5 ?_)
      case d1 => exact World.news_of_block (cs := #[.int .i64 (c : Int)]) (t := 3) (fr := (0,0)) (heap_alloc_new w4 _)
      case d2 => intro u hu;simp at hu;subst hu;rfl
      case d3 => unfold maxLen;omega
      case d4 => omega
      case d5 => simp;omega
      intro v' w7 hown' hgw _ hat
      have HN7 : Hid (Num w7 w.heap.size v' (freeC set (c + 1))) := by
       show Num _ _ _ _
       rw [HFS.out]
       exact Num.step hown'
      have HB7 : Hid (Below w.heap.size w w7) := (HB4.out.alloc (by omega) _).grown hgw (by simp;omega) (fun j hj => (World.ownsRow.lt HN4.out j hj).1)
      clear hown' hgw hat HOW
      go_wp2_with fail
      go_roundw
      case rel => exact ⟨c + 1,by omega,by go_num,HN7.out,HB7.out⟩
      case measure => simp [intOf];omega
  . obtain rfl : c = n := by omega
    go_wp2_with fail
    go_ret
    exact ⟨⟨VA,ck,rfl,HNU.out.up⟩,HB.out⟩
set_option maxHeartbeats 1000000 in
set_option maxRecDepth 100000 in
theorem mset_c (x n : Int) (A : Option Addr) (ca : Nat) (w : World) (hA : IntsAt w w.heap.size A [x]) (h0 : 0 <= x) (h1 : x < n) :
 Calls Tryz.prog 195 #[.slice A 1 ca,.int .i64 n] w fun e w' => e = .returned (.bool true) /\ w' = w := by
 obtain ⟨b,o,rfl,hb,hc⟩ := hA.at_ (k := 0) (by simp)
 simp at hc
 have hx0 : ¬ x < 0 := by omega
 have hx1 : ¬ n <= x := by omega
 clear hA
 go_enter Tryz.func195,Tryz.ntmps195
 go_wp2_with fail
 go_loopw [9] (fun v9 wr => ∃ k : Nat,k <= 1 /\ v9 = .int .i64 k /\ wr = w) (fun v9 _ => 1 - (intOf v9).toNat)
 case atStart => exact ⟨0,by omega,rfl,rfl⟩
 case round =>
  obtain ⟨k,hk,rfl,rfl⟩ := hrel
  by_cases hk0 : k = 0
  . subst hk0
    go_wp2_with fail
    go_roundw
    case rel => exact ⟨1,by omega,by go_num,trivial⟩
    case measure => simp [intOf]
  . obtain rfl : k = 1 := by omega
    go_wp2_with fail
    go_ret
    exact ⟨rfl,rfl⟩
end Go.Proofs.YtaddcadapbpkfaaGreatDoor
