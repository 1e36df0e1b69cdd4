/-
 modify.Shorten of one position where nothing is wrong. grs.elements, grs.twice where the answer is yes, and no. grs.open where nothing is wrong. grs.generator.
-/
import Derived.Deep.DeepCutAuto
import Derived.Deep.AppendLies
import Derived.Test.YtaddcadapbpkfaaGreatDoorR31
import Derived.Test.YtaddcadapbpkfaaGreatDoorR21
namespace Go.Proofs.YtaddcadapbpkfaaGreatDoor
open Go.RowKit Pln
def CodePost (w : World) (lo : Nat) (p m : Int) (mod : List Int) (cols : Int) (rows : List (List Nat)) (e : Ending) (w' : World) : Prop :=
 (∃ (g c' : Nat) (R : Option Addr) (k : Nat),e = .returned (.tuple #[.agg #[.int .i64 p,.int .i64 m,.slice (some ⟨g,0,none⟩) mod.length c',.int .i64 cols,.slice R rows.length k],.int .i64 0]) /\ IntsUp w' lo (some ⟨g,0,none⟩) mod /\ RowsUp w' lo R (nzs rows)) /\ Below w.heap.size w w'
structure BoxK (w : World) (a r : List Value) (W : World) : Prop where
 below : Below w.heap.size w W
 size : w.heap.size + 1 < W.heap.size
 k0 : W.heap[w.heap.size]? = some (.cells a.toArray 35 (0,0))
 k1 : W.heap[w.heap.size + 1]? = some (.cells r.toArray 35 (0,0))
section
variable {w : World} {a r : List Value} {W W' : World}
theorem BoxK.keep (h : BoxK w a r W) (hb : Below W.heap.size W W') : BoxK w a r W' := by
 have hs := h.size
 exact ⟨h.below.trans (hb.mono (by omega)),Nat.lt_of_lt_of_le hs hb.size,(hb.block _ (by omega)).trans h.k0,(hb.block _ (by omega)).trans h.k1⟩
theorem BoxK.set (h : BoxK w a r W) (r' : List Value) : BoxK w a r' (W.setRow (w.heap.size + 1) r'.toArray) :=
 ⟨qaD h.below (by omega) _,by simpa using h.size,(setRow_other W _ _ _ (by omega)).trans h.k0,qaF W _ _ _ _ h.k1⟩
theorem boxK (w : World) (a r : Array Value) : BoxK w a.toList r.toList ((w.alloc (.cells a 35)).alloc (.cells r 35)) :=
 ⟨((Below.refl _ _).alloc (Nat.le_refl _) _).alloc (by simp) _,by simp,(heap_alloc_old _ _ (by simp)).trans (heap_alloc_new _ _),qbO (by simp) _⟩
end
def RelSh (w1 : World) (N : Nat) (SM : List (List Nat)) (v7 v8 : Value) (wx : World) : Prop :=
 ∃ (b : Nat) (A1 : Option Addr) (c1 : Nat),v7 = .pointer (some ⟨b,0,none⟩) /\ v8 = .int .i64 0 /\ wx.heap[b]? = some (.cells [.int .i64 (N : Int),.slice A1 SM.length c1].toArray 105 (0,0)) /\ RowsAt wx wx.heap.size A1 (nzs SM) /\ Below w1.heap.size w1 wx
set_option maxHeartbeats 4000000 in
set_option maxRecDepth 100000 in
theorem shorten_c (p m : Int) (mod : List Int) (Am : Option Addr) (cm N : Nat) (rows : List (List Nat)) (A : Option Addr) (c x : Nat) (As : Option Addr) (cs q0 : Nat) (w : World) (hM : IntsAt w w.heap.size Am mod) (hm0 : 0 < mod.length) (hl : mod.length <= 1000000)
 (hA : RowsAt w w.heap.size A (nzs rows)) (hS : IntsAt w w.heap.size As (nz [x])) (h1 : 1 <= N) (hN1 : N ≠ 1) (hN2 : N <= 256) (hxN : x < N) (hn0 : 0 < rows.length) (hz : codeZ p m mod N (nzs rows) = 0) (hsp : spZ p m mod N (nzs rows) = 0)
 (hset : ∀ k,k < (freeC [x] N).length -> (freeC [x] N).getD k 0 < N) (hasc : ∀ k,k + 1 < (freeC [x] N).length -> (freeC [x] N).getD k 0 < (freeC [x] N).getD (k + 1) 0) (hq : freeC (freeC [x] N) N = [q0])
 (e0 : errC p m mod N (nzs rows) = 0) (e1 : errC p m mod 1 (nzs (colsM rows [q0])) = 0) (e2 : errC p m mod rows.length (nzs [rows.map fun r => r.getD q0 0]) = 0) (e3 : errC p m mod rows.length (nzs (kerM (opsT p.toNat m.toNat (lOf p m mod)) [rows.map fun r => r.getD q0 0] rows.length)) = 0)
 (e4 : errC p m mod N (nzs (mulMat (opsT p.toNat m.toNat (lOf p m mod)) (kerM (opsT p.toNat m.toNat (lOf p m mod)) [rows.map fun r => r.getD q0 0] rows.length) rows N)) = 0)
 (e5 : errC p m mod N (nzs (supM (opsT p.toNat m.toNat (lOf p m mod)) rows q0 N)) = 0) (hk0 : 0 < (freeC [x] N).length) (e6 : errC p m mod (freeC [x] N).length (nzs (colsM (supM (opsT p.toNat m.toNat (lOf p m mod)) rows q0 N) (freeC [x] N))) = 0) (hLZ : lengthZ ((freeC [x] N).length : Int) = 0) :
 Calls Tryz.prog 121 #[.agg #[.int .i64 p,.int .i64 m,.slice Am mod.length cm,.int .i64 (N : Int),.slice A rows.length c],.slice As 1 cs] w (CodePost w (w.heap.size + 1 + 1) p m mod (freeC [x] N).length (canonM (opsT p.toNat m.toNat (lOf p m mod)) (colsM (supM (opsT p.toNat m.toNat (lOf p m mod)) rows q0 N) (freeC [x] N)) (freeC [x] N).length)) := by
 obtain ⟨_,_,_,_,_,hn⟩ := qdF e0
 have hfl := qeR [x] N
 have HX : Hid (BoxK w [.int .i64 p,.int .i64 m,.slice Am mod.length cm,.int .i64 (N : Int),.slice A rows.length c] [.int .i64 0,.int .i64 0,.slice none 0 0,.int .i64 0,.slice none 0 0] ((w.alloc (.cells #[.int .i64 p,.int .i64 m,.slice Am mod.length cm,.int .i64 (N : Int),.slice A rows.length c] 35)).alloc (.cells #[.int .i64 0,.int .i64 0,.slice none 0 0,.int .i64 0,.slice none 0 0] 35))) := boxK w _ _
 have HM := Lib.hid hM
 have HA := Lib.hid hA
 have HS := Lib.hid hS
 have HPOS : Hid (∀ W,Below w.heap.size w W -> Calls Tryz.prog 190 #[.agg #[.int .i64 p,.int .i64 m,.slice Am mod.length cm,.int .i64 (N : Int),.slice A rows.length c],.slice As 1 cs] W fun e w' => e = .returned (.int .i64 0) /\ Below W.heap.size W w') := fun W hW => by
  have := positions_c p m mod Am cm N (nzs rows) A c x As cs W ((hM.keep hW).more hW.size) (by omega) ((hA.keep hW).more hW.size) (by rw [qaU];omega) ((hS.keep hW).more hW.size) hz (by omega) (by omega) (by omega)
  rw [qaU] at this
  exact this
 have HSUP : Hid (∀ W VA ck,Below w.heap.size w W -> IntsAt W W.heap.size VA (nz (freeC [x] N)) -> Calls Tryz.prog 193 #[.agg #[.int .i64 p,.int .i64 m,.slice Am mod.length cm],.agg #[.int .i64 (N : Int),.slice A rows.length c],.slice VA (freeC [x] N).length ck] W (MatPost W N (supM (opsT p.toNat m.toNat (lOf p m mod)) rows q0 N))) := fun W VA ck hW hV =>
  supported_c p m mod Am cm N rows A c (freeC [x] N) VA ck q0 W ((hM.keep hW).more hW.size) hl ((hA.keep hW).more hW.size) hV h1 hn0 hsp hset hasc (by omega) hq hN2 e0 e1 e2 e3 e4
 have HKEEP : Hid (∀ W A1 c1,Below w.heap.size w W -> RowsAt W W.heap.size A1 (nzs (supM (opsT p.toNat m.toNat (lOf p m mod)) rows q0 N)) -> Calls Tryz.prog 191 #[.agg #[.int .i64 p,.int .i64 m,.slice Am mod.length cm],.agg #[.int .i64 (N : Int),.slice A1 (supM (opsT p.toNat m.toNat (lOf p m mod)) rows q0 N).length c1],.slice As 1 cs] W (NewPost W p m mod (freeC [x] N).length (canonM (opsT p.toNat m.toNat (lOf p m mod)) (colsM (supM (opsT p.toNat m.toNat (lOf p m mod)) rows q0 N) (freeC [x] N)) (freeC [x] N).length))) := fun W A1 c1 hW hr =>
  keep_c p m mod Am cm N _ A1 c1 x As cs W ((hM.keep hW).more hW.size) hm0 hl hr ((hS.keep hW).more hW.size) e5 hk0 e6 hLZ
 have HREST : Hid (∀ W,Below w.heap.size w W -> Calls Tryz.prog 194 #[.slice As 1 cs,.int .i64 (N : Int)] W fun e w' => (∃ VA ck,e = .returned (.slice VA (freeC [x] N).length ck) /\ IntsUp w' W.heap.size VA (nz (freeC [x] N))) /\ Below W.heap.size W w') := fun W hW =>
  rest_c [x] N As cs W ((hS.keep hW).more hW.size) (by simp) (by omega)
 have HGEN : Hid (∀ W,Calls Tryz.prog 192 #[.agg #[.int .i64 p,.int .i64 m,.slice Am mod.length cm,.int .i64 (N : Int),.slice A rows.length c]] W fun e w' => e = .returned (.agg #[.int .i64 (N : Int),.slice A rows.length c]) /\ Below W.heap.size W w') := fun W => mgen_c p m Am mod.length cm N A rows.length c W
 clear hM hA hS hz hsp hset hasc hq e0 e1 e2 e3 e4 e5 e6 hLZ
 generalize canonM (opsT p.toNat m.toNat (lOf p m mod)) (colsM (supM (opsT p.toNat m.toNat (lOf p m mod)) rows q0 N) (freeC [x] N)) (freeC [x] N).length = fin at *
 generalize supM (opsT p.toNat m.toNat (lOf p m mod)) rows q0 N = SM at *
 generalize freeC [x] N = fs at *
 go_enter Tryz.func121,Tryz.ntmps121
 go_upto_region 1 with fail
 generalize (w.alloc (.cells #[.int .i64 p,.int .i64 m,.slice Am mod.length cm,.int .i64 (N : Int),.slice A rows.length c] 35)).alloc (.cells #[.int .i64 0,.int .i64 0,.slice none 0 0,.int .i64 0,.slice none 0 0] 35) = W0 at *
 have HRG0 : Hid (W0.rangeAt w.heap.size 0 [.int .i64 p,.int .i64 m,.slice Am mod.length cm,.int .i64 (N : Int),.slice A rows.length c]) := qaB HX.out.k0
 go_wp2_with (refine wpList_load_mid rfl 35 (.tmp 2) rfl w.heap.size 0 rfl [.int .i64 p,.int .i64 m,.slice Am mod.length cm,.int .i64 (N : Int),.slice A rows.length c] _ HRG0.out Tryz.underlying35 rfl codeSize ?_)
 (with_reducible refine (HPOS.out W0 HX.out.below).mono ?_)
 rintro e w1 ⟨rfl,hb1⟩
 have HX1 := Lib.hid (HX.out.keep hb1)
 clear hb1 HX HRG0 HPOS
 clear W0
 go_upto_region 4 with fail
 have HRC : Hid (∀ W,LSt w1 W -> W.rangeAt w.heap.size 0 [.int .i64 p,.int .i64 m,.slice Am mod.length cm,.int .i64 (N : Int),.slice A rows.length c]) := fun W hW => qaB (HX1.out.keep hW).k0
 have HRF : Hid (∀ W,LSt w1 W -> W.rangeAt w.heap.size 0 [.int .i64 p,.int .i64 m,.slice Am mod.length cm]) := fun W hW j v hv => HRC.out W hW j v (by
  match j,hv with
  | 0,hv => exact hv
  | 1,hv => exact hv
  | 2,hv => exact hv
  | j + 3,hv => simp at hv)
 have HCV : Hid (∀ W,LSt w1 W -> W.cell? ⟨w.heap.size,3,none⟩ = some (.int .i64 (N : Int))) := fun W hW => cell_of_row _ _ 3 _ _ _ (HX1.out.keep hW).k0
 have HS0 : Hid (LSt w1 w1.drew) := (Below.refl _ _).drew
 have bal : ∀ {W : World} (o : Obj),LSt w1 W -> LSt w1 (W.alloc o) := fun o h => Below.alloc h (Below.size h) o
 have HWB : Hid (∀ W,LSt w1 W -> Below w.heap.size w W) := fun W hW => HX1.out.below.trans (Below.mono hW HX1.out.below.size)
 go_cut [7,8] (fun v7 v8 wx => RelSh w1 N SM v7 v8 wx)
 case first =>
  refine qbU 14 13 12 (LSt w1) [(0,0),(0,1),(0,2),(0,4),(0,5),(0,6),(2,3),(2,7),(2,8),(1,9),(1,10),(1,11)] [(3,13)] default _ (.cells #[.int .i64 0,.slice none 0 0] 105) (by kernel_rfl) (by kernel_rfl) (fun _ _ d _ _ h => by cases d <;> exact h) rfl rfl ?_ (fun W hW => bal _ hW) HS0.out ?_
  . intro a w
    unfold ptrTo
    go_simp
  simp only [List.map_cons,List.map_nil,List.getD_cons_zero,List.getD_cons_succ]
  apply x_val rfl
  . intro W hW
    go_simp
    rfl
  go_simp
  refine qeT rfl 29 (.tmp 17) rfl w.heap.size 0 rfl [.int .i64 p,.int .i64 m,.slice Am mod.length cm] _ HRF.out Tryz.underlying29 rfl fieldSize ?_
  go_simp
  refine qeT rfl 35 (.tmp 2) rfl w.heap.size 0 rfl [.int .i64 p,.int .i64 m,.slice Am mod.length cm,.int .i64 (N : Int),.slice A rows.length c] _ HRC.out Tryz.underlying35 rfl codeSize ?_
  go_simp
  iterate 3
   apply x_val rfl
   . intro W hW
     have z0 := HCV.out W hW
     go_simp
     rfl
   go_simp
  apply x_call rfl
  . intro W
    go_simp
    exact ⟨rfl,rfl⟩
  intro W1 hW1 hS1
  with_reducible refine (HGEN.out W1).mono ?_
  rintro e w2 ⟨rfl,hb2⟩
  refine ⟨_,rfl,Below.trans hS1 (hb2.mono (Below.size hS1)),hb2,?_⟩
  go_simp
  apply x_call rfl
  . intro W
    go_simp
    exact ⟨rfl,rfl⟩
  intro W3 hW3 hS3
  with_reducible refine (HREST.out W3 (HWB.out _ hS3)).mono ?_
  rintro e w4 ⟨⟨VA,ck,rfl,hu4⟩,hb4⟩
  refine ⟨_,rfl,Below.trans hS3 (hb4.mono (Below.size hS3)),hb4,?_⟩
  go_simp
  apply x_call rfl
  . intro W
    go_simp
    exact ⟨rfl,rfl⟩
  intro W5 hW5 hS5
  with_reducible refine (HSUP.out W5 VA ck (HWB.out _ hS5) (hu4.grow hW5).ints).mono ?_
  rintro e w6 ⟨⟨A1,c1,rfl,hr6⟩,hb6⟩
  refine ⟨_,rfl,Below.trans hS5 (hb6.mono (Below.size hS5)),hb6,?_⟩
  go_simp
  iterate 3
   apply qeK rfl
   . intro W
     go_simp
     rfl
   go_simp
  refine x_nil ?_
  intro W7 b hW7 hS7 hlo hF hbx
  have hF' : ¬ (W5.heap.size <= b /\ b < w6.heap.size) := fun h => hF (.inr h)
  have HRW : Hid (RowsUp (W7.setRow b #[.int .i64 (N : Int),.slice A1 SM.length c1]) W5.heap.size A1 (nzs SM)) :=
   hr6.of_blocks (by simpa using hW7.size) (fun k hk1 hk2 => by rw [setRow_other _ _ _ _ (by omega),hW7.block k hk2])
  have HKB : Hid ((W7.setRow b #[.int .i64 (N : Int),.slice A1 SM.length c1]).heap[b]? = some (.cells [.int .i64 (N : Int),.slice A1 SM.length c1].toArray 105 (0,0))) := qaF _ _ _ _ _ hbx
  have HB7 : Hid (Below w1.heap.size w1 (W7.setRow b #[.int .i64 (N : Int),.slice A1 SM.length c1])) := qaD hS7 hlo _
  unfold ptrTo
  refine qcL rfl 105 (.tmp 7) (.tmp 26) rfl b 105 #[.int .i64 0,.slice none 0 0] #[.int .i64 (N : Int),.slice A1 SM.length c1] rfl rfl hbx matSize rfl (by simp [Value.oneCell']) ?_
  go_simp
  refine qbX ?_
  generalize W7.setRow b #[.int .i64 (N : Int),.slice A1 SM.length c1] = W8 at *
  clear hr6 hu4 hb6 hb4 hb2
  go_wp2_with fail
  go_meet
  exact ⟨b,A1,c1,rfl,rfl,HKB.out,HRW.out.rowsAt,HB7.out⟩
 case rest =>
  obtain ⟨b,A1,c1,rfl,rfl,hkb,hrw,hbw⟩ := hcut
  have HKB := Lib.hid hkb
  have HRW := Lib.hid hrw
  have HBW := Lib.hid hbw
  have HX2 := Lib.hid (HX1.out.keep hbw)
  have HRF2 := Lib.hid (HRF.out wc hbw)
  have HRB : Hid (wc.rangeAt b 0 [.int .i64 (N : Int),.slice A1 SM.length c1]) := qaB hkb
  have HKP := Lib.hid (HKEEP.out wc A1 c1 HX2.out.below hrw)
  clear hkb hrw hbw
  go_wp2_with (first | (refine wpList_load_mid rfl 29 (.tmp 32) rfl w.heap.size 0 rfl [.int .i64 p,.int .i64 m,.slice Am mod.length cm] _ HRF2.out Tryz.underlying29 rfl fieldSize ?_) | (refine wpList_load_mid rfl 105 (.tmp 7) rfl b 0 rfl [.int .i64 (N : Int),.slice A1 SM.length c1] _ HRB.out Tryz.underlying105 rfl matSize ?_))
  (with_reducible refine HKP.out.mono ?_)
  rintro e w4 ⟨⟨g,c',R,k,rfl,hu4,hr4⟩,hb4⟩
  have HX4 := Lib.hid (HX2.out.keep hb4)
  have HK4 := Lib.hid HX4.out.k1
  have HY := Lib.hid (HX4.out.set [.int .i64 p,.int .i64 m,.slice (some ⟨g,0,none⟩) mod.length c',.int .i64 (fs.length : Int),.slice R fin.length k])
  have HU4 := Lib.hid hu4
  have HR4 := Lib.hid hr4
  have hs2 := HX2.out.size
  clear hu4 hr4 hb4 HKP HRF2 HRB
  go_wp2_with (refine qaA rfl 35 (.tmp 4) (.tmp 37) rfl w4 (w.heap.size + 1) 35 #[.int .i64 0,.int .i64 0,.slice none 0 0,.int .i64 0,.slice none 0 0] #[.int .i64 p,.int .i64 m,.slice (some ⟨g,0,none⟩) mod.length c',.int .i64 (fs.length : Int),.slice R fin.length k] rfl rfl HK4.out codeSize rfl (by simp [Value.oneCell']) ?_)
  refine bodyPost_ret (qaE (P := Tryz.prog) rfl _ _ (w.heap.size + 1) 35 #[.int .i64 p,.int .i64 m,.slice (some ⟨g,0,none⟩) mod.length c',.int .i64 (fs.length : Int),.slice R fin.length k] (0,0) _ _ rfl rfl HY.out.k1 Tryz.underlying35 rfl codeSize) rfl ?_
  refine ⟨⟨g,c',_,_,rfl,?_,?_⟩,HY.out.below⟩
  . have h1 : IntsUp (w4.setRow (w.heap.size + 1) #[.int .i64 p,.int .i64 m,.slice (some ⟨g,0,none⟩) mod.length c',.int .i64 (fs.length : Int),.slice R fin.length k]) (wc.heap.size + 1 + 1 + 1) (some ⟨g,0,none⟩) mod := HU4.out.of_blocks (by simp) fun k hk _ => setRow_other w4 (w.heap.size + 1) k _ (by omega)
    exact h1.lower (by omega)
  . have h1 := HR4.out.setRow (show w.heap.size + 1 < wc.heap.size + 1 + 1 + 1 by omega) #[.int .i64 p,.int .i64 m,.slice (some ⟨g,0,none⟩) mod.length c',.int .i64 (fs.length : Int),.slice R fin.length k]
    exact h1.lower (by omega)
end Go.Proofs.YtaddcadapbpkfaaGreatDoor
namespace Go.Proofs.YtaddcadapbpkfaaGreatDoor
open Go.RowKit Pln
set_option maxHeartbeats 1000000 in
set_option maxRecDepth 100000 in
theorem elements_c (gb p m B : Nat) (l lg : List Nat) (L : List Nat) (A : Option Addr) (c : Nat) (w : World) (hG : GFAt w B gb p m l lg) (hA : IntsAt w w.heap.size A (nz L)) (hl : L.length <= 1000000) (hq : ∀ x ∈ L,x < p ^ m) :
 Calls Tryz.prog 238 #[.pointer (some ⟨gb,0,none⟩),.slice A L.length c] w (Quiet (.bool true) w) := by
 have HA := Lib.hid hA
 have HIS : Hid (∀ (k : Nat),k < L.length -> Calls Tryz.prog 161 #[.pointer (some ⟨gb,0,none⟩),.int .i64 ((L.getD k 0 : Nat) : Int)] w fun e w' => e = .returned (.bool true) /\ w = w') := fun k hk => by
  have hx : L.getD k 0 < p ^ m := by
   have : ∀ (l : List Nat) (hj : k < l.length),l.getD k 0 = l[k] := fun l hj => by simp [List.getD,hj]
   rw [this _ hk]
   exact hq _ (List.getElem_mem _)
  have := is_c ((L.getD k 0 : Nat) : Int) gb p m B l lg w hG
  rw [decide_eq_true (show (0 : Int) <= ((L.getD k 0 : Nat) : Int) by omega),decide_eq_true (show ((L.getD k 0 : Nat) : Int) < ((p ^ m : Nat) : Int) by omega)] at this
  exact this
 clear hA hG hq
 go_enter Tryz.func238,Tryz.ntmps238
 go_wp2_with fail
 go_loopw [9] (fun v9 wr => ∃ k : Nat,k <= L.length /\ v9 = .int .i64 k /\ wr = w) (fun v9 _ => L.length - (intOf v9).toNat)
 case atStart => exact ⟨0,by omega,rfl,rfl⟩
 case round =>
  obtain ⟨k,hk,rfl,rfl⟩ := hrel
  by_cases hlt : k < L.length
  . obtain ⟨b,o,rfl,hbl,hc⟩ := HA.out.at_ (k := k) (by rw [qaI];exact hlt)
    rw [qaN] at hc
    have HC := Lib.hid (HIS.out k hlt)
    have k0 : (0 : Int) <= (k : Int) := by omega
    have k1 : (k : Int) < (L.length : Int) := by omega
    generalize L.getD k 0 = x at *
    go_wp2_with fail
    (with_reducible refine HC.out.mono ?_)
    rintro e w2 ⟨rfl,rfl⟩
    go_wp2_with fail
    go_roundw
    case rel => exact ⟨k + 1,by omega,by go_num,by first | rfl | trivial⟩
    case measure => simp [intOf];omega
  . obtain rfl : k = L.length := by omega
    go_wp2_with fail
    go_ret
    exact ⟨rfl,0,rfl⟩
set_option maxHeartbeats 1000000 in
set_option maxRecDepth 100000 in
theorem twice_c (L : List Nat) (A : Option Addr) (c : Nat) (w : World) (hA : IntsAt w w.heap.size A (nz L)) (hl : L.length <= 1000000) (hc : L.length <= c) (hd : ∀ i j,j < i -> i < L.length -> L.getD i 0 ≠ L.getD j 0) :
 Calls Tryz.prog 239 #[.slice A L.length c] w fun e w' => e = .returned (.bool false) /\ w' = w := by
 have HA := Lib.hid hA
 have HD := Lib.hid hd
 clear hA hd
 go_enter Tryz.func239,Tryz.ntmps239
 go_wp2_with fail
 go_loopw [9] (fun v9 wr => ∃ k : Nat,k <= L.length /\ v9 = .int .i64 k /\ wr = w) (fun v9 _ => L.length - (intOf v9).toNat)
 case atStart => exact ⟨0,by omega,rfl,rfl⟩
 case round =>
  obtain ⟨k,hk,rfl,rfl⟩ := hrel
  by_cases hlt : k < L.length
  . obtain ⟨b,o,rfl,hbl,hcx⟩ := HA.out.at_ (k := k) (by rw [qaI];exact hlt)
    rw [qaN] at hcx
    have k0 : (0 : Int) <= (k : Int) := by omega
    have k1 : (k : Int) < (L.length : Int) := by omega
    have k2 : (k : Int) <= (c : Int) := by omega
    have HDK := Lib.hid (HD.out k)
    generalize hx : L.getD k 0 = x at *
    obtain ⟨w2,rfl⟩ : ∃ w',w' = wr := ⟨wr,rfl⟩
    go_wp2_with fail
    go_loopw [18] (fun v18 wr => ∃ j : Nat,j <= k /\ v18 = .int .i64 j /\ wr = w2) (fun v18 _ => k - (intOf v18).toNat)
    case atStart => exact ⟨0,by omega,rfl,rfl⟩
    case round =>
     obtain ⟨j,hj,rfl,rfl⟩ := hrel
     by_cases hjl : j < k
     . obtain ⟨b',o',e,hbl',hcy⟩ := HA.out.at_ (k := j) (by rw [qaI];omega)
       injection e with e
       injection e with e1 e2 _
       subst e1 e2
       rw [qaN] at hcy
       have hne : (((x : Nat) : Int) == ((L.getD j 0 : Nat) : Int)) = false := by
        rw [beq_eq_false_iff_ne]
        have := HDK.out j hjl hlt
        omega
       have j0 : (0 : Int) <= (j : Int) := by omega
       have j1 : (j : Int) < (k : Int) := by omega
       generalize L.getD j 0 = y at *
       go_wp2_with fail
       go_roundw
       case rel => exact ⟨j + 1,by omega,by go_num,by first | rfl | trivial⟩
       case measure => simp [intOf];omega
     . obtain rfl : j = k := by omega
       go_wp2_with fail
       go_roundw
       case rel => exact ⟨j + 1,by omega,by go_num,by first | rfl | trivial⟩
       case measure => simp [intOf];omega
  . obtain rfl : k = L.length := by omega
    go_wp2_with fail
    go_ret
    exact ⟨rfl,rfl⟩
end Go.Proofs.YtaddcadapbpkfaaGreatDoor
namespace Go.Proofs.YtaddcadapbpkfaaGreatDoor
open Go.RowKit Pln
theorem grsSize : (Tryz.prog.info? 112).map (·.size) = some 6 := by kernel_rfl
set_option maxHeartbeats 2000000 in
set_option maxRecDepth 100000 in
theorem gopen_c (p m : Int) (mod : List Int) (Am : Option Addr) (cm K : Nat) (L : List Nat) (Ap : Option Addr) (cp : Nat) (M : List Nat) (Aq : Option Addr) (cq : Nat) (w : World) (hM : IntsAt w w.heap.size Am mod) (hok : fieldOK p m mod = true)
 (hL : IntsAt w w.heap.size Ap (nz L)) (hQ : IntsAt w w.heap.size Aq (nz M)) (hn : M.length = L.length) (h1 : 1 <= L.length) (h2 : L.length <= 64) (hcp : L.length <= cp) (hLq : ∀ x ∈ L,x < p.toNat ^ m.toNat) (hMq : ∀ x ∈ M,x < p.toNat ^ m.toNat) (hM0 : ∀ x ∈ M,x ≠ 0)
 (hd : ∀ i j,j < i -> i < L.length -> L.getD i 0 ≠ L.getD j 0) (hK : K <= L.length) :
 Calls Tryz.prog 167 #[.agg #[.int .i64 p,.int .i64 m,.slice Am mod.length cm,.int .i64 (K : Int),.slice Ap L.length cp,.slice Aq L.length cq]] w fun e w' => (∃ gb,e = .returned (.tuple #[.pointer (some ⟨gb,0,none⟩),.int .i64 0]) /\ GFAt w' w'.heap.size gb p.toNat m.toNat (lOf p m mod) (logL (lOf p m mod) (p.toNat ^ m.toNat))) /\ Below w.heap.size w w' := by
 have HB0 : Hid (Below w.heap.size w (w.alloc (.cells #[.int .i64 p,.int .i64 m,.slice Am mod.length cm,.int .i64 (K : Int),.slice Ap L.length cp,.slice Aq L.length cq] 112))) := (Below.refl _ _).alloc (Nat.le_refl _) _
 have HK0 : Hid ((w.alloc (.cells #[.int .i64 p,.int .i64 m,.slice Am mod.length cm,.int .i64 (K : Int),.slice Ap L.length cp,.slice Aq L.length cq] 112)).heap[w.heap.size]? = some (.cells [.int .i64 p,.int .i64 m,.slice Am mod.length cm,.int .i64 (K : Int),.slice Ap L.length cp,.slice Aq L.length cq].toArray 112 (0,0))) := heap_alloc_new _ _
 have HM := Lib.hid hM
 have HL := Lib.hid hL
 have HQ := Lib.hid hQ
 have HM0 : Hid (∀ k,k < M.length -> M.getD k 0 ≠ 0) := fun k hk => by
  have : ∀ (l : List Nat) (hj : k < l.length),l.getD k 0 = l[k] := fun l hj => by simp [List.getD,hj]
  rw [this _ hk]
  exact hM0 _ (List.getElem_mem _)
 have HLQ := Lib.hid hLq
 have HMQ := Lib.hid hMq
 have HD := Lib.hid hd
 clear hM hL hQ hM0 hLq hMq hd
 go_enter Tryz.func167,Tryz.ntmps167
 go_upto_region 1 with fail
 generalize w.alloc (.cells #[.int .i64 p,.int .i64 m,.slice Am mod.length cm,.int .i64 (K : Int),.slice Ap L.length cp,.slice Aq L.length cq] 112) = W0 at *
 have hlt0 : w.heap.size < W0.heap.size := qcZ HK0.out
 have HRG : Hid (W0.rangeAt w.heap.size 0 [.int .i64 p,.int .i64 m,.slice Am mod.length cm]) := fun j v hv => (qaB HK0.out) j v (by
  match j,hv with
  | 0,hv => exact hv
  | 1,hv => exact hv
  | 2,hv => exact hv
  | j + 3,hv => simp at hv)
 have HC := Lib.hid (fnew_ok p m mod Am cm W0 ((HM.out.keep HB0.out).more HB0.out.size) hok)
 go_wp2_with (refine wpList_load_mid rfl 29 (.tmp 10) rfl w.heap.size 0 rfl [.int .i64 p,.int .i64 m,.slice Am mod.length cm] _ HRG.out Tryz.underlying29 rfl fieldSize ?_)
 (with_reducible refine HC.out.mono ?_)
 rintro e w1 ⟨⟨gb,rfl,hgb,hg⟩,hb1⟩
 have HG : Hid (GFAt w1 w1.heap.size gb p.toNat m.toNat (lOf p m mod) (logL (lOf p m mod) (p.toNat ^ m.toNat))) := hg
 have HB1 := Lib.hid (HB0.out.trans (hb1.mono HB0.out.size))
 have K1 := Lib.hid ((hb1.block _ hlt0).trans HK0.out)
 have y3 : w1.cell? ⟨w.heap.size,3,none⟩ = some (.int .i64 (K : Int)) := cell_of_row _ _ 3 _ _ _ K1.out
 have y4 : w1.cell? ⟨w.heap.size,4,none⟩ = some (.slice Ap L.length cp) := cell_of_row _ _ 4 _ _ _ K1.out
 have y5 : w1.cell? ⟨w.heap.size,5,none⟩ = some (.slice Aq L.length cq) := cell_of_row _ _ 5 _ _ _ K1.out
 have HL1 := Lib.hid ((HL.out.keep HB1.out).more HB1.out.size)
 have HQ1 := Lib.hid ((HQ.out.keep HB1.out).more HB1.out.size)
 have HEL := Lib.hid (elements_c gb p.toNat m.toNat w1.heap.size _ _ L Ap cp w1 HG.out HL1.out (by omega) HLQ.out)
 have HEM := Lib.hid (elements_c gb p.toNat m.toNat w1.heap.size _ _ M Aq cq w1 HG.out HQ1.out (by omega) HMQ.out)
 rw [hn] at HEM
 clear hb1 hg HC HRG HK0 HB0 hgb
 go_wp2_with fail
 (with_reducible refine HEL.out.mono ?_)
 rintro e w2 ⟨rfl,j2,rfl⟩
 have hbd : ∀ (W : World) (j : Nat),Below W.heap.size W (W.drewN j) := fun W j => qaK (Below.refl _ _) j
 have HEM2 := Lib.hid (elements_c gb p.toNat m.toNat (w1.drewN j2).heap.size _ _ M Aq cq (w1.drewN j2) (HG.out.keep (hbd w1 j2)) (HQ1.out.keep (hbd w1 j2)) (by omega) HMQ.out)
 rw [hn] at HEM2
 have z3 : (w1.drewN j2).cell? ⟨w.heap.size,3,none⟩ = some (.int .i64 (K : Int)) := y3
 have z4 : (w1.drewN j2).cell? ⟨w.heap.size,4,none⟩ = some (.slice Ap L.length cp) := y4
 have z5 : (w1.drewN j2).cell? ⟨w.heap.size,5,none⟩ = some (.slice Aq L.length cq) := y5
 have HG2 := Lib.hid (HG.out.keep (hbd w1 j2))
 have HB2 := Lib.hid (HB1.out.trans ((hbd w1 j2).mono HB1.out.size))
 have HL2 := Lib.hid (HL1.out.keep (hbd w1 j2))
 have HQ2 := Lib.hid (HQ1.out.keep (hbd w1 j2))
 have hs2 : w1.heap.size = (w1.drewN j2).heap.size := rfl
 rw [hs2] at HG2 HL2 HQ2
 clear y3 y4 y5 HEM HEL HL1 HQ1 HG HB1 K1 hs2
 generalize w1.drewN j2 = w2 at *
 go_wp2_with fail
 (with_reducible refine HEM2.out.mono ?_)
 rintro e w3 ⟨rfl,j3,rfl⟩
 have y3 : (w2.drewN j3).cell? ⟨w.heap.size,3,none⟩ = some (.int .i64 (K : Int)) := z3
 have y4 : (w2.drewN j3).cell? ⟨w.heap.size,4,none⟩ = some (.slice Ap L.length cp) := z4
 have y5 : (w2.drewN j3).cell? ⟨w.heap.size,5,none⟩ = some (.slice Aq L.length cq) := z5
 have HG3 := Lib.hid (HG2.out.keep (hbd w2 j3))
 have HB3 := Lib.hid (HB2.out.trans ((hbd w2 j3).mono HB2.out.size))
 have HL3 := Lib.hid (HL2.out.keep (hbd w2 j3))
 have HQ3 := Lib.hid (HQ2.out.keep (hbd w2 j3))
 have hs2 : w2.heap.size = (w2.drewN j3).heap.size := rfl
 rw [hs2] at HG3 HL3 HQ3
 clear z3 z4 z5 HEM2 HL2 HQ2 HG2 HB2 hs2
 generalize w2.drewN j3 = w3 at *
 have HTW := Lib.hid (twice_c L Ap cp w3 HL3.out (by omega) hcp HD.out)
 go_wp2_with fail
 (with_reducible refine HTW.out.mono ?_)
 rintro e w4 ⟨rfl,rfl⟩
 go_wp2_with fail
 go_loopw [53] (fun v53 wr => ∃ k : Nat,k <= L.length /\ v53 = .int .i64 k /\ wr = w4) (fun v53 _ => L.length - (intOf v53).toNat)
 case atStart => exact ⟨0,by omega,rfl,rfl⟩
 case round =>
  obtain ⟨k,hk,rfl,rfl⟩ := hrel
  by_cases hlt : k < L.length
  . obtain ⟨b,o,rfl,hbl,hc⟩ := HQ3.out.at_ (k := k) (by rw [qaI];omega)
    rw [qaN] at hc
    have hx0 := HM0.out k (by omega)
    have hxb : (((M.getD k 0 : Nat) : Int) == 0) = false := by rw [beq_eq_false_iff_ne];omega
    have k0 : (0 : Int) <= (k : Int) := by omega
    have k1 : (k : Int) < (L.length : Int) := by omega
    generalize M.getD k 0 = x at *
    go_wp2_with fail
    go_roundw
    case rel => exact ⟨k + 1,by omega,by go_num,by first | rfl | trivial⟩
    case measure => simp [intOf];omega
  . obtain rfl : k = L.length := by omega
    have h63 : ((L.length : Nat) : Int) < (K : Int) ↔ False := ⟨fun h => by omega,False.elim⟩
    go_wp2_with fail
    go_ret2
    exact ⟨⟨gb,rfl,HG3.out⟩,HB3.out⟩
end Go.Proofs.YtaddcadapbpkfaaGreatDoor
namespace Go.Proofs.YtaddcadapbpkfaaGreatDoor
open Go.RowKit Pln
section
variable {P : Program} {S : World -> Prop} {K : Act -> World -> Prop} {o : Oper} {r : List (Bool × Oper)} {a : Act} {w : World}
theorem qeP (hg : o.guard = none) (s x : Operand) (t : TypeId)
 (ho : o.op = .call { callee := .builtin .append,args := #[s,x],argTypes := #[t,t] })
 (base : Nat) (e : TypeId) (i : TypeInfo) (z : Value) (size bytes : Nat) (ht : P.underlying t = some (.slice e)) (hi : P.info? e = some i) (hz : i.zero = some z)
 (hsize : i.size = size) (hby : i.bytes = bytes) (hzs : z.cells.size = size) (hsz : 0 < size)
 (v : Value) (n : Nat) (xs : List Value) (hs : a.eval s = v) (hown : w.ownsRow base e size v n xs)
 (ad : Addr) (m c : Nat) (news : List Value) (hx : a.eval x = .slice (some ad) m c) (hl : news.length = m * size) (hnews : ∀ j u,news[j]? = some u -> w.cell? (ad.add j) = some u) (h1 : ∀ u ∈ news,u.oneCell' = true)
 (hm : 0 < m) (h63 : n + m <= maxLen) (hbytes : (n + m) * bytes <= 140737488355328) (hbase : base <= w.heap.size)
 (h : ∀ g cap w',w'.ownsRow base e size (.slice (some ⟨g,0,none⟩) (n + m) cap) (n + m) (xs ++ news) -> w.grownBy w' v.ownBlock -> (v.ownBlock = some g \/ g = w.heap.size) -> g < w'.heap.size -> S w' /\ wpMix P S K r (a.put o.dst (.slice (some ⟨g,0,none⟩) (n + m) cap)) w') : wpMix P S K ((false,o) :: r) a w := by
 obtain ⟨g,cap,w',hr,h2,h3,h4,h5⟩ := run_append_lies (P := P) w t o.type base e i z size bytes ht hi hz hsize hby hzs hsz v n xs hown ad m c news hl hnews h1 hm h63 hbytes hbase w.heap.size rfl
 obtain ⟨hS,hK⟩ := h g cap w' h2 h3 h4 h5
 refine mix_step hg ?_ hS hK
 unfold execOp
 simp only [ho,resolve,invoke,builtin,Sem.run_bind,Sem.run_pure,Result.andThen_ok,List.map_toArray,List.map_cons,List.map_nil,hs,hx,hr]
end
def rowG (O : Ops) (M L : List Nat) : Nat -> List Nat
 | 0 => M
 | k + 1 => List.zipWith O.mul (rowG O M L k) L
theorem rowG_len (O : Ops) (M L : List Nat) (h : M.length = L.length) : ∀ k,(rowG O M L k).length = L.length
 | 0 => h
 | k + 1 => by simp [rowG,rowG_len O M L h k]
theorem rowG_lt {q : Nat} {O : Ops} (E : OpsEq q O O) {M L : List Nat} (hM : ∀ x ∈ M,x < q) (hL : ∀ x ∈ L,x < q) : ∀ k,∀ x ∈ rowG O M L k,x < q
 | 0,x,hx => hM x hx
 | k + 1,x,hx => by
   unfold rowG at hx
   obtain ⟨i,hi,rfl⟩ := List.mem_iff_getElem.1 hx
   rw [List.getElem_zipWith]
   simp at hi
   exact (E.mul _ _ (rowG_lt E hM hL k _ (List.getElem_mem _)) (hL _ (List.getElem_mem _))).2
def rowH (O : Ops) (v L : List Nat) (j : Nat) : List Nat := List.zipWith O.mul (v.take j) (L.take j) ++ v.drop j
theorem rowH_len (O : Ops) (v L : List Nat) (h : v.length = L.length) (j : Nat) (hj : j <= v.length) : (rowH O v L j).length = v.length := by
 simp [rowH];omega
theorem rowH_at (O : Ops) (v L : List Nat) (h : v.length = L.length) (j : Nat) (hj : j < v.length) : (rowH O v L j).getD j 0 = v.getD j 0 := by
 have hl : (List.zipWith O.mul (v.take j) (L.take j)).length = j := by simp;omega
 unfold rowH
 simp only [List.getD]
 rw [List.getElem?_append_right (by omega),hl,Nat.sub_self,List.getElem?_drop,Nat.add_zero]
theorem rowH_set (O : Ops) (v L : List Nat) (h : v.length = L.length) (j : Nat) (hj : j < v.length) : (rowH O v L j).set j (O.mul (v.getD j 0) (L.getD j 0)) = rowH O v L (j + 1) := by
 have hl : (List.zipWith O.mul (v.take j) (L.take j)).length = j := by simp;omega
 have hj' : j < L.length := by omega
 unfold rowH
 rw [List.set_append_right _ _ (by omega),hl,Nat.sub_self,List.drop_eq_getElem_cons hj,List.set_cons_zero,List.take_succ_eq_append_getElem hj,List.take_succ_eq_append_getElem hj',List.zipWith_append (by simp;omega)]
 simp [List.getD,hj,hj']
theorem rowH_end (O : Ops) (v L : List Nat) (h : v.length = L.length) : rowH O v L v.length = List.zipWith O.mul v L := by
 unfold rowH
 rw [List.take_length,List.drop_length,List.append_nil,h,List.take_length]
def genG (O : Ops) (M L : List Nat) (K : Nat) : List (List Nat) := (List.range K).map (rowG O M L)
theorem genG_len (O : Ops) (M L : List Nat) (K : Nat) : (genG O M L K).length = K := by simp [genG]
theorem genG_at (O : Ops) (M L : List Nat) (K k : Nat) (hk : k < K) : (genG O M L K).getD k [] = rowG O M L k := by simp [genG,List.getD,hk]
structure GS (w : World) (b B g0 c0 : Nat) (n : Int) (rows : List (List Nat)) (k : Nat) (v : Value) (bs : List (Nat × Nat)) (row : List Nat) (W : World) : Prop where
 below : Below w.heap.size w W
 lo : w.heap.size <= b /\ w.heap.size <= g0 /\ b < B /\ g0 < B /\ b ≠ g0 /\ B <= W.heap.size
 box : W.heap[b]? = some (.cells [.int .i64 n,v].toArray 105 (0,0))
 grid : LGrid W B v rows bs k
 run : Row W w.heap.size g0 c0 (nz row)
section
variable {w : World} {b B g0 c0 : Nat} {n : Int} {rows : List (List Nat)} {k : Nat} {v : Value} {bs : List (Nat × Nat)} {row : List Nat} {W W' : World}
theorem GS.grow (h : GS w b B g0 c0 n rows k v bs row W) (hb : Below W.heap.size W W') : GS w b B g0 c0 n rows k v bs row W' := by
 obtain ⟨l1,l2,l3,l4,l5,l6⟩ := h.lo
 have hs := hb.size
 exact ⟨h.below.trans (hb.mono h.below.size),⟨l1,l2,l3,l4,l5,by omega⟩,(hb.block _ (by omega)).trans h.box,h.grid.grow hb,h.run.below hb h.run.lt.2⟩
theorem GS.set (h : GS w b B g0 c0 n rows k v bs row W) (j x : Nat) : GS w b B g0 c0 n rows k v bs (row.set j x) (W.setCell ⟨g0,j,none⟩ (.int .i64 (x : Int))) := by
 obtain ⟨l1,l2,l3,l4,l5,l6⟩ := h.lo
 refine ⟨h.below.setCell (p := ⟨g0,j,none⟩) l2 _,⟨l1,l2,l3,l4,l5,by simpa using l6⟩,(Below.heap_setCell W ⟨g0,j,none⟩ _ b l5).trans h.box,h.grid.set (p := ⟨g0,j,none⟩) l4 _,?_⟩
 rw [<- qeH]
 exact h.run.set j _
theorem GS.step {w1 w2 : World} {g c : Nat} {o : Obj} {v' : Value} (h : GS w b B g0 c0 n rows k v bs row W) (hk : k < rows.length) (hb : Below W.heap.size W w1) (hr : Row w1 W.heap.size g c (nz (rows.getD k [])))
 (hown : w2.ownsRow B 22 1 v' (k + 1) ((List.range k).map (hdr rows bs) ++ [.slice (some ⟨g,0,none⟩) (rows.getD k []).length c])) (hg : (w1.alloc o).grownBy w2 v.ownBlock) (hat : v'.ownBlock = v.ownBlock \/ v'.ownBlock = some (w1.alloc o).heap.size) :
 GS w b B g0 c0 n rows (k + 1) v' (bs ++ [(g,c)]) row (w2.setCell ⟨b,1,none⟩ v') := by
 obtain ⟨l1,l2,l3,l4,l5,l6⟩ := h.lo
 have h1 := hb.size
 have h2 : w1.heap.size < w2.heap.size := by have := hg.size;simp at this;omega
 have hne : ∀ x,x < B -> some x ≠ v.ownBlock := fun x hx e => by have := (h.grid.out.lt _ e.symm).1;omega
 have hgl := h.grid.step hk l6 hb hr hown hg hat
 have hblk : ∀ x,x < B -> w2.heap[x]? = W.heap[x]? := fun x hx => by
  rw [hg.block x (by simp;omega) (hne x hx),heap_alloc_old _ _ (by omega),hb.block _ (by omega)]
 have hbx : w2.heap[b]? = some (.cells [.int .i64 n,v].toArray 105 (0,0)) := (hblk b l3).trans h.box
 have hbl : Below w.heap.size w w2 := ((h.below.trans (hb.mono (by omega))).alloc (by omega) _).grown hg (by simp;omega) (fun j hj => by have := (h.grid.out.lt _ hj).1;omega)
 have hrun : Row w2 w.heap.size g0 c0 (nz row) := ((h.run.below hb h.run.lt.2).alloc o).grown hg (hne g0 l4)
 exact ⟨hbl.setCell (p := ⟨b,1,none⟩) l1 _,⟨l1,l2,l3,l4,l5,by simp;omega⟩,by have := qaY hbx 1 v';simpa using this,hgl.set (p := ⟨b,1,none⟩) l3 _,hrun.far (p := ⟨b,1,none⟩) (Ne.symm l5) _⟩
theorem GS.cell1 (h : GS w b B g0 c0 n rows k v bs row W) : W.cell? ⟨b,1,none⟩ = some v := cell_of_row _ _ 1 _ _ _ h.box
theorem GS.range (h : GS w b B g0 c0 n rows k v bs row W) : W.rangeAt b 0 [.int .i64 n,v] := qaB h.box
theorem GS.own {w1 : World} (h : GS w b B g0 c0 n rows k v bs row W) (hb : Below W.heap.size W w1) (o : Obj) : (w1.alloc o).ownsRow B 22 1 v k ((List.range k).map (hdr rows bs)) :=
 World.ownsRow.alloc (h.grid.grow hb).out _
end
end Go.Proofs.YtaddcadapbpkfaaGreatDoor
