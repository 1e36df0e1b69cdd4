/-
 matrix.Transpose of a matrix of one column. matrix.vec; matrix.Mul where nothing is wrong. matrix.open of two matrices, matrix.Mul, where nothing is wrong.
-/
import Derived.Deep.DeepCutAuto
import Derived.Deep.RegionHeld3
import Derived.Deep.RegionLaw
import Derived.Test.YtaddcadapbpkfaaGreatDoorR27
import Derived.Test.YtaddcadapbpkfaaGreatDoorR21
namespace Go.Proofs.YtaddcadapbpkfaaGreatDoor
open Go.RowKit Pln
def RelT4 (w1 : World) (n : Nat) (v8 : Value) (W : World) : Prop := ∃ b R : Nat,v8 = .pointer (some ⟨b,0,none⟩) /\ W.heap[b]? = some (.cells [.int .i64 (n : Int),.slice (some ⟨R,0,none⟩) 1 1].toArray 105 (0,0)) /\
 W.heap[R]? = some (.cells #[.slice none 0 0] 22 (0,0)) /\ w1.heap.size <= b /\ w1.heap.size <= R /\ b < W.heap.size /\ R < W.heap.size /\ b ≠ R /\ Below w1.heap.size w1 W
def TDone (wc : World) (b R n : Nat) (out : List Nat) (W : World) : Prop := Below wc.heap.size (wc.setCell ⟨R,0,none⟩ (.slice (some ⟨wc.heap.size,0,none⟩) n n)) W /\ Row W wc.heap.size wc.heap.size n (nz out) /\ b < wc.heap.size
def RelT6 (wc : World) (b R n : Nat) (out : List Nat) (v33 : Value) (wr : World) : Prop := ∃ k : Nat,k <= 1 /\ v33 = .int .i64 k /\ (k = 0 -> wr = wc) /\ (k = 1 -> TDone wc b R n out wr)
def RelT7 (wc : World) (b R n : Nat) (out : List Nat) (v47 : Value) (wr : World) : Prop := ∃ k : Nat,k <= n /\ v47 = .int .i64 k /\ TDone wc b R n (scK (fun r => r) out k) wr
section
variable {wc : World} {b R n : Nat} {out : List Nat} {W : World}
theorem TDone.cell (h : TDone wc b R n out W) {x y : Nat} (hx : x < wc.heap.size) (hR : x ≠ R) : W.cell? ⟨x,y,none⟩ = wc.cell? ⟨x,y,none⟩ :=
 (h.1.cell (p := ⟨x,y,none⟩) hx).trans (World.cell?_setCell_other _ _ _ _ (by intro e;simp only [Addr.mk.injEq] at e;omega))
theorem TDone.block (h : TDone wc b R n out W) {x : Nat} (hx : x < wc.heap.size) (hR : x ≠ R) : W.heap[x]? = wc.heap[x]? :=
 (h.1.block x hx).trans (Below.heap_setCell wc ⟨R,0,none⟩ _ x hR)
theorem TDone.hdr (h : TDone wc b R n out W) {v : Value} (hr : wc.heap[R]? = some (.cells #[v] 22 (0,0))) : W.heap[R]? = some (.cells #[.slice (some ⟨wc.heap.size,0,none⟩) n n] 22 (0,0)) := by
 have hR := qcZ hr
 rw [h.1.block R hR]
 have := qaY (cs := [v]) hr 0 (.slice (some ⟨wc.heap.size,0,none⟩) n n)
 simpa using this
end
theorem TDone.low {wc : World} {b R n : Nat} {out : List Nat} {W : World} (h : TDone wc b R n out W) {B : Nat} (hB : B <= R) (hw : B <= wc.heap.size) : Below B wc W :=
 ((Below.refl B wc).setCell (p := ⟨R,0,none⟩) hB _).trans (h.1.mono hw)
theorem RelT7.at5 {wc : World} {b R n : Nat} {out : List Nat} {v47 : Value} {W : World} (h : RelT7 wc b R n out v47 W) {x y : Nat} (_h : True) (hR : x ≠ R) (hx : x < wc.heap.size) : W.cell? ⟨x,y,none⟩ = wc.cell? ⟨x,y,none⟩ := by
 obtain ⟨k,_,_,hd⟩ := h
 exact hd.cell hx hR
set_option maxHeartbeats 2000000 in
set_option maxRecDepth 100000 in
theorem transpose_c (p m : Int) (mod : List Int) (Am : Option Addr) (cm : Nat) (rows : List (List Nat)) (A : Option Addr) (c : Nat) (w : World) (hM : IntsAt w w.heap.size Am mod) (hl : mod.length <= 9223372036854775807)
 (hA : RowsAt w w.heap.size A (nzs rows)) (hlz : rows.length <= 256) (h0 : 0 < rows.length) (herr : errC p m mod 1 (nzs rows) = 0) (hrl : ∀ r ∈ rows,r.length = 1) :
 Calls Tryz.prog 258 #[.agg #[.int .i64 p,.int .i64 m,.slice Am mod.length cm],.agg #[.int .i64 1,.slice A rows.length c]] w (MatPost w rows.length [rows.map fun r => r.getD 0 0]) := by
 obtain ⟨hok,hz⟩ : fieldOK p m mod = true /\ checkZ (p.toNat ^ m.toNat) 1 (nzs rows) = 0 := by
  unfold errC at herr
  split at herr
  . exact ⟨by assumption,herr⟩
  . simp at herr
 obtain ⟨i0,hi,hz0,hz1,hz2⟩ := info_parts infoInt
 obtain ⟨i00,hi',hz0',hz1',hz2'⟩ := info_parts infoInts
 have HI := Lib.hid hi
 have HZ0 := Lib.hid hz0
 have HZ1 := Lib.hid hz1
 have HI' := Lib.hid hi'
 have HZ0' := Lib.hid hz0'
 have HZ1' := Lib.hid hz1'
 have HZ2' := Lib.hid hz2'
 have HB2 := Lib.hid (show i0.bytes * rows.length <= 281474976710656 by rw [hz2];omega)
 have HB3 := Lib.hid (show rows.length <= maxLen by unfold maxLen;omega)
 have HX := Lib.hid ((box3 w p m Am mod.length cm 1 A rows.length c 105 #[.int .i64 0,.slice none 0 0]).keep ((Below.refl _ _).alloc (Nat.le_refl _) (.cells #[.int .i64 1,.slice A rows.length c] 105)))
 have HK3 : Hid (((((w.alloc (.cells #[.int .i64 p,.int .i64 m,.slice Am mod.length cm] 29)).alloc (.cells #[.int .i64 1,.slice A rows.length c] 105)).alloc (.cells #[.int .i64 0,.slice none 0 0] 105)).alloc (.cells #[.int .i64 1,.slice A rows.length c] 105)).heap[w.heap.size + 1 + 1 + 1]? = some (.cells #[.int .i64 1,.slice A rows.length c] 105 (0,0))) := by
  have := heap_alloc_new (((w.alloc (.cells #[.int .i64 p,.int .i64 m,.slice Am mod.length cm] 29)).alloc (.cells #[.int .i64 1,.slice A rows.length c] 105)).alloc (.cells #[.int .i64 0,.slice none 0 0] 105)) (.cells #[.int .i64 1,.slice A rows.length c] 105)
  rw [show (((w.alloc (.cells #[.int .i64 p,.int .i64 m,.slice Am mod.length cm] 29)).alloc (.cells #[.int .i64 1,.slice A rows.length c] 105)).alloc (.cells #[.int .i64 0,.slice none 0 0] 105)).heap.size = w.heap.size + 1 + 1 + 1 by simp] at this
  exact this
 have HM := Lib.hid hM
 have HA := Lib.hid hA
 have HRL : Hid (∀ k,k < rows.length -> (rows.getD k []).length = 1) := fun k hk => by
  have : rows.getD k [] = rows[k] := by simp [List.getD,hk]
  rw [this]
  exact hrl _ (List.getElem_mem hk)
 clear hM hA hi hz0 hz1 hz2 hi' hz0' hz1' hz2' hrl herr
 go_enter Tryz.func258,Tryz.ntmps258
 go_wp2_with fail
 generalize (((w.alloc (.cells #[.int .i64 p,.int .i64 m,.slice Am mod.length cm] 29)).alloc (.cells #[.int .i64 1,.slice A rows.length c] 105)).alloc (.cells #[.int .i64 0,.slice none 0 0] 105)).alloc (.cells #[.int .i64 1,.slice A rows.length c] 105) = W0 at *
 have hlz' : (nzs rows).length <= 9223372036854775807 := by rw [qaU];omega
 have HC := Lib.hid (open_c p m mod Am cm 1 (nzs rows) A c (w.heap.size + 1 + 1 + 1) 1 W0 ((HM.out.keep HX.out.below).more HX.out.below.size) hl ((HA.out.keep HX.out.below).more HX.out.below.size) hlz' (by rw [qaU];exact HK3.out))
 (with_reducible refine HC.out.mono ?_)
 rintro e w1 ⟨hb1,hcase⟩
 have HX1 := Lib.hid (HX.out.keep hb1)
 have HA1 := Lib.hid ((HA.out.keep HX1.out.below).more HX1.out.below.size)
 clear HX HM HA HC HK3 hb1
 clear W0
 rcases hcase with ⟨hok',_⟩ | ⟨_,hz',_⟩ | ⟨_,_,gb,rfl,hg⟩
 . rw [hok] at hok';cases hok'
 . exact absurd hz hz'
 clear hg hok hz
 have HK1S : w.heap.size + 1 < w1.heap.size := by have := HX1.out.size;omega
 have hmk : ∀ W : World,(Instr.makeSlice 33 (.int .i64 1) (.int .i64 1)).run Tryz.prog W = .ok (.slice (some ⟨W.heap.size,0,none⟩) 1 1) (W.alloc (.cells #[.slice none 0 0] 22)) := fun W => by
  have := run_make (P := Tryz.prog) W 33 22 i00 (.slice none 0 0) Tryz.underlying33 HI'.out HZ0'.out .i64 .i64 1 1 (by omega) (Int.le_refl _) (by rw [HZ2'.out];omega) (by omega)
  rw [HZ1'.out] at this
  rw [show madeCells (Value.slice none 0 0).cells (Int.toNat 1 * 1) = #[Value.slice none 0 0] from (by kernel_rfl : madeCells (Value.slice none 0 0).cells (Int.toNat 1 * 1) = #[Value.slice none 0 0])] at this
  exact this
 have a0 : w1.cell? ⟨w.heap.size + 1,0,none⟩ = some (.int .i64 1) := cell_of_row _ _ 0 _ _ _ HX1.out.k1
 have a1 : w1.cell? ⟨w.heap.size + 1,1,none⟩ = some (.slice A rows.length c) := cell_of_row _ _ 1 _ _ _ HX1.out.k1
 have HTA : Hid (RelT4 w1 rows.length (.pointer (some ⟨w1.heap.size + 1,0,none⟩)) ((w1.alloc (.cells #[.slice none 0 0] 22)).alloc (.cells #[.int .i64 (rows.length : Int),.slice (some ⟨w1.heap.size,0,none⟩) 1 1] 105)).drew) := by
  refine ⟨w1.heap.size + 1,w1.heap.size,rfl,?_,?_,by omega,by omega,by simp,by simp;omega,by omega,(((Below.refl _ _).alloc (Nat.le_refl _) _).alloc (by simp) _).drew⟩
  . have := heap_alloc_new (w1.alloc (.cells #[.slice none 0 0] 22)) (.cells #[.int .i64 (rows.length : Int),.slice (some ⟨w1.heap.size,0,none⟩) 1 1] 105)
    rw [show (w1.alloc (.cells #[.slice none 0 0] 22)).heap.size = w1.heap.size + 1 by simp] at this
    exact this
  . exact (heap_alloc_old _ _ (by simp)).trans (heap_alloc_new _ _)
 have HTB : Hid (RelT4 w1 rows.length (.pointer (some ⟨w1.heap.size,0,none⟩)) ((w1.alloc (.cells #[.int .i64 (rows.length : Int),.slice (some ⟨w1.heap.size + 1,0,none⟩) 1 1] 105)).alloc (.cells #[.slice none 0 0] 22)).drew) := by
  refine ⟨w1.heap.size,w1.heap.size + 1,rfl,?_,?_,by omega,by omega,by simp;omega,by simp,by omega,(((Below.refl _ _).alloc (Nat.le_refl _) _).alloc (by simp) _).drew⟩
  . exact (heap_alloc_old _ _ (by simp)).trans (heap_alloc_new _ _)
  . have := heap_alloc_new (w1.alloc (.cells #[.int .i64 (rows.length : Int),.slice (some ⟨w1.heap.size + 1,0,none⟩) 1 1] 105)) (.cells #[.slice none 0 0] 22)
    rw [show (w1.alloc (.cells #[.int .i64 (rows.length : Int),.slice (some ⟨w1.heap.size + 1,0,none⟩) 1 1] 105)).heap.size = w1.heap.size + 1 by simp] at this
    exact this
 go_upto_region 4 with fail
 go_cut [8] (fun v8 wx => RelT4 w1 rows.length v8 wx)
 case first =>
  go_region_held3 (fun w' => w'.cell? ⟨w.heap.size + 1,0,none⟩ = some (.int .i64 1) /\ w'.cell? ⟨w.heap.size + 1,1,none⟩ = some (.slice A rows.length c)) (go_keep) (fail)
  all_goals
   clear a0 a1 hmk
   go_wp2_with fail
   go_meet
   first
    | exact HTA.out
    | exact HTB.out
 case rest =>
  obtain ⟨b,R,rfl,hbx,hRx,hb1,hR1,hbs,hRs,hbR,hbw⟩ := hcut
  have HBX := Lib.hid hbx
  have HRX := Lib.hid hRx
  have HBW := Lib.hid hbw
  have HA2 := Lib.hid (HA1.out.keep hbw)
  have HX2 := Lib.hid (HX1.out.keep hbw)
  have hws := hbw.size
  have b1 : wc.cell? ⟨b,1,none⟩ = some (.slice (some ⟨R,0,none⟩) 1 1) := cell_of_row _ _ 1 _ _ _ hbx
  clear hbx hRx hbw HA1 a0 a1 HTA HTB hmk
  have HOL : Hid ((rows.map fun r => r.getD 0 0).length = rows.length) := by show _ = _;simp
  have HOG : Hid (∀ t,t < rows.length -> (rows.map fun r => r.getD 0 0).getD t 0 = (rows.getD t []).getD 0 0) := fun t ht => by simp [List.getD,ht]
  generalize hout : rows.map (fun r => r.getD 0 0) = out at *
  have HOUT := Lib.hid hout
  clear hout
  go_wp2_with fail
  go_loopw [33] (fun v33 wr => RelT6 wc b R rows.length out v33 wr) (fun v33 _ => 1 - (intOf v33).toNat)
  case atStart => exact ⟨0,by omega,rfl,fun _ => rfl,fun h => by omega⟩
  case round =>
   obtain ⟨k,hk,rfl,hs,hd⟩ := hrel
   by_cases hk0 : k = 0
   . subst hk0
     obtain rfl := hs rfl
     clear hs hd
     obtain ⟨wc,rfl⟩ : ∃ w',w' = wr := ⟨wr,rfl⟩
     have a1 : wc.cell? ⟨w.heap.size + 1,1,none⟩ = some (.slice A rows.length c) := cell_of_row _ _ 1 _ _ _ HX2.out.k1
     have r0 : wc.cell? ⟨R,0,none⟩ = some (.slice none 0 0) := cell_of_row _ _ 0 _ _ _ HRX.out
     have rf : wc.frozen? ⟨R,0,none⟩ = false := by simp [World.frozen?,HRX.out]
     have hRm : w.heap.size + 1 ≠ R := by omega
     have hRm' : w.heap.size + 1 < wc.heap.size := by omega
     obtain ⟨zz,hzz⟩ : ∃ zz,zz = madeCells (Value.int .i64 0).cells (rows.length * 1) := ⟨_,rfl⟩
     have HZZ := Lib.hid hzz
     have hmk : ∀ W : World,(Instr.makeSlice 22 (.int .i64 (rows.length : Int)) (.int .i64 (rows.length : Int))).run Tryz.prog W = .ok (.slice (some ⟨W.heap.size,0,none⟩) rows.length rows.length) (W.alloc (.cells zz 3)) := fun W => by
      have := run_make (P := Tryz.prog) W 22 3 i0 (.int .i64 0) Tryz.underlying22 HI.out HZ0.out .i64 .i64 (rows.length : Int) (rows.length : Int) (by omega) (Int.le_refl _) (by have := HB2.out;omega) (by omega)
      rw [HZ1.out,Int.toNat_natCast,<- hzz] at this
      exact this
     clear hzz
     have HT0 : Hid (RelT7 wc b R rows.length out (.int .i64 ((0 : Nat) : Int)) (((wc.setCell ⟨R,0,none⟩ (.slice (some ⟨wc.heap.size,0,none⟩) rows.length rows.length)).alloc (.cells zz 3)).drew)) := by
      refine ⟨0,by omega,rfl,?_,?_,hbs⟩
      . exact ((Below.refl wc.heap.size _).alloc (by simp) _).drew
      . have := row_zz (wc.setCell ⟨R,0,none⟩ (.slice (some ⟨wc.heap.size,0,none⟩) rows.length rows.length)) (B := wc.heap.size) HZZ.out (by simp) HB3.out
        rw [show (wc.setCell ⟨R,0,none⟩ (.slice (some ⟨wc.heap.size,0,none⟩) rows.length rows.length)).heap.size = wc.heap.size by simp] at this
        have hs : scK (fun r => r) out 0 = List.replicate rows.length 0 := by simp [scK,HOL.out]
        rw [hs]
        exact this.below (Below.refl _ _).drew this.lt.2
     have q1 : ∀ (u : Value) (o : Obj),((wc.setCell ⟨R,0,none⟩ u).alloc o).drew.cell? ⟨b,1,none⟩ = some (.slice (some ⟨R,0,none⟩) 1 1) := fun u o =>
      (World.cell?_alloc_lt _ _ _ (by simpa using hbs)).trans ((World.cell?_setCell_other _ _ _ _ (by intro h;simp only [Addr.mk.injEq] at h;omega)).trans b1)
     have q2 : ∀ (u : Value) (o : Obj),((wc.setCell ⟨R,0,none⟩ u).alloc o).drew.cell? ⟨w.heap.size + 1,1,none⟩ = some (.slice A rows.length c) := fun u o =>
      (World.cell?_alloc_lt _ _ _ (by simpa using hRm')).trans ((World.cell?_setCell_other _ _ _ _ (by intro h;simp only [Addr.mk.injEq] at h;omega)).trans a1)
     go_upto_region 8 with fail
     go_region_held3 (fun w' => w'.cell? ⟨b,1,none⟩ = some (.slice (some ⟨R,0,none⟩) 1 1) /\ w'.cell? ⟨w.heap.size + 1,1,none⟩ = some (.slice A rows.length c)) (first | (with_reducible exact ⟨q1 _ _,q2 _ _⟩) | go_keep) (fail)
     all_goals
      clear hmk q1 q2 r0 rf b1
      generalize ((wc.setCell ⟨R,0,none⟩ (.slice (some ⟨wc.heap.size,0,none⟩) rows.length rows.length)).alloc (.cells zz 3)).drew = W5 at *
      have a5 : W5.cell? ⟨w.heap.size + 1,1,none⟩ = some (.slice A rows.length c) := (HT0.out.at5 trivial hRm hRm').trans a1
      clear a1
      go_wp2_with fail
      go_loopw [47] (fun v47 wr => RelT7 wc b R rows.length out v47 wr) (fun v47 _ => rows.length - (intOf v47).toNat)
      case atStart => exact HT0.out
      case round =>
       obtain ⟨t,ht,rfl,hd⟩ := hrel
       have HD := Lib.hid hd
       clear hd HT0
       by_cases htl : t < rows.length
       . obtain ⟨bA,oA,Ai,ci,rfl,hbl,hc,hi⟩ := (HA2.out.keep (HD.out.low hR1 hws)).at_ (i := t) (by rw [qaU];exact htl)
         rw [qbZ] at hc hi
         rw [qaI] at hc
         have hrl := HRL.out t htl
         have hog := HOG.out t htl
         obtain ⟨br,or',rfl,hbr,hcr⟩ := hi.at_ (k := 0) (by rw [qaI];omega)
         rw [qaN,Nat.add_zero] at hcr
         rw [hrl] at hc
         rw [<- hog] at hcr
         have HST := Lib.hid (scK_set (fun r => r) out t (by rw [HOL.out];exact htl))
         have f0 := HD.out.2.1.frozen t
         have c0 := HD.out.2.1.cell (j := t) (by rw [qaI,scK_len _ out t (by rw [HOL.out];exact ht),HOL.out];exact htl)
         have b2 : wr.cell? ⟨b,1,none⟩ = some (.slice (some ⟨R,0,none⟩) 1 1) := (HD.out.cell hbs hbR).trans (cell_of_row _ _ 1 _ _ _ HBX.out)
         have r2 : wr.cell? ⟨R,0,none⟩ = some (.slice (some ⟨wc.heap.size,0,none⟩) rows.length rows.length) := cell_of_row _ _ 0 _ _ _ (HD.out.hdr HRX.out)
         have t0 : (0 : Int) <= (t : Int) := by omega
         have t1 : (t : Int) < (rows.length : Int) := by omega
         clear hi hog
         generalize out.getD t 0 = z at *
         go_upto_region 12 with fail
         refine qaS 11 (SDrew wr) (by kernel_rfl) (by kernel_rfl) ⟨1,rfl⟩ ?_
         simp only [List.take_succ_cons,List.take_zero,List.drop_succ_cons,List.drop_zero]
         repeat (apply qbK rfl
                 . intro W hS
                   obtain ⟨n,rfl⟩ := hS
                   go_simp
                   rfl
                 go_simp)
         refine qbD ?_
         intro w2 hS2
         obtain ⟨n,rfl⟩ := hS2
         go_wp2_with fail
         go_roundw
         case rel =>
          refine ⟨t + 1,by omega,by go_num,(qaK HD.out.1 n).setCell (p := ⟨wc.heap.size,t,none⟩) (Nat.le_refl _) _,?_,HD.out.2.2⟩
          rw [<- HST.out,<- qeH]
          exact Row.set (w := wr.drewN n) HD.out.2.1 t _
         case measure => simp [intOf];omega
       . obtain rfl : t = rows.length := by omega
         have HTD : Hid (TDone wc b R rows.length out wr) := by
          have := HD.out
          rw [show scK (fun r => r) out rows.length = out by unfold scK;rw [HOL.out,Nat.sub_self,List.replicate_zero,List.append_nil,<- HOL.out,List.take_length,List.map_id']] at this
          exact this
         go_wp2_with fail
         go_roundw
         case rel => exact ⟨1,by omega,by go_num,fun h => by omega,fun _ => HTD.out⟩
         case measure => simp [intOf]
   . obtain rfl : k = 1 := by omega
     have HD := Lib.hid (hd rfl)
     clear hs hd
     have HX3 := Lib.hid (HX1.out.keep (HBW.out.trans (HD.out.low hR1 hws)))
     have HK22 := Lib.hid HX3.out.k2
     have HY := Lib.hid (HX3.out.set #[.int .i64 (rows.length : Int),.slice (some ⟨R,0,none⟩) 1 1])
     have HRG : Hid (wr.rangeAt b 0 [.int .i64 (rows.length : Int),.slice (some ⟨R,0,none⟩) 1 1]) := qaB ((HD.out.block hbs hbR).trans HBX.out)
     have HRU : Hid (RowsUp wr w1.heap.size (some ⟨R,0,none⟩) (nzs [out])) := fun _ => by
      have hsz := HD.out.1.size
      simp at hsz
      refine ⟨R,0,rfl,hR1,by omega,fun i hi => ?_⟩
      obtain rfl : i = 0 := by simp [nzs] at hi;omega
      refine ⟨wc.heap.size,0,rows.length,?_,hws,HD.out.2.1.lt.2,fun j hj => ?_⟩
      . have := cell_of_row _ _ 0 _ _ _ (HD.out.hdr HRX.out)
        simp [nzs,qaI,HOL.out]
        simpa using this
      . rw [Nat.zero_add]
        exact HD.out.2.1.cell hj
     have hX2S : w.heap.size + 1 + 1 < w1.heap.size := HX1.out.size
     clear HX1 HX2 HD HA2 b1
     go_wp2_with (first | (refine wpList_load_mid rfl 105 (.tmp 8) rfl b 0 rfl [.int .i64 (rows.length : Int),.slice (some ⟨R,0,none⟩) 1 1] _ HRG.out Tryz.underlying105 rfl matSize ?_) | (refine qaA rfl 105 (.tmp 4) (.tmp 65) rfl wr (w.heap.size + 1 + 1) 105 #[.int .i64 0,.slice none 0 0] #[.int .i64 (rows.length : Int),.slice (some ⟨R,0,none⟩) 1 1] rfl rfl HK22.out matSize rfl (by simp [Value.oneCell']) ?_))
     refine bodyPost_ret (qaE (P := Tryz.prog) rfl _ _ (w.heap.size + 1 + 1) 105 #[.int .i64 (rows.length : Int),.slice (some ⟨R,0,none⟩) 1 1] (0,0) _ _ rfl rfl HY.out.k2 Tryz.underlying105 rfl matSize) rfl ?_
     exact ⟨⟨some ⟨R,0,none⟩,1,rfl,by rw [HOUT.out];exact (HRU.out.setRow hX2S _).lower (Nat.le_of_lt (by omega : w.heap.size < w1.heap.size))⟩,HY.out.below⟩
end Go.Proofs.YtaddcadapbpkfaaGreatDoor
namespace Go.Proofs.YtaddcadapbpkfaaGreatDoor
open Go.RowKit Pln
set_option maxHeartbeats 1000000 in
set_option maxRecDepth 100000 in
theorem madd2_c (a gb p m Bg B gv cv cu : Nat) (Au : Option Addr) (md l v u : List Nat) (w : World) (hF : FT p m md l) (hG : GFAt w Bg gb p m l (logL l (p ^ m))) (hBg : Bg <= gv) (ha : a < p ^ m) (hv : ∀ x ∈ v,x < p ^ m) (hu : ∀ x ∈ u,x < p ^ m)
 (hrv : Row w B gv cv (nz v)) (hru : IntsAt w gv Au (nz u)) (hlen : v.length = u.length) (hl : v.length <= 1000) :
 Calls Tryz.prog 319 #[.pointer (some ⟨gb,0,none⟩),.slice (some ⟨gv,0,none⟩) v.length cv,.int .i64 a,.slice Au v.length cu] w fun e w' => e = .returned (.tuple #[]) /\ Row w' B gv cv (nz (addRow (opsT p m l) v a u)) /\ w.grownBy w' (some gv) := by
 have hgvs := hrv.lt.2
 have HC : Hid (∀ x W,x < p ^ m -> w.grownBy W (some gv) -> Calls Tryz.prog 240 #[.pointer (some ⟨gb,0,none⟩),.int .i64 (a : Int),.int .i64 (x : Int)] W (Quiet (.int .i64 (((opsT p m l).mul a x : Nat) : Int)) W)) :=
  fun x W hx hb => mul_c a x gb p m Bg md l W hF (hG.keep ((qaX hb (Nat.le_of_lt hgvs)).mono hBg)) ha hx
 have HD : Hid (∀ x y W,x < p ^ m -> y < p ^ m -> w.grownBy W (some gv) -> Calls Tryz.prog 264 #[.pointer (some ⟨gb,0,none⟩),.int .i64 (x : Int),.int .i64 (y : Int)] W (Quiet (.int .i64 (((opsT p m l).add x y : Nat) : Int)) W)) :=
  fun x y W hx hy hb => add_c x y gb p m Bg l _ W hF.small (hG.keep ((qaX hb (Nat.le_of_lt hgvs)).mono hBg)) hx hy
 have HML : Hid (∀ x,x < p ^ m -> (opsT p m l).mul a x < p ^ m) := fun x hx => mulT_lt hF ha hx
 have HV : Hid (∀ k,k < v.length -> v.getD k 0 < p ^ m) := fun k hk => by
  have : v.getD k 0 = v[k] := by simp [List.getD,hk]
  rw [this]
  exact hv _ (List.getElem_mem hk)
 have HU : Hid (∀ k,k < v.length -> u.getD k 0 < p ^ m) := fun k hk => by
  have hk2 : k < u.length := by omega
  have : u.getD k 0 = u[k] := by simp [List.getD,hk2]
  rw [this]
  exact hu _ (List.getElem_mem hk2)
 have HRU := Lib.hid hru
 have HS : Hid (RelAd w B gv cv (opsT p m l) v a u (.int .i64 ((0 : Nat) : Int)) w) := ⟨0,by omega,rfl,by simpa [adK,addRow] using hrv,World.grownBy.refl _ _⟩
 have HLEN := Lib.hid hlen
 clear hF hG hv hu hrv hru hlen
 generalize opsT p m l = O at *
 generalize p ^ m = q at *
 go_enter Tryz.func319,Tryz.ntmps319
 go_wp2_with fail
 go_loopw [12] (fun v12 wr => RelAd w B gv cv O v a u v12 wr) (fun v12 _ => v.length - (intOf v12).toNat)
 case atStart => exact HS.out
 case round =>
  obtain ⟨k,hk,rfl,hrow,hgr⟩ := hrel
  have HR := Lib.hid hrow
  have HG := Lib.hid hgr
  clear hrow hgr HS
  by_cases hlt : k < v.length
  . obtain ⟨bu,ou,rfl,hbu,y0⟩ := (HRU.out.keep (qaX HG.out (Nat.le_of_lt hgvs))).at_ (k := k) (by rw [qaI,<- HLEN.out];exact hlt)
    rw [qaN] at y0
    have y1 : wr.cell? ⟨gv,k,none⟩ = some (.int .i64 ((v.getD k 0 : Nat) : Int)) := by rw [<- adK_at O v a u k HLEN.out hlt,<- qaN];exact HR.out.cell (by rw [qaI,adK_len O v a u k HLEN.out hk];exact hlt)
    have f1 := HR.out.frozen k
    have HSET := Lib.hid (adK_set O v a u k HLEN.out hlt)
    have HSKIP := Lib.hid (adK_skip O v a u k HLEN.out hlt)
    have hxq := HU.out k hlt
    have hvq := HV.out k hlt
    have k0 : (0 : Int) <= (k : Int) := by omega
    have k1 : (k : Int) < (v.length : Int) := by omega
    by_cases h0 : u.getD k 0 = 0
    . have HE := Lib.hid (HSKIP.out h0)
      rw [h0] at y0
      clear HSET HSKIP h0
      go_wp2_with fail
      go_roundw
      case rel => exact ⟨k + 1,by omega,by go_num,by rw [HE.out];exact HR.out,HG.out⟩
      case measure => simp [intOf];omega
    . rw [if_neg h0] at HSET
      clear HSKIP
      generalize u.getD k 0 = x at *
      generalize v.getD k 0 = y at *
      have hx0 : ((x : Int) != 0) = true := by simpa using h0
      have hx1 : ¬ (x : Int) = 0 := by omega
      have HM : Hid (∀ W,SDrew wr W -> Calls Tryz.prog 240 #[.pointer (some ⟨gb,0,none⟩),.int .i64 (a : Int),.int .i64 (x : Int)] W fun e w' => e = .returned (.int .i64 ((O.mul a x : Nat) : Int)) /\ SDrew wr w') := fun W ⟨n,hW⟩ => by
       subst hW
       refine (HC.out x _ hxq (qbA HG.out (qbL wr n _))).mono ?_
       rintro e w' ⟨he,k,rfl⟩
       exact ⟨he,n + k,by rw [World.drewN_drewN]⟩
      have HMQ := HML.out x hxq
      have HAD : Hid (∀ W,SDrew wr W -> Calls Tryz.prog 264 #[.pointer (some ⟨gb,0,none⟩),.int .i64 (y : Int),.int .i64 ((O.mul a x : Nat) : Int)] W fun e w' => e = .returned (.int .i64 ((O.add y (O.mul a x) : Nat) : Int)) /\ SDrew wr w') := fun W ⟨n,hW⟩ => by
       subst hW
       refine (HD.out y _ _ hvq HMQ (qbA HG.out (qbL wr n _))).mono ?_
       rintro e w' ⟨he,k,rfl⟩
       exact ⟨he,n + k,by rw [World.drewN_drewN]⟩
      clear hx1
      go_upto_region 4 with fail
      refine qaS 13 (SDrew wr) (by kernel_rfl) (by kernel_rfl) ⟨1,rfl⟩ ?_
      simp only [List.take_succ_cons,List.take_zero,List.drop_succ_cons,List.drop_zero]
      repeat (first
       | (apply qbK rfl
          . intro W hS
            obtain ⟨n,rfl⟩ := hS
            go_simp
            rfl
          go_simp)
       | (apply qcE rfl
          . intro W hS
            go_simp
            exact ⟨rfl,rfl⟩
          . intro W hS
            first
             | exact HM.out W hS
             | exact HAD.out W hS
          go_simp))
      refine qbD ?_
      intro w2 hS2
      obtain ⟨n,rfl⟩ := hS2
      generalize O.add y (O.mul a x) = z at *
      go_wp2_with fail
      go_roundw
      case rel =>
       refine ⟨k + 1,by omega,by go_num,?_,qbA (qbA HG.out (qbL wr n _)) (qdP _ ⟨gv,k,none⟩ _)⟩
       rw [<- HSET.out,<- qeH]
       exact Row.set (w := wr.drewN n) HR.out k _
      case measure => simp [intOf];omega
  . obtain rfl : k = v.length := by omega
    go_wp2_with fail
    go_end0
    refine ⟨rfl,?_,HG.out⟩
    rw [<- adK_end O v a u HLEN.out]
    exact HR.out
def vecM (O : Ops) (x : List Nat) (rows : List (List Nat)) (cols : Nat) : Nat -> List Nat
 | 0 => List.replicate cols 0
 | k + 1 => if x.getD k 0 = 0 then vecM O x rows cols k else addRow O (vecM O x rows cols k) (x.getD k 0) (rows.getD k [])
theorem vecM_mem {q n cols : Nat} {O : Ops} (E : OpsEq q O O) {x : List Nat} {rows : List (List Nat)} (hx : ∀ k,k < n -> x.getD k 0 < q) (hG : Grid q n cols rows) (h0 : 0 < q) : ∀ k,k <= n -> (vecM O x rows cols k).length = cols /\ ∀ y ∈ vecM O x rows cols k,y < q
 | 0,_ => ⟨by simp [vecM],fun y hy => by simp [vecM] at hy;omega⟩
 | k + 1,hk => by
   obtain ⟨i1,i2⟩ := vecM_mem E hx hG h0 k (by omega)
   unfold vecM
   split
   . exact ⟨i1,i2⟩
   . have hr := hG.row (i := k) (by omega)
     exact ⟨by rw [qdT _ _ _ _ (by rw [i1,hr.1]),i1],(addRow_eq E (hx k (by omega)) i2 hr.2).2⟩
def RelVec (w : World) (O : Ops) (x : List Nat) (rows : List (List Nat)) (cols : Nat) (v16 : Value) (wr : World) : Prop :=
 ∃ k : Nat,k <= x.length /\ v16 = .int .i64 k /\ Row wr w.heap.size w.heap.size cols (nz (vecM O x rows cols k)) /\ Below w.heap.size w wr
set_option maxHeartbeats 1000000 in
set_option maxRecDepth 100000 in
theorem vec_c (gb Bg p m cols : Nat) (md l x : List Nat) (rows : List (List Nat)) (Ax : Option Addr) (cx : Nat) (A : Option Addr) (c : Nat) (w : World) (hF : FT p m md l) (hG : GFAt w Bg gb p m l (logL l (p ^ m))) (hBg : Bg <= w.heap.size) (hX : IntsAt w w.heap.size Ax (nz x)) (hA : RowsAt w w.heap.size A (nzs rows))
 (hxl : x.length = rows.length) (hx : ∀ k,k < x.length -> x.getD k 0 < p ^ m) (hgr : Grid (p ^ m) rows.length cols rows) (hc : cols <= 256) (hn : rows.length <= 256) :
 Calls Tryz.prog 304 #[.pointer (some ⟨gb,0,none⟩),.slice Ax x.length cx,.slice A rows.length c,.int .i64 cols] w fun e w' => e = .returned (.slice (some ⟨w.heap.size,0,none⟩) cols cols) /\ Row w' w.heap.size w.heap.size cols (nz (vecM (opsT p m l) x rows cols x.length)) /\ Below w.heap.size w w' := by
 obtain ⟨i0,hi,hz0,hz1,hz2⟩ := info_parts infoInt
 have HI := Lib.hid hi
 have HZ0 := Lib.hid hz0
 have HZ1 := Lib.hid hz1
 have HB2 := Lib.hid (show i0.bytes * cols <= 281474976710656 by rw [hz2];omega)
 have HB3 := Lib.hid (show cols <= maxLen by unfold maxLen;omega)
 have hp0 : 0 < p ^ m := Nat.pow_pos (by have := hF.small.p1;omega)
 have HVM := Lib.hid (vecM_mem (qcN hF) (x := x) (fun k hk => hx k (by omega)) hgr hp0)
 have HRW : Hid (∀ k,k < x.length -> (rows.getD k []).length = cols /\ ∀ y ∈ rows.getD k [],y < p ^ m) := fun k hk => hgr.row (i := k) (by omega)
 have HX := Lib.hid hX
 have HA := Lib.hid hA
 have HXQ := Lib.hid hx
 have HAD : Hid (∀ (W : World) (a : Nat) (v u : List Nat) (Au : Option Addr) (cu : Nat),Below w.heap.size w W -> a < p ^ m -> (∀ z ∈ v,z < p ^ m) -> (∀ z ∈ u,z < p ^ m) -> Row W w.heap.size w.heap.size cols (nz v) -> IntsAt W w.heap.size Au (nz u) -> v.length = cols -> u.length = cols -> Calls Tryz.prog 319 #[.pointer (some ⟨gb,0,none⟩),.slice (some ⟨w.heap.size,0,none⟩) cols cols,.int .i64 (a : Int),.slice Au cols cu] W fun e w' => e = .returned (.tuple #[]) /\ Row w' w.heap.size w.heap.size cols (nz (addRow (opsT p m l) v a u)) /\ W.grownBy w' (some w.heap.size)) := fun W a v u Au cu hW ha hv hu hr hi hvl hul => by
  have := madd2_c a gb p m Bg w.heap.size w.heap.size cols cu Au md l v u W hF (hG.keep (hW.mono hBg)) hBg ha hv hu hr hi (by rw [hvl,hul]) (by omega)
  rw [hvl] at this
  exact this
 have HK : Hid (∀ k,vecM (opsT p m l) x rows cols (k + 1) = if x.getD k 0 = 0 then vecM (opsT p m l) x rows cols k else addRow (opsT p m l) (vecM (opsT p m l) x rows cols k) (x.getD k 0) (rows.getD k [])) := fun k => rfl
 have HST : Hid (∀ W,Row W w.heap.size w.heap.size cols (nz (List.replicate cols 0)) -> Row W w.heap.size w.heap.size cols (nz (vecM (opsT p m l) x rows cols 0))) := fun W h => h
 clear hi hz0 hz1 hz2 hX hA hF hG hx hgr hp0
 generalize opsT p m l = O at *
 generalize p ^ m = q at *
 go_enter Tryz.func304,Tryz.ntmps304
 go_wp2_with (refine wpList_make_full w rfl (.tmp 12) (.tmp 12) 22 rfl w.heap.size 3 i0 (.int .i64 0) 1 Tryz.underlying22 HI.out HZ0.out HZ1.out .i64 .i64 cols cols cols rfl rfl rfl rfl HB2.out HB3.out (Nat.le_refl _) ?_;intro w1 hown hgrn)
 have HS : Hid (RelVec w O x rows cols (.int .i64 ((0 : Nat) : Int)) w1) := ⟨0,by omega,rfl,HST.out _ (by have := Row.of_make hown;exact this),qbJ hgrn⟩
 clear hown hgrn HST
 go_loopw [16] (fun v16 wr => RelVec w O x rows cols v16 wr) (fun v16 _ => x.length - (intOf v16).toNat)
 case atStart => exact HS.out
 case round =>
  obtain ⟨k,hk,rfl,hrow,hb⟩ := hrel
  have HR := Lib.hid hrow
  have HB := Lib.hid hb
  clear hrow hb HS
  by_cases hlt : k < x.length
  . obtain ⟨b,o,rfl,hbl,hcx⟩ := (HX.out.keep HB.out).at_ (k := k) (by rw [qaI];exact hlt)
    rw [qaN] at hcx
    obtain ⟨ba,oa,Ai,ci,rfl,hba,hca,hai⟩ := (HA.out.keep HB.out).at_ (i := k) (by rw [qaU];omega)
    rw [qbZ] at hca hai
    rw [qaI,(HRW.out k hlt).1] at hca
    have hxq := HXQ.out k hlt
    have HKK := Lib.hid (HK.out k)
    have HVK := Lib.hid (HVM.out k (by omega))
    have HRK := Lib.hid (HRW.out k hlt)
    have HAI := Lib.hid hai
    have k0 : (0 : Int) <= (k : Int) := by omega
    have k1 : (k : Int) < (x.length : Int) := by omega
    have k2 : (k : Int) < (rows.length : Int) := by omega
    clear hai
    by_cases h0 : x.getD k 0 = 0
    . rw [if_pos h0] at HKK
      rw [h0] at hcx
      clear h0 hxq
      go_wp2_with fail
      go_roundw
      case rel => exact ⟨k + 1,by omega,by go_num,by rw [HKK.out];exact HR.out,HB.out⟩
      case measure => simp [intOf];omega
    . rw [if_neg h0] at HKK
      have hxb : (((x.getD k 0 : Nat) : Int) != 0) = true := by rw [bne_iff_ne];omega
      have HC := Lib.hid (HAD.out wr (x.getD k 0) _ _ Ai ci HB.out hxq HVK.out.2 HRK.out.2 HR.out HAI.out HVK.out.1 HRK.out.1)
      clear h0 hxq
      generalize x.getD k 0 = a at *
      go_wp2_with fail
      (with_reducible refine HC.out.mono ?_)
      rintro e w2 ⟨rfl,hr2,hg2⟩
      have HR2 := Lib.hid hr2
      have HB2' : Hid (Below w.heap.size w w2) := HB.out.trans (qaX hg2 (Nat.le_of_lt HR.out.lt.2))
      clear hr2 hg2
      go_wp2_with fail
      go_roundw
      case rel => exact ⟨k + 1,by omega,by go_num,by rw [HKK.out];exact HR2.out,HB2'.out⟩
      case measure => simp [intOf];omega
  . obtain rfl : k = x.length := by omega
    go_wp2_with fail
    go_ret
    exact ⟨rfl,HR.out,HB.out⟩
end Go.Proofs.YtaddcadapbpkfaaGreatDoor
namespace Go.Proofs.YtaddcadapbpkfaaGreatDoor
open Go.RowKit Pln
def RelO2 (w1 : World) (v20 : Value) (wr : World) : Prop := ∃ k : Nat,k <= 2 /\ v20 = .int .i64 k /\ Below w1.heap.size w1 wr
set_option maxHeartbeats 1000000 in
set_option maxRecDepth 100000 in
theorem open2_c (p m : Int) (mod : List Int) (Am : Option Addr) (cm : Nat) (cols cols' : Int) (zs zs' : List (List Int)) (A A' : Option Addr) (c c' b cb : Nat) (w : World) (hM : IntsAt w w.heap.size Am mod)
 (hA : RowsAt w w.heap.size A zs) (hlz : zs.length <= 9223372036854775807) (hA' : RowsAt w w.heap.size A' zs') (hlz' : zs'.length <= 9223372036854775807) (hb : w.heap[b]? = some (.cells #[.int .i64 cols,.slice A zs.length c,.int .i64 cols',.slice A' zs'.length c'] 105 (0,0)))
 (hok : fieldOK p m mod = true) (hz : checkZ (p.toNat ^ m.toNat) cols zs = 0) (hz' : checkZ (p.toNat ^ m.toNat) cols' zs' = 0) :
 Calls Tryz.prog 220 #[.agg #[.int .i64 p,.int .i64 m,.slice Am mod.length cm],.slice (some ⟨b,0,none⟩) 2 cb] w fun e w' => Below w.heap.size w w' /\ ∃ gb,e = .returned (.tuple #[.pointer (some ⟨gb,0,none⟩),.int .i64 0]) /\ GFAt w' w'.heap.size gb p.toNat m.toNat (lOf p m mod) (logL (lOf p m mod) (p.toNat ^ m.toNat)) := by
 have HB0 : Hid (Below w.heap.size w (w.alloc (.cells #[.int .i64 p,.int .i64 m,.slice Am mod.length cm] 29))) := (Below.refl _ _).alloc (Nat.le_refl _) _
 have HS0 : Hid (w.heap.size <= (w.alloc (.cells #[.int .i64 p,.int .i64 m,.slice Am mod.length cm] 29)).heap.size) := by show _ <= _;simp
 have HM := Lib.hid ((hM.keep HB0.out).more HS0.out)
 have HA := Lib.hid hA
 have HA' := Lib.hid hA'
 have HBK := Lib.hid hb
 have hbl := qcZ hb
 have HC := Lib.hid (fnew_ok p m mod Am cm _ HM.out hok)
 have HZ := Lib.hid hz
 have HZ' := Lib.hid hz'
 clear hok HM hM hA hA' hb hz hz'
 go_enter Tryz.func220,Tryz.ntmps220
 go_wp2_with fail
 generalize w.alloc (.cells #[.int .i64 p,.int .i64 m,.slice Am mod.length cm] 29) = W0 at *
 (with_reducible refine HC.out.mono ?_)
 rintro e w1 ⟨⟨gb,rfl,hgb0,hg⟩,hb1⟩
 have HB1 := Lib.hid (HB0.out.trans (hb1.mono HS0.out))
 have HG : Hid (GFAt w1 w1.heap.size gb p.toNat m.toNat (lOf p m mod) (logL (lOf p m mod) (p.toNat ^ m.toNat))) := hg
 have HA1 := Lib.hid ((HA.out.keep HB1.out).more HB1.out.size)
 have HA1' := Lib.hid ((HA'.out.keep HB1.out).more HB1.out.size)
 have HBK1 := Lib.hid ((HB1.out.block b hbl).trans HBK.out)
 have hbl1 : b < w1.heap.size := Nat.lt_of_lt_of_le hbl HB1.out.size
 clear hb1 hg hgb0 HC HBK HA HA' HB0 HS0 hbl
 clear W0
 go_wp2_with fail
 go_loopw [20] (fun v20 wr => RelO2 w1 v20 wr) (fun v20 _ => 2 - (intOf v20).toNat)
 case atStart => exact ⟨0,by omega,rfl,Below.refl _ _⟩
 case round =>
  obtain ⟨k,hk,rfl,hbr⟩ := hrel
  have HBR := Lib.hid hbr
  clear hbr
  have HRA : Hid (wr.rangeAt b 0 [.int .i64 cols,.slice A zs.length c,.int .i64 cols',.slice A' zs'.length c']) := qaB ((HBR.out.block b hbl1).trans HBK1.out)
  have HRG : Hid (wr.rangeAt b 0 [.int .i64 cols,.slice A zs.length c]) := fun j v hv => HRA.out j v (by
   match j,hv with
   | 0,hv => exact hv
   | 1,hv => exact hv
   | j + 2,hv => simp at hv)
  have HRG' : Hid (wr.rangeAt b 2 [.int .i64 cols',.slice A' zs'.length c']) := fun j v hv => by
   have := HRA.out (2 + j) v (by
    match j,hv with
    | 0,hv => exact hv
    | 1,hv => exact hv
    | j + 2,hv => simp at hv)
   rwa [Nat.zero_add] at this
  by_cases hk0 : k = 0
  . subst hk0
    have HBA : Hid (Below w1.heap.size w1 (wr.alloc (.cells #[.int .i64 cols,.slice A zs.length c] 105))) := HBR.out.alloc HBR.out.size _
    have HCC : Hid (∀ W : World,Below w1.heap.size w1 W -> Calls Tryz.prog 275 #[.pointer (some ⟨gb,0,none⟩),.agg #[.int .i64 cols,.slice A zs.length c]] W fun e w' => e = .returned (.int .i64 0) /\ Below W.heap.size W w') :=
     fun W hW => by
      have := check_c gb p.toNat m.toNat w1.heap.size _ _ cols zs A c W (HG.out.keep hW) hW.size ((HA1.out.keep hW).more hW.size) hlz
      rw [HZ.out] at this
      exact this
    clear HRA HRG'
    go_wp2_with (first | (refine wpList_load_mid rfl 105 (.tmp 22) rfl b 0 rfl [.int .i64 cols,.slice A zs.length c] _ HRG.out Tryz.underlying105 rfl matSize ?_) | (refine qaC rfl 105 (.tmp 9) (.tmp 23) rfl wr _ #[.int .i64 cols,.slice A zs.length c] rfl rfl matSize rfl (by simp [Value.oneCell']) ?_))
    (with_reducible refine (HCC.out _ HBA.out).mono ?_)
    rintro e w3 ⟨rfl,hb3⟩
    have HB3 := Lib.hid (HBA.out.trans (hb3.mono HBA.out.size))
    clear hb3 HBA HCC HRG
    go_wp2_with fail
    go_roundw
    case rel => exact ⟨1,by omega,by go_num,HB3.out⟩
    case measure => simp [intOf]
  . by_cases hk1 : k = 1
    . subst hk1
      have HBA : Hid (Below w1.heap.size w1 (wr.alloc (.cells #[.int .i64 cols',.slice A' zs'.length c'] 105))) := HBR.out.alloc HBR.out.size _
      have HCC : Hid (∀ W : World,Below w1.heap.size w1 W -> Calls Tryz.prog 275 #[.pointer (some ⟨gb,0,none⟩),.agg #[.int .i64 cols',.slice A' zs'.length c']] W fun e w' => e = .returned (.int .i64 0) /\ Below W.heap.size W w') :=
       fun W hW => by
        have := check_c gb p.toNat m.toNat w1.heap.size _ _ cols' zs' A' c' W (HG.out.keep hW) hW.size ((HA1'.out.keep hW).more hW.size) hlz'
        rw [HZ'.out] at this
        exact this
      clear HRA HRG
      go_wp2_with (first | (refine wpList_load_mid rfl 105 (.tmp 22) rfl b 2 rfl [.int .i64 cols',.slice A' zs'.length c'] _ HRG'.out Tryz.underlying105 rfl matSize ?_) | (refine qaC rfl 105 (.tmp 9) (.tmp 23) rfl wr _ #[.int .i64 cols',.slice A' zs'.length c'] rfl rfl matSize rfl (by simp [Value.oneCell']) ?_))
      (with_reducible refine (HCC.out _ HBA.out).mono ?_)
      rintro e w3 ⟨rfl,hb3⟩
      have HB3 := Lib.hid (HBA.out.trans (hb3.mono HBA.out.size))
      clear hb3 HBA HCC HRG'
      go_wp2_with fail
      go_roundw
      case rel => exact ⟨2,by omega,by go_num,HB3.out⟩
      case measure => simp [intOf]
    . obtain rfl : k = 2 := by omega
      clear HRA HRG HRG'
      go_wp2_with fail
      go_ret2
      exact ⟨HB1.out.trans (HBR.out.mono HB1.out.size),gb,rfl,(HG.out.keep HBR.out).more HBR.out.size⟩
end Go.Proofs.YtaddcadapbpkfaaGreatDoor
