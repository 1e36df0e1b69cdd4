/-
 slices.Index, slices.Contains; modify.set of one position, modify.rest. A matrix whose rows are appended one by one; matrix.Columns where nothing is wrong.
-/
import Derived.Test.YtaddcadapbpkfaaGreatDoorR16
namespace Go.Proofs.YtaddcadapbpkfaaGreatDoor
open Go.RowKit Pln
def RelIx (zs : List Int) (x : Int) (w : World) (v : Value) (wr : World) : Prop := ∃ k n : Nat,k <= zs.length /\ v = .int .i64 k /\ x ∉ zs.take k /\ wr = w.drewN n
theorem not_take_succ {zs : List Int} {x : Int} {k : Nat} (hk : k < zs.length) (h : x ∉ zs.take k) (hx : x ≠ zs.getD k 0) : x ∉ zs.take (k + 1) := by
 have e : zs.getD k 0 = zs[k] := by simp [List.getD,hk]
 rw [List.take_succ_eq_append_getElem hk,<- e,List.mem_append,not_or]
 exact ⟨h,by simpa only [List.mem_singleton] using hx⟩
set_option maxHeartbeats 1000000 in
set_option maxRecDepth 100000 in
theorem sindex_c (zs : List Int) (x : Int) (A : Option Addr) (c : Nat) (w : World) (hA : IntsAt w w.heap.size A zs) (hl : zs.length <= 9223372036854775807) :
 Calls Tryz.prog 237 #[.slice A zs.length c,.int .i64 x] w fun e w' => (∃ r : Int,e = .returned (.int .i64 r) /\ (0 <= r ↔ x ∈ zs)) /\ ∃ n,w' = w.drewN n := by
 have HA := Lib.hid hA
 have HST : Hid (∀ k,k < zs.length -> x ∉ zs.take k -> x ≠ zs.getD k 0 -> x ∉ zs.take (k + 1)) := fun k hk h he => not_take_succ hk h he
 have HFD : Hid (∀ k,k < zs.length -> x = zs.getD k 0 -> x ∈ zs) := fun k hk he => by
  have e : zs.getD k 0 = zs[k] := by simp [List.getD,hk]
  rw [he,e]
  exact List.getElem_mem hk
 have HEND : Hid (x ∉ zs.take zs.length -> x ∉ zs) := fun h => by rwa [List.take_length] at h
 clear hA
 go_enter Tryz.func237,Tryz.ntmps237
 go_wp2_with fail
 go_loopw [8] (fun v8 wr => RelIx zs x w v8 wr) (fun v8 _ => zs.length - (intOf v8).toNat)
 case atStart => exact ⟨0,0,by omega,rfl,by simp,rfl⟩
 case round =>
  obtain ⟨k,n,hk,rfl,htk,rfl⟩ := hrel
  have HTK := Lib.hid htk
  clear htk
  by_cases hlt : k < zs.length
  . obtain ⟨b,o,rfl,hb,hc⟩ := HA.out.at_ hlt
    have HN := Lib.hid (HFD.out k hlt)
    have HS := Lib.hid (HST.out k hlt HTK.out)
    generalize zs.getD k 0 = z at *
    have k0 : (0 : Int) <= (k : Int) := by omega
    have k1 : (k : Int) < (zs.length : Int) := by omega
    by_cases hz : x = z
    . have hzb : (x == z) = true := by simp [hz]
      have HN2 := Lib.hid (HN.out hz)
      clear hz
      go_wp2_with fail
      go_ret
      exact ⟨⟨(k : Int),rfl,by simp [HN2.out]⟩,n,by first | rfl | rw [World.drewN_drewN]⟩
    . have hzb : (x == z) = false := by simp [hz]
      have HS2 := Lib.hid (HS.out hz)
      clear hz
      go_wp2_with fail
      go_roundw
      case rel => exact ⟨k + 1,n,by omega,by go_num,HS2.out,by first | rfl | rw [World.drewN_drewN]⟩
      case measure => simp [intOf];omega
  . obtain rfl : k = zs.length := by omega
    have HE := Lib.hid (HEND.out HTK.out)
    go_wp2_with fail
    go_ret
    exact ⟨⟨-1,rfl,by simp [HE.out]⟩,n,rfl⟩
set_option maxHeartbeats 1000000 in
set_option maxRecDepth 100000 in
theorem contains_c (zs : List Int) (x : Int) (A : Option Addr) (c : Nat) (w : World) (hA : IntsAt w w.heap.size A zs) (hl : zs.length <= 9223372036854775807) :
 Calls Tryz.prog 218 #[.slice A zs.length c,.int .i64 x] w (Quiet (.bool (decide (x ∈ zs))) w) := by
 have HI := Lib.hid (sindex_c zs x A c w hA hl)
 clear hA
 go_enter Tryz.func218,Tryz.ntmps218
 go_wp2_with fail
 (with_reducible refine HI.out.mono ?_)
 rintro e w1 ⟨⟨r,rfl,hr⟩,n1,rfl⟩
 go_wp2_with fail
 go_ret
 exact ⟨qaG (by by_cases h : x ∈ zs <;> simp_all),_,rfl⟩
end Go.Proofs.YtaddcadapbpkfaaGreatDoor
namespace Go.Proofs.YtaddcadapbpkfaaGreatDoor
open Go.RowKit Pln
structure OB (w : World) (n : Int) (rows : List (List Nat)) (k : Nat) (v : Value) (bs : List (Nat × Nat)) (W : World) : Prop where
 below : Below w.heap.size w W
 size : w.heap.size < W.heap.size
 box : W.heap[w.heap.size]? = some (.cells [.int .i64 n,v].toArray 105 (0,0))
 grid : LGrid W (w.heap.size + 1) v rows bs k
section
variable {w : World} {n : Int} {rows : List (List Nat)} {k : Nat} {v : Value} {bs : List (Nat × Nat)} {W W' : World}
theorem OB.start (w : World) (n : Int) (rows : List (List Nat)) : OB w n rows 0 (.slice none 0 0) [] (w.alloc (.cells #[.int .i64 n,.slice none 0 0] 105)) :=
 ⟨(Below.refl _ _).alloc (Nat.le_refl _) _,by simp,heap_alloc_new _ _,⟨rfl,Nat.zero_le _,World.ownsRow_nil _ _ _ _,fun i hi => by omega,fun i hi => by omega⟩⟩
theorem LGrid.grow {B : Nat} (h : LGrid W B v rows bs k) (hb : Below W.heap.size W W') : LGrid W' B v rows bs k := by
 refine ⟨h.len,h.le,?_,fun i hi => (h.row i hi).below hb (h.row i hi).lt.2,h.apart⟩
 exact h.out.kept (row := none) ⟨hb.os,hb.tape,hb.output,hb.size,fun j hj _ => hb.block j hj⟩ (by cases v.ownBlock <;> simp)
theorem LGrid.set {B : Nat} (h : LGrid W B v rows bs k) {p : Addr} (hp : p.block < B) (u : Value) : LGrid (W.setCell p u) B v rows bs k := by
 refine ⟨h.len,h.le,?_,fun i hi => (h.row i hi).far (by have := (h.row i hi).lt.1;omega) u,h.apart⟩
 exact h.out.kept (row := some p.block) ⟨rfl,rfl,rfl,by simp,fun j _ hne => Below.heap_setCell W p u j (fun e => hne (by rw [e]))⟩ (by
  cases hv : v.ownBlock with
  | none => exact .inl rfl
  | some b => exact .inr (fun e => by injection e with e;have := (h.out.lt b hv).1;omega))
theorem OB.grow (h : OB w n rows k v bs W) (hb : Below W.heap.size W W') : OB w n rows k v bs W' :=
 ⟨h.below.trans (hb.mono h.below.size),Nat.lt_of_lt_of_le h.size hb.size,(hb.block _ h.size).trans h.box,h.grid.grow hb⟩
theorem OB.cell1 (h : OB w n rows k v bs W) : W.cell? ⟨w.heap.size,1,none⟩ = some v := cell_of_row _ _ 1 _ _ _ h.box
theorem OB.frozen (h : OB w n rows k v bs W) (j : Nat) : W.frozen? ⟨w.heap.size,j,none⟩ = false := by simp [World.frozen?,h.box]
theorem OB.range (h : OB w n rows k v bs W) : W.rangeAt w.heap.size 0 [.int .i64 n,v] := qaB h.box
theorem OB.step {w1 w2 : World} {g c : Nat} {o : Obj} {v' : Value} (h : OB w n rows k v bs W) (hk : k < rows.length) (hb : Below W.heap.size W w1) (hr : Row w1 W.heap.size g c (nz (rows.getD k [])))
 (hown : w2.ownsRow (w.heap.size + 1) 22 1 v' (k + 1) ((List.range k).map (hdr rows bs) ++ [.slice (some ⟨g,0,none⟩) (rows.getD k []).length c])) (hg : (w1.alloc o).grownBy w2 v.ownBlock) (hat : v'.ownBlock = v.ownBlock \/ v'.ownBlock = some (w1.alloc o).heap.size) :
 OB w n rows (k + 1) v' (bs ++ [(g,c)]) (w2.setCell ⟨w.heap.size,1,none⟩ v') := by
 have hsz := h.size
 have h1 := hb.size
 have h2 : w1.heap.size < w2.heap.size := by have := hg.size;simp at this;omega
 have hgl := h.grid.step hk (by omega) hb hr hown hg hat
 have hbx : w2.heap[w.heap.size]? = some (.cells [.int .i64 n,v].toArray 105 (0,0)) := by
  rw [hg.block w.heap.size (by simp;omega) (fun e => by have := (h.grid.out.lt _ e.symm).1;omega),heap_alloc_old _ _ (by omega),hb.block _ hsz]
  exact h.box
 have hbl : Below w.heap.size w w2 := ((h.below.trans (hb.mono (by omega))).alloc (by omega) _).grown hg (by simp;omega) (fun j hj => by have := (h.grid.out.lt _ hj).1;omega)
 exact ⟨hbl.setCell (p := ⟨w.heap.size,1,none⟩) (Nat.le_refl _) _,by simp;omega,by have := qaY hbx 1 v';simpa using this,hgl.set (p := ⟨w.heap.size,1,none⟩) (by show w.heap.size < _;omega) _⟩
theorem OB.own {w1 : World} (h : OB w n rows k v bs W) (hb : Below W.heap.size W w1) (o : Obj) : (w1.alloc o).ownsRow (w.heap.size + 1) 22 1 v k ((List.range k).map (hdr rows bs)) :=
 World.ownsRow.alloc (h.grid.out.kept (row := none) ⟨hb.os,hb.tape,hb.output,hb.size,fun j hj _ => hb.block j hj⟩ (by cases v.ownBlock <;> simp)) _
end
def MatPost (w : World) (n : Int) (rows : List (List Nat)) (e : Ending) (w' : World) : Prop :=
 (∃ (A' : Option Addr) (c' : Nat),e = .returned (.tuple #[.agg #[.int .i64 n,.slice A' rows.length c'],.int .i64 0]) /\ RowsUp w' w.heap.size A' (nzs rows)) /\ Below w.heap.size w w'
def colsM (rows : List (List Nat)) (set : List Nat) : List (List Nat) := rows.map fun r => set.map fun j => r.getD j 0
theorem qdD (rows : List (List Nat)) (set : List Nat) : (colsM rows set).length = rows.length := by simp [colsM]
theorem colsM_getD (rows : List (List Nat)) (set : List Nat) (k : Nat) (hk : k < rows.length) : (colsM rows set).getD k [] = set.map fun j => (rows.getD k []).getD j 0 := by
 simp [colsM,List.getD,hk]
def RelC1 (W : World) (n : Nat) (v35 : Value) (wr : World) : Prop := ∃ k : Nat,k <= n /\ v35 = .int .i64 k /\ Below W.heap.size W wr
def RelC2 (w1 : World) (n : Int) (rows : List (List Nat)) (v55 : Value) (wr : World) : Prop := ∃ (k : Nat) (v : Value) (bs : List (Nat × Nat)),v55 = .int .i64 k /\ k <= rows.length /\ OB w1 n rows k v bs wr
def RelC3 (W : World) (g : Nat) (f : Nat -> Nat) (set : List Nat) (v64 : Value) (wr : World) : Prop := ∃ k : Nat,k <= set.length /\ v64 = .int .i64 k /\ Row wr W.heap.size g set.length (nz (scK f set k)) /\ Below W.heap.size W wr
set_option maxHeartbeats 2000000 in
set_option maxRecDepth 100000 in
theorem columns_c (p m : Int) (mod : List Int) (Am : Option Addr) (cm : Nat) (cols : Int) (rows : List (List Nat)) (A : Option Addr) (c : Nat) (set : List Nat) (As : Option Addr) (cs : Nat) (w : World) (hM : IntsAt w w.heap.size Am mod) (hl : mod.length <= 9223372036854775807)
 (hA : RowsAt w w.heap.size A (nzs rows)) (hlz : rows.length <= 256) (hS : IntsAt w w.heap.size As (nz set)) (herr : errC p m mod cols (nzs rows) = 0) (hset : ∀ j ∈ set,(j : Int) < cols) (h0 : 0 < set.length) (hs : set.length <= 256) (hrl : ∀ r ∈ rows,(r.length : Int) = cols) (_hcol : cols <= 256) :
 Calls Tryz.prog 256 #[.agg #[.int .i64 p,.int .i64 m,.slice Am mod.length cm],.agg #[.int .i64 cols,.slice A rows.length c],.slice As set.length cs] w (MatPost w set.length (colsM rows set)) := by
 obtain ⟨hok,hz⟩ : fieldOK p m mod = true /\ checkZ (p.toNat ^ m.toNat) cols (nzs rows) = 0 := by
  unfold errC at herr
  split at herr
  . exact ⟨by assumption,herr⟩
  . simp at herr
 obtain ⟨i0,hi,hz0,hz1,hz2⟩ := info_parts infoInt
 obtain ⟨i00,hi',hz0',hz1',hz2'⟩ := info_parts infoInts
 have HI := Lib.hid hi
 have HZ0 := Lib.hid hz0
 have HZ1 := Lib.hid hz1
 have HI' := Lib.hid hi'
 have HZ0' := Lib.hid hz0'
 have HZ1' := Lib.hid hz1'
 have HZ2' := Lib.hid hz2'
 have HB2 := Lib.hid (show i0.bytes * set.length <= 281474976710656 by rw [hz2];omega)
 have HB3 := Lib.hid (show set.length <= maxLen by unfold maxLen;omega)
 have HX := Lib.hid ((box3 w p m Am mod.length cm cols A rows.length c 105 #[.int .i64 0,.slice none 0 0]).keep ((Below.refl _ _).alloc (Nat.le_refl _) (.cells #[.int .i64 cols,.slice A rows.length c] 105)))
 have HK3 : Hid (((((w.alloc (.cells #[.int .i64 p,.int .i64 m,.slice Am mod.length cm] 29)).alloc (.cells #[.int .i64 cols,.slice A rows.length c] 105)).alloc (.cells #[.int .i64 0,.slice none 0 0] 105)).alloc (.cells #[.int .i64 cols,.slice A rows.length c] 105)).heap[w.heap.size + 1 + 1 + 1]? = some (.cells #[.int .i64 cols,.slice A rows.length c] 105 (0,0))) := by
  have := heap_alloc_new (((w.alloc (.cells #[.int .i64 p,.int .i64 m,.slice Am mod.length cm] 29)).alloc (.cells #[.int .i64 cols,.slice A rows.length c] 105)).alloc (.cells #[.int .i64 0,.slice none 0 0] 105)) (.cells #[.int .i64 cols,.slice A rows.length c] 105)
  rw [show (((w.alloc (.cells #[.int .i64 p,.int .i64 m,.slice Am mod.length cm] 29)).alloc (.cells #[.int .i64 cols,.slice A rows.length c] 105)).alloc (.cells #[.int .i64 0,.slice none 0 0] 105)).heap.size = w.heap.size + 1 + 1 + 1 by simp] at this
  exact this
 have HM := Lib.hid hM
 have HA := Lib.hid hA
 have HS := Lib.hid hS
 have HSET : Hid (∀ k,k < set.length -> (set.getD k 0 : Int) < cols) := fun k hk => by
  have : set.getD k 0 = set[k] := by simp [List.getD,hk]
  rw [this]
  exact hset _ (List.getElem_mem hk)
 have HRL : Hid (∀ k,k < rows.length -> ((rows.getD k []).length : Int) = cols) := fun k hk => by
  have : rows.getD k [] = rows[k] := by simp [List.getD,hk]
  rw [this]
  exact hrl _ (List.getElem_mem hk)
 have HCL : Hid ((colsM rows set).length = rows.length) := qdD _ _
 have HCG : Hid (∀ k,k < rows.length -> (colsM rows set).getD k [] = set.map fun j => (rows.getD k []).getD j 0) := fun k hk => colsM_getD rows set k hk
 clear hM hA hS hi hz0 hz1 hz2 hi' hz0' hz1' hz2' hset hrl herr
 generalize colsM rows set = out at *
 go_enter Tryz.func256,Tryz.ntmps256
 go_wp2_with fail
 generalize (((w.alloc (.cells #[.int .i64 p,.int .i64 m,.slice Am mod.length cm] 29)).alloc (.cells #[.int .i64 cols,.slice A rows.length c] 105)).alloc (.cells #[.int .i64 0,.slice none 0 0] 105)).alloc (.cells #[.int .i64 cols,.slice A rows.length c] 105) = W0 at *
 have hlz' : (nzs rows).length <= 9223372036854775807 := by rw [qaU];omega
 have HC := Lib.hid (open_c p m mod Am cm cols (nzs rows) A c (w.heap.size + 1 + 1 + 1) 1 W0 ((HM.out.keep HX.out.below).more HX.out.below.size) hl ((HA.out.keep HX.out.below).more HX.out.below.size) hlz' (by rw [qaU];exact HK3.out))
 (with_reducible refine HC.out.mono ?_)
 rintro e w1 ⟨hb1,hcase⟩
 have HX1 := Lib.hid (HX.out.keep hb1)
 have HA1 := Lib.hid ((HA.out.keep HX1.out.below).more HX1.out.below.size)
 have HS1 := Lib.hid ((HS.out.keep HX1.out.below).more HX1.out.below.size)
 clear HX HM HA HC HK3 hb1 HS
 clear W0
 rcases hcase with ⟨hok',_⟩ | ⟨_,hz',_⟩ | ⟨_,_,gb,rfl,hg⟩
 . rw [hok] at hok';cases hok'
 . exact absurd hz hz'
 clear hg hok hz
 have HK1 := Lib.hid HX1.out.k1
 have HK1S : w.heap.size + 1 < w1.heap.size := by have := HX1.out.size;omega
 go_wp2_with fail
 go_loopw [35] (fun v35 wr => RelC1 w1 set.length v35 wr) (fun v35 _ => set.length - (intOf v35).toNat)
 case atStart => exact ⟨0,by omega,rfl,Below.refl _ _⟩
 case round =>
  obtain ⟨k,hk,rfl,hbr⟩ := hrel
  have HBR := Lib.hid hbr
  clear hbr
  by_cases hlt : k < set.length
  . obtain ⟨b,o,rfl,hbl,hc⟩ := (HS1.out.keep HBR.out).at_ (k := k) (by rw [qaI];exact hlt)
    rw [qaN] at hc
    have hjc := HSET.out k hlt
    have c0 : wr.cell? ⟨w.heap.size + 1,0,none⟩ = some (.int .i64 cols) := (HBR.out.cell (p := ⟨w.heap.size + 1,0,none⟩) HK1S).trans (cell_of_row _ _ 0 _ _ _ HK1.out)
    generalize set.getD k 0 = j at *
    have j0 : ((j : Int) < 0) = False := by simp
    have j1 : (cols <= (j : Int)) = False := by simp;omega
    have k0 : (0 : Int) <= (k : Int) := by omega
    have k1 : (k : Int) < (set.length : Int) := by omega
    go_wp2_with fail
    go_roundw
    case rel => exact ⟨k + 1,by omega,by go_num,HBR.out⟩
    case measure => simp [intOf];omega
  . obtain rfl : k = set.length := by omega
    have hws := HBR.out.size
    have HO0 : Hid (OB wr set.length out 0 (.slice none 0 0) [] (wr.alloc (.cells #[.int .i64 (set.length : Int),.slice none 0 0] 105))) := OB.start wr _ out
    obtain ⟨w2,rfl⟩ : ∃ w2,w2 = wr := ⟨wr,rfl⟩
    have HA2 := Lib.hid ((HA1.out.keep HBR.out).more HBR.out.size)
    have HS2 := Lib.hid ((HS1.out.keep HBR.out).more HBR.out.size)
    have HX2 := Lib.hid (HX1.out.keep HBR.out)
    have a1 : w2.cell? ⟨w.heap.size + 1,1,none⟩ = some (.slice A rows.length c) := cell_of_row _ _ 1 _ _ _ HX2.out.k1
    have HK1S2 : w.heap.size + 1 < w2.heap.size := by omega
    clear HX1 HA1 HS1 HBR HK1
    go_wp2_with (refine qaC rfl 105 (.tmp 12) (.tmp 51) rfl w2 _ #[.int .i64 (set.length : Int),.slice none 0 0] rfl rfl matSize rfl (by simp [Value.oneCell']) ?_)
    generalize w2.alloc (.cells #[.int .i64 (set.length : Int),.slice none 0 0] 105) = W2 at *
    go_loopw [55] (fun v55 wr => RelC2 w2 set.length out v55 wr) (fun v55 _ => rows.length - (intOf v55).toNat)
    case atStart => exact ⟨0,_,_,rfl,by omega,HO0.out⟩
    case round =>
     obtain ⟨k,v,bs,rfl,hk,hob⟩ := hrel
     have HOB := Lib.hid hob
     clear hob hk HO0
     have hkl : k <= rows.length := by have := HOB.out.grid.le;rw [HCL.out] at this;exact this
     by_cases hlt : k < rows.length
     . obtain ⟨b,o,Ai,ci,rfl,hbl,hc,hi⟩ := (HA2.out.keep HOB.out.below).at_ (i := k) (by rw [qaU];exact hlt)
       rw [qbZ] at hc hi
       rw [qaI] at hc
       have hrl := HRL.out k hlt
       have HRI := Lib.hid (hi.more HOB.out.below.size)
       have HOG := HCG.out k hlt
       have k0 : (0 : Int) <= (k : Int) := by omega
       have k1 : (k : Int) < (rows.length : Int) := by omega
       clear hi
       generalize rows.getD k [] = row at *
       obtain ⟨w4,rfl⟩ : ∃ w4,w4 = wr := ⟨wr,rfl⟩
       go_wp2_with (refine wpList_make_full w4 rfl (.tmp 60) (.tmp 60) 22 rfl w4.heap.size 3 i0 (.int .i64 0) 1 Tryz.underlying22 HI.out HZ0.out HZ1.out .i64 .i64 set.length set.length set.length rfl rfl rfl rfl HB2.out HB3.out (Nat.le_refl _) ?_;intro w5 hown hgr)
       have HL0 : Hid (RelC3 w4 w4.heap.size (fun j => row.getD j 0) set (.int .i64 ((0 : Nat) : Int)) w5) := ⟨0,by omega,rfl,by have := Row.of_make hown;exact this,qbJ hgr⟩
       clear hown hgr hc
       go_loopw [64] (fun v64 wr => RelC3 w4 w4.heap.size (fun j => row.getD j 0) set v64 wr) (fun v64 _ => set.length - (intOf v64).toNat)
       case atStart => exact HL0.out
       case round =>
        obtain ⟨t,ht,rfl,hrow,hb⟩ := hrel
        have HR := Lib.hid hrow
        have HB := Lib.hid hb
        clear hrow hb HL0
        by_cases htl : t < set.length
        . obtain ⟨b,o,rfl,hbl,hc⟩ := ((HS2.out.keep HOB.out.below).more HOB.out.below.size |>.keep HB.out).at_ (k := t) (by rw [qaI];exact htl)
          rw [qaN] at hc
          have hjc := HSET.out t htl
          have HST := Lib.hid (scK_set (fun j => row.getD j 0) set t htl)
          have f0 := HR.out.frozen t
          have c0 := HR.out.cell (j := t) (by rw [qaI,scK_len _ set t ht];exact htl)
          generalize set.getD t 0 = j at *
          have hjr : j < row.length := by omega
          obtain ⟨br,or',rfl,hbr,hcr⟩ := (HRI.out.keep HB.out).at_ (k := j) (by rw [qaI];exact hjr)
          rw [qaN] at hcr
          have t0 : (0 : Int) <= (t : Int) := by omega
          have t1 : (t : Int) < (set.length : Int) := by omega
          have j0 : (0 : Int) <= (j : Int) := by omega
          have j1 : (j : Int) < (row.length : Int) := by omega
          generalize hz : row.getD j 0 = z at *
          go_wp2_with fail
          go_roundw
          case rel =>
           refine ⟨t + 1,by omega,by go_num,?_,HB.out.setCell (p := ⟨w4.heap.size,t,none⟩) (Nat.le_refl _) _⟩
           rw [<- HST.out,<- qeH]
           exact Row.set HR.out t _
          case measure => simp [intOf];omega
        . obtain rfl : t = set.length := by omega
          have HRW : Hid (Row wr w4.heap.size w4.heap.size set.length (nz (out.getD k []))) := by
           have := HR.out
           unfold scK at this
           rw [Nat.sub_self,List.replicate_zero,List.append_nil,List.take_length] at this
           show Row _ _ _ _ _
           rw [HOG]
           exact this
          have hol : (out.getD k []).length = set.length := by rw [HOG];simp
          obtain ⟨w6,rfl⟩ : ∃ w6,w6 = wr := ⟨wr,rfl⟩
          have y1 := (HOB.out.grow HB.out).cell1
          have HOW := Lib.hid (HOB.out.own HB.out (.cells #[.slice (some ⟨w4.heap.size,0,none⟩) set.length set.length] 22))
          obtain ⟨VA,ck,rfl,_⟩ := qbC HOB.out.grid.out
          have hws := HOB.out.size
          have hws2 := HB.out.size
          have HFZ := (HOB.out.grow HB.out).frozen 1
          clear HR
          go_wp2_with (at_builtin;refine wpList_append_own_at _ rfl (.tmp 78) (.tmp 80) 33 rfl (w2.heap.size + 1) 22 i00 _ 1 24 Tryz.underlying33 HI'.out HZ0'.out HZ1'.out HZ2'.out rfl (by decide) (.slice VA k ck) k ((List.range k).map (hdr out bs)) rfl HOW.out ⟨w6.heap.size,0,none⟩ 1 1 [.slice (some ⟨w4.heap.size,0,none⟩) set.length set.length] rfl rfl ?c1 ?c2 ?c3 ?c4 ?c5 ?_)
          case c1 => exact World.news_of_block (cs := #[.slice (some ⟨w4.heap.size,0,none⟩) set.length set.length]) (t := 22) (fr := (0,0)) (heap_alloc_new w6 _)
          case c2 => intro u hu;simp at hu;subst hu;rfl
          case c3 => unfold maxLen;omega
          case c4 => omega
          case c5 => simp;omega
          intro v' w7 hown' hgw _ hat
          obtain ⟨VA',ck',rfl,_⟩ := qbC hown'
          have HX3 := Lib.hid (HOB.out.step (g := w4.heap.size) (c := set.length) (by rw [HCL.out];exact hlt) HB.out HRW.out (by rw [hol];exact hown') hgw (by simpa using hat))
          have y2 : w7.cell? ⟨w2.heap.size,1,none⟩ = some (.slice VA k ck) := by
           have hb7 : w7.heap[w2.heap.size]? = (w6.alloc (.cells #[.slice (some ⟨w4.heap.size,0,none⟩) set.length set.length] 22)).heap[w2.heap.size]? := hgw.block _ (by simp;omega) (fun e => by have := (HOB.out.grid.out.lt _ e.symm).1;omega)
           rw [heap_alloc_old _ _ (by omega),(HOB.out.grow HB.out).box] at hb7
           exact cell_of_row _ _ 1 _ _ _ hb7
          have y3 : w7.frozen? ⟨w2.heap.size,1,none⟩ = false := by
           have hb7 : w7.heap[w2.heap.size]? = (w6.alloc (.cells #[.slice (some ⟨w4.heap.size,0,none⟩) set.length set.length] 22)).heap[w2.heap.size]? := hgw.block _ (by simp;omega) (fun e => by have := (HOB.out.grid.out.lt _ e.symm).1;omega)
           rw [heap_alloc_old _ _ (by omega),(HOB.out.grow HB.out).box] at hb7
           simp [World.frozen?,hb7]
          clear hown' hgw hat HOW y1 HFZ
          go_wp2_with fail
          go_roundw
          case rel => exact ⟨k + 1,_,_,by go_num,by rw [HCL.out];omega,HX3.out⟩
          case measure => simp [intOf];omega
     . obtain rfl : k = rows.length := by omega
       obtain ⟨VA,ck,rfl,_⟩ := qbC HOB.out.grid.out
       have HX3 := Lib.hid (HX2.out.keep HOB.out.below)
       have HK22 := Lib.hid HX3.out.k2
       have HY := Lib.hid (HX3.out.set #[.int .i64 (set.length : Int),.slice VA rows.length ck])
       have HRG := Lib.hid HOB.out.range
       have HRU : Hid (RowsUp wr (w2.heap.size + 1) VA (nzs out)) := by
        have hgd := HOB.out.grid
        rw [<- HCL.out] at hgd
        exact hgd.up
       have hX2S : w.heap.size + 1 + 1 < w2.heap.size + 1 := by omega
       clear HX2 a1 HOB HA2 HS2
       go_wp2_with (first | (refine wpList_load_mid rfl 105 (.tmp 12) rfl w2.heap.size 0 rfl [.int .i64 (set.length : Int),.slice VA rows.length ck] _ HRG.out Tryz.underlying105 rfl matSize ?_) | (refine qaA rfl 105 (.tmp 6) (.tmp 84) rfl wr (w.heap.size + 1 + 1) 105 #[.int .i64 0,.slice none 0 0] #[.int .i64 (set.length : Int),.slice VA rows.length ck] rfl rfl HK22.out matSize rfl (by simp [Value.oneCell']) ?_))
       refine bodyPost_ret (qaE (P := Tryz.prog) rfl _ _ (w.heap.size + 1 + 1) 105 #[.int .i64 (set.length : Int),.slice VA rows.length ck] (0,0) _ _ rfl rfl HY.out.k2 Tryz.underlying105 rfl matSize) rfl ?_
       exact ⟨⟨VA,ck,by rw [HCL.out];rfl,((HRU.out.setRow hX2S _).lower (by omega))⟩,HY.out.below⟩
end Go.Proofs.YtaddcadapbpkfaaGreatDoor
