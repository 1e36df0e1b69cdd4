/-
 space.Supported where one position lies outside and nothing is wrong. modify.positions, modify.keep where nothing is wrong.
-/
import Derived.Test.YtaddcadapbpkfaaGreatDoorR30
import Derived.Test.YtaddcadapbpkfaaGreatDoorR21
namespace Go.Proofs.YtaddcadapbpkfaaGreatDoor
open Go.RowKit Pln
def supM (O : Ops) (rows : List (List Nat)) (q0 cols : Nat) : List (List Nat) := canonM O (mulMat O (kerM O [rows.map fun r => r.getD q0 0] rows.length) rows cols) cols
theorem colsM_one (rows : List (List Nat)) (q0 : Nat) : (colsM rows [q0]).map (fun r => r.getD 0 0) = rows.map fun r => r.getD q0 0 := by
 unfold colsM
 rw [List.map_map]
 rfl
theorem MatPost.len {w : World} {n : Int} {rows : List (List Nat)} {e : Ending} {w' : World} (h : MatPost w n rows e w') {k : Nat} (hk : rows.length = k) : (∃ (A' : Option Addr) (c' : Nat),e = .returned (.tuple #[.agg #[.int .i64 n,.slice A' k c'],.int .i64 0]) /\ RowsUp w' w.heap.size A' (nzs rows)) /\ Below w.heap.size w w' := by subst hk;exact h
def RelS1 (w2 : World) (n : Nat) (v32 : Value) (wr : World) : Prop := ∃ k : Nat,k <= n /\ v32 = .int .i64 k /\ wr = w2
def RelS2 (w2 : World) (set : List Nat) (n : Nat) (v12 v62 : Value) (wr : World) : Prop := ∃ c : Nat,c <= n /\ v62 = .int .i64 c /\ Num wr w2.heap.size v12 (freeC set c) /\ Below w2.heap.size w2 wr
set_option maxHeartbeats 4000000 in
set_option maxRecDepth 100000 in
theorem supported_c (p m : Int) (mod : List Int) (Am : Option Addr) (cm : Nat) (cols : Nat) (rows : List (List Nat)) (A : Option Addr) (c : Nat) (set : List Nat) (As : Option Addr) (cs q0 : Nat) (w : World) (hM : IntsAt w w.heap.size Am mod) (hl : mod.length <= 1000000)
 (hA : RowsAt w w.heap.size A (nzs rows)) (hS : IntsAt w w.heap.size As (nz set)) (h1 : 1 <= cols) (hn0 : 0 < rows.length) (hsp : spZ p m mod cols (nzs rows) = 0) (hset : ∀ k,k < set.length -> set.getD k 0 < cols) (hasc : ∀ k,k + 1 < set.length -> set.getD k 0 < set.getD (k + 1) 0) (hsl : set.length <= 256)
 (hq : freeC set cols = [q0]) (hcol : cols <= 256) (e0 : errC p m mod cols (nzs rows) = 0) (e1 : errC p m mod 1 (nzs (colsM rows [q0])) = 0) (e2 : errC p m mod rows.length (nzs [rows.map fun r => r.getD q0 0]) = 0) (e3 : errC p m mod rows.length (nzs (kerM (opsT p.toNat m.toNat (lOf p m mod)) [rows.map fun r => r.getD q0 0] rows.length)) = 0)
 (e4 : errC p m mod cols (nzs (mulMat (opsT p.toNat m.toNat (lOf p m mod)) (kerM (opsT p.toNat m.toNat (lOf p m mod)) [rows.map fun r => r.getD q0 0] rows.length) rows cols)) = 0) :
 Calls Tryz.prog 193 #[.agg #[.int .i64 p,.int .i64 m,.slice Am mod.length cm],.agg #[.int .i64 (cols : Int),.slice A rows.length c],.slice As set.length cs] w (MatPost w cols (supM (opsT p.toNat m.toNat (lOf p m mod)) rows q0 cols)) := by
 obtain ⟨_,_,hgr,_,_,hn⟩ := qdF e0
 rw [Int.toNat_natCast] at hgr
 obtain ⟨i0,hi,hz0,hz1,hz2⟩ := info_parts infoInt
 have HI := Lib.hid hi
 have HZ0 := Lib.hid hz0
 have HZ1 := Lib.hid hz1
 have HZ2 := Lib.hid hz2
 have HX := Lib.hid (box3 w p m Am mod.length cm cols A rows.length c 105 #[.int .i64 0,.slice none 0 0])
 have HM := Lib.hid hM
 have HA := Lib.hid hA
 have HS := Lib.hid hS
 have HSET := Lib.hid hset
 have HASC := Lib.hid hasc
 have HQ := Lib.hid hq
 have HE0 := Lib.hid e0
 have HE1 := Lib.hid e1
 have HE2 := Lib.hid e2
 have HE3 := Lib.hid e3
 have HE4 := Lib.hid e4
 have HSP := Lib.hid hsp
 have HGR := Lib.hid hgr
 have hq0 : q0 < cols := by
  have : q0 ∈ freeC set cols := by rw [hq];simp
  have := (List.mem_filter.1 this).1
  simpa using this
 have hfl : (freeC set cols).length = 1 := by rw [hq];rfl
 have HSUP : Hid (supM (opsT p.toNat m.toNat (lOf p m mod)) rows q0 cols = canonM (opsT p.toNat m.toNat (lOf p m mod)) (mulMat (opsT p.toNat m.toNat (lOf p m mod)) (kerM (opsT p.toNat m.toNat (lOf p m mod)) [rows.map fun r => r.getD q0 0] rows.length) rows cols) cols) := rfl
 clear hM hA hS hset hasc hq e0 e1 e2 e3 e4 hsp hi hz0 hz1 hz2 hgr
 go_enter Tryz.func193,Tryz.ntmps193
 go_wp2_with fail
 generalize ((w.alloc (.cells #[.int .i64 p,.int .i64 m,.slice Am mod.length cm] 29)).alloc (.cells #[.int .i64 (cols : Int),.slice A rows.length c] 105)).alloc (.cells #[.int .i64 0,.slice none 0 0] 105) = W0 at *
 have HC := Lib.hid (sopen_c p m mod Am cm cols (nzs rows) A c W0 ((HM.out.keep HX.out.below).more HX.out.below.size) (by omega) ((HA.out.keep HX.out.below).more HX.out.below.size) (by rw [qaU];omega) (by omega))
 rw [HSP.out,qaU] at HC
 (with_reducible refine HC.out.mono ?_)
 rintro e w1 ⟨hb1,v0,v1,v2,v3,hone,rfl⟩
 have HBA : Hid (Below w1.heap.size w1 (w1.alloc (.cells #[v0,v1,v2,v3] 252))) := (Below.refl _ _).alloc (Nat.le_refl _) _
 have HX2 := Lib.hid ((HX.out.keep hb1).keep HBA.out)
 have HM2 := Lib.hid ((HM.out.keep HX2.out.below).more HX2.out.below.size)
 have HA2 := Lib.hid ((HA.out.keep HX2.out.below).more HX2.out.below.size)
 have HS2 := Lib.hid ((HS.out.keep HX2.out.below).more HX2.out.below.size)
 clear hb1 HM HA HS HC
 go_upto_region 4 with (refine qaC rfl 252 (.tmp 8) (.tmp 24) rfl w1 _ #[v0,v1,v2,v3] rfl rfl viewSize rfl hone ?_)
 generalize w1.alloc (.cells #[v0,v1,v2,v3] 252) = w2 at *
 clear HBA HX hone
 generalize w1.heap.size = b8 at *
 have a0 : w2.cell? ⟨w.heap.size + 1,0,none⟩ = some (.int .i64 (cols : Int)) := cell_of_row _ _ 0 _ _ _ HX2.out.k1
 go_wp2_with fail
 go_loopw [32] (fun v32 wr => RelS1 w2 set.length v32 wr) (fun v32 _ => set.length - (intOf v32).toNat)
 case atStart => exact ⟨0,by omega,rfl,rfl⟩
 case round =>
  obtain ⟨k,hk,rfl,rfl⟩ := hrel
  by_cases hlt : k < set.length
  . obtain ⟨b,o,rfl,hbl,hc⟩ := HS2.out.at_ (k := k) (by rw [qaI];exact hlt)
    rw [qaN] at hc
    have hjc := HSET.out k hlt
    have j0 : ((set.getD k 0 : Nat) : Int) < 0 ↔ False := by simp
    have j1 : (cols : Int) <= ((set.getD k 0 : Nat) : Int) ↔ False := ⟨fun h => by omega,False.elim⟩
    have k0 : (0 : Int) <= (k : Int) := by omega
    have k1 : (k : Int) < (set.length : Int) := by omega
    by_cases hk0 : k = 0
    . subst hk0
      rw [Nat.add_zero] at hc
      generalize set.getD 0 0 = j at *
      go_wp2_with fail
      go_roundw
      case rel => exact ⟨1,by omega,by go_num,rfl⟩
      case measure => simp [intOf];omega
    . obtain ⟨t,rfl⟩ : ∃ t,k = t + 1 := ⟨k - 1,by omega⟩
      obtain ⟨b',o',e,hbl',hc'⟩ := HS2.out.at_ (k := t) (by rw [qaI];omega)
      injection e with e
      injection e with e1 e2 _
      subst e1 e2
      rw [qaN] at hc'
      have has := HASC.out t hlt
      have j2 : ((set.getD (t + 1) 0 : Nat) : Int) <= ((set.getD t 0 : Nat) : Int) ↔ False := ⟨fun h => by omega,False.elim⟩
      generalize set.getD (t + 1) 0 = j at *
      generalize set.getD t 0 = j' at *
      go_wp2_with fail
      go_roundw
      case rel => exact ⟨t + 1 + 1,by omega,by go_num,rfl⟩
      case measure => simp [intOf];omega
  . obtain rfl : k = set.length := by omega
    obtain ⟨w2,rfl⟩ : ∃ w',w' = wr := ⟨wr,rfl⟩
    go_wp2_with fail
    go_loopw [12,62] (fun v12 v62 wr => RelS2 w2 set cols v12 v62 wr) (fun _ v62 _ => cols - (intOf v62).toNat)
    case atStart => exact ⟨0,by omega,rfl,Num.nil _ _,Below.refl _ _⟩
    case round =>
     obtain ⟨t,ht,rfl,hnum,hb⟩ := hrel
     obtain ⟨VA,ck,rfl⟩ := hnum.slice
     have HNU := Lib.hid hnum
     have HB := Lib.hid hb
     have hbs := hb.size
     clear hnum hb
     by_cases hlt : t < cols
     . have HCT : Hid (Calls Tryz.prog 218 #[.slice As set.length cs,.int .i64 (t : Int)] wr (Quiet (.bool (decide (t ∈ set))) wr)) := by
        have := contains_c (nz set) t As cs wr ((HS2.out.keep HB.out).more hbs) (by rw [qaI];omega)
        rw [qaI,show decide ((t : Int) ∈ nz set) = decide (t ∈ set) by simp [mem_nz]] at this
        exact this
       by_cases hp : t ∈ set
       . rw [decide_eq_true hp] at HCT
         have HFS : Hid (freeC set (t + 1) = freeC set t) := by show _ = _;rw [qcK,if_pos hp,List.append_nil]
         clear hp
         go_wp2_with fail
         (with_reducible refine HCT.out.mono ?_)
         rintro e w3 ⟨rfl,k,rfl⟩
         have HB3 : Hid (Below wr.heap.size wr (wr.drewN k)) := qaK (Below.refl _ _) k
         generalize wr.drewN k = w4 at *
         go_wp2_with fail
         go_roundw
         case rel => exact ⟨t + 1,by omega,by go_num,by rw [HFS.out];exact HNU.out.grow HB3.out,HB.out.trans (HB3.out.mono hbs)⟩
         case measure => simp [intOf];omega
       . rw [decide_eq_false hp] at HCT
         have HFS : Hid (freeC set (t + 1) = freeC set t ++ [t]) := by show _ = _;rw [qcK,if_neg hp]
         have hfl2 := qeR set t
         clear hp
         go_wp2_with fail
         (with_reducible refine HCT.out.mono ?_)
         rintro e w3 ⟨rfl,k,rfl⟩
         have HB3 : Hid (Below wr.heap.size wr (wr.drewN k)) := qaK (Below.refl _ _) k
         have HN4 := Lib.hid (HNU.out.grow HB3.out)
         have HB4 := Lib.hid (HB.out.trans (HB3.out.mono hbs))
         clear HNU HB HB3
         generalize wr.drewN k = w4 at *
         have hb4 := HB4.out.size
         have HOW : Hid ((w4.alloc (.cells #[.int .i64 (t : Int)] 3)).ownsRow w2.heap.size 3 1 (.slice VA (freeC set t).length ck) (freeC set t).length ((nz (freeC set t)).map (Value.int .i64))) := World.ownsRow.alloc HN4.out _
         go_wp2_with (at_builtin;refine wpList_append_own_at _ rfl (.tmp 69) (.tmp 71) 22 rfl w2.heap.size 3 i0 _ 1 8 Tryz.underlying22 HI.out HZ0.out HZ1.out HZ2.out rfl (by decide) (.slice VA (freeC set t).length ck) (freeC set t).length ((nz (freeC set t)).map (Value.int .i64)) rfl HOW.out ⟨w4.heap.size,0,none⟩ 1 1 [.int .i64 (t : Int)] rfl rfl ?d1 ?d2 ?d3 ?d4 ?d5 ?_)
         case d1 => exact World.news_of_block (cs := #[.int .i64 (t : Int)]) (t := 3) (fr := (0,0)) (heap_alloc_new w4 _)
         case d2 => intro u hu;simp at hu;subst hu;rfl
         case d3 => unfold maxLen;omega
         case d4 => omega
         case d5 => simp;omega
         intro v' w7 hown' hgw _ hat
         have HN7 : Hid (Num w7 w2.heap.size v' (freeC set (t + 1))) := by
          show Num _ _ _ _
          rw [HFS.out]
          exact Num.step hown'
         have HB7 : Hid (Below w2.heap.size w2 w7) := (HB4.out.alloc (by omega) _).grown hgw (by simp;omega) (fun j hj => (World.ownsRow.lt HN4.out j hj).1)
         clear hown' hgw hat HOW
         go_wp2_with fail
         go_roundw
         case rel => exact ⟨t + 1,by omega,by go_num,HN7.out,HB7.out⟩
         case measure => simp [intOf];omega
     . obtain rfl : t = cols := by omega
       have HUP : Hid (IntsAt wr wr.heap.size VA (nz (freeC set t))) := HNU.out.up.ints
       rw [HQ.out] at HUP
       rw [hfl]
       have HX3 := Lib.hid (HX2.out.keep HB.out)
       have HM3 := Lib.hid ((HM2.out.keep HB.out).more hbs)
       have HA3 := Lib.hid ((HA2.out.keep HB.out).more hbs)
       clear HNU HB HS2 HM2 HA2 HX2 a0 hbs
       obtain ⟨w3,rfl⟩ : ∃ w',w' = wr := ⟨wr,rfl⟩
       have HRF : Hid (w3.rangeAt w.heap.size 0 [.int .i64 p,.int .i64 m,.slice Am mod.length cm]) := qaB HX3.out.k0
       have HRM : Hid (w3.rangeAt (w.heap.size + 1) 0 [.int .i64 (t : Int),.slice A rows.length c]) := qaB HX3.out.k1
       have HC1 : Hid (Calls Tryz.prog 256 #[.agg #[.int .i64 p,.int .i64 m,.slice Am mod.length cm],.agg #[.int .i64 (t : Int),.slice A rows.length c],.slice VA 1 ck] w3 (MatPost w3 1 (colsM rows [q0]))) := columns_c p m mod Am cm t rows A c [q0] VA ck w3 HM3.out (by omega) HA3.out hn HUP.out HE0.out (fun j hj => by simp at hj;omega) (by simp) (by simp) (fun r hr => by rw [(HGR.out.2 r hr).1]) (by omega)
       clear HUP
       go_wp2_with (first | (refine wpList_load_mid rfl 29 (.tmp 3) rfl w.heap.size 0 rfl [.int .i64 p,.int .i64 m,.slice Am mod.length cm] _ HRF.out Tryz.underlying29 rfl fieldSize ?_) | (refine wpList_load_mid rfl 105 (.tmp 4) rfl (w.heap.size + 1) 0 rfl [.int .i64 (t : Int),.slice A rows.length c] _ HRM.out Tryz.underlying105 rfl matSize ?_))
       (with_reducible refine HC1.out.mono ?_)
       rintro e w4 hpost
       obtain ⟨⟨A1,c1,rfl,hr4⟩,hb4⟩ := hpost.len (qdD rows [q0])
       have hs4 := hb4.size
       have HB5 : Hid (Below w3.heap.size w3 (w4.alloc (.cells #[.int .i64 1,.slice A1 rows.length c1] 105))) := hb4.alloc hs4 _
       have HK5 : Hid ((w4.alloc (.cells #[.int .i64 1,.slice A1 rows.length c1] 105)).heap[w4.heap.size]? = some (.cells [.int .i64 1,.slice A1 rows.length c1].toArray 105 (0,0))) := heap_alloc_new _ _
       have HR5 := Lib.hid (hr4.grow ((Below.refl _ _).alloc (Nat.le_refl _) (.cells #[.int .i64 1,.slice A1 rows.length c1] 105)))
       have HZ5 : Hid ((w4.alloc (.cells #[.int .i64 1,.slice A1 rows.length c1] 105)).heap.size = w4.heap.size + 1) := by show _ = _;simp
       clear hpost hr4 hb4 HC1 HRF HRM
       go_upto_region 20 with (refine qaC rfl 105 (.tmp 14) (.tmp 79) rfl w4 _ #[.int .i64 1,.slice A1 rows.length c1] rfl rfl matSize rfl (by simp [Value.oneCell']) ?_)
       generalize w4.alloc (.cells #[.int .i64 1,.slice A1 rows.length c1] 105) = w5 at *
       have HRF : Hid (w5.rangeAt w.heap.size 0 [.int .i64 p,.int .i64 m,.slice Am mod.length cm]) := qaB (HX3.out.keep HB5.out).k0
       have HRM : Hid (w5.rangeAt (w.heap.size + 1) 0 [.int .i64 (t : Int),.slice A rows.length c]) := qaB (HX3.out.keep HB5.out).k1
       have HMW : Hid (IntsAt w5 w5.heap.size Am mod) := (HM3.out.keep HB5.out).more HB5.out.size
       have HRB : Hid (w5.rangeAt w4.heap.size 0 [.int .i64 1,.slice A1 rows.length c1]) := qaB HK5.out
       have HC2 := Lib.hid (transpose_c p m mod Am cm (colsM rows [q0]) A1 c1 w5 HMW.out (by omega) HR5.out.rowsAt (by rw [qdD];exact hn) (by rw [qdD];exact hn0) HE1.out (fun r hr => by unfold colsM at hr;obtain ⟨r',_,rfl⟩ := List.mem_map.1 hr;simp))
       rw [qdD,colsM_one] at HC2
       go_wp2_with (first | (refine wpList_load_mid rfl 29 (.tmp 3) rfl w.heap.size 0 rfl [.int .i64 p,.int .i64 m,.slice Am mod.length cm] _ HRF.out Tryz.underlying29 rfl fieldSize ?_) | (refine wpList_load_mid rfl 105 (.tmp 14) rfl w4.heap.size 0 rfl [.int .i64 1,.slice A1 rows.length c1] _ HRB.out Tryz.underlying105 rfl matSize ?_))
       (with_reducible refine HC2.out.mono ?_)
       rintro e w6 hpost
       obtain ⟨⟨A2,c2,rfl,hr6⟩,hb6⟩ := hpost.len (k := 1) rfl
       have HB6 := Lib.hid (HB5.out.trans (hb6.mono HB5.out.size))
       have HK6 : Hid (w6.heap[w4.heap.size]? = some (.cells #[.int .i64 1,.slice A1 rows.length c1] 105 (0,0))) := (hb6.block _ (by have := HZ5.out;omega)).trans HK5.out
       have HK7 : Hid ((w6.setRow w4.heap.size #[.int .i64 (rows.length : Int),.slice A2 1 c2]).heap[w4.heap.size]? = some (.cells [.int .i64 (rows.length : Int),.slice A2 1 c2].toArray 105 (0,0))) := qaF _ _ _ _ _ HK6.out
       have HB7 : Hid (Below w3.heap.size w3 (w6.setRow w4.heap.size #[.int .i64 (rows.length : Int),.slice A2 1 c2])) := qaD HB6.out hs4 _
       have HR7 : Hid (RowsUp (w6.setRow w4.heap.size #[.int .i64 (rows.length : Int),.slice A2 1 c2]) w5.heap.size A2 (nzs [rows.map fun r => r.getD q0 0])) := hr6.setRow (show w4.heap.size < w5.heap.size by have := HZ5.out;omega) _
       clear hpost hr6 hb6 HC2 HRF HRM HRB HMW HR5 HK5
       go_upto_region 21 with (refine qaA rfl 105 (.tmp 14) (.tmp 89) rfl w6 w4.heap.size 105 #[.int .i64 1,.slice A1 rows.length c1] #[.int .i64 (rows.length : Int),.slice A2 1 c2] rfl rfl HK6.out matSize rfl (by simp [Value.oneCell']) ?_)
       generalize w6.setRow w4.heap.size #[.int .i64 (rows.length : Int),.slice A2 1 c2] = w7 at *
       have y0 : w7.cell? ⟨w4.heap.size,0,none⟩ = some (.int .i64 (rows.length : Int)) := cell_of_row _ _ 0 _ _ _ HK7.out
       have yf : w7.frozen? ⟨w4.heap.size,0,none⟩ = false := by simp [World.frozen?,HK7.out]
       have y1 : w7.cell? ⟨w.heap.size + 1,1,none⟩ = some (.slice A rows.length c) := cell_of_row _ _ 1 _ _ _ (HX3.out.keep HB7.out).k1
       have HK8 : Hid ((w7.setCell ⟨w4.heap.size,0,none⟩ (.int .i64 (rows.length : Int))).heap[w4.heap.size]? = some (.cells [.int .i64 (rows.length : Int),.slice A2 1 c2].toArray 105 (0,0))) := by
        have := qaY HK7.out 0 (.int .i64 (rows.length : Int))
        exact this
       have HB8 : Hid (Below w3.heap.size w3 (w7.setCell ⟨w4.heap.size,0,none⟩ (.int .i64 (rows.length : Int)))) := HB7.out.setCell (p := ⟨w4.heap.size,0,none⟩) hs4 _
       have HR8 : Hid (RowsUp (w7.setCell ⟨w4.heap.size,0,none⟩ (.int .i64 (rows.length : Int))) w5.heap.size A2 (nzs [rows.map fun r => r.getD q0 0])) := HR7.out.setCell (p := ⟨w4.heap.size,0,none⟩) (show w4.heap.size < w5.heap.size by have := HZ5.out;omega) _
       go_upto_region 22 with fail
       generalize w7.setCell ⟨w4.heap.size,0,none⟩ (.int .i64 (rows.length : Int)) = w8 at *
       clear y0 yf y1
       have HRF : Hid (w8.rangeAt w.heap.size 0 [.int .i64 p,.int .i64 m,.slice Am mod.length cm]) := qaB (HX3.out.keep HB8.out).k0
       have HRM : Hid (w8.rangeAt (w.heap.size + 1) 0 [.int .i64 (t : Int),.slice A rows.length c]) := qaB (HX3.out.keep HB8.out).k1
       have HMW : Hid (IntsAt w8 w8.heap.size Am mod) := (HM3.out.keep HB8.out).more HB8.out.size
       have HRB : Hid (w8.rangeAt w4.heap.size 0 [.int .i64 (rows.length : Int),.slice A2 1 c2]) := qaB HK8.out
       have HC3 : Hid (Calls Tryz.prog 187 #[.agg #[.int .i64 p,.int .i64 m,.slice Am mod.length cm],.agg #[.int .i64 (rows.length : Int),.slice A2 1 c2]] w8 (MatPost w8 rows.length (kerM (opsT p.toNat m.toNat (lOf p m mod)) [rows.map fun r => r.getD q0 0] rows.length))) := by
        have := kernel_c p m mod Am cm rows.length [rows.map fun r => r.getD q0 0] A2 c2 w8 HMW.out (by omega) HR8.out.rowsAt hn0 HE2.out
        exact this
       generalize kerM (opsT p.toNat m.toNat (lOf p m mod)) [rows.map fun r => r.getD q0 0] rows.length = K at *
       go_wp2_with (first | (refine wpList_load_mid rfl 29 (.tmp 3) rfl w.heap.size 0 rfl [.int .i64 p,.int .i64 m,.slice Am mod.length cm] _ HRF.out Tryz.underlying29 rfl fieldSize ?_) | (refine wpList_load_mid rfl 105 (.tmp 14) rfl w4.heap.size 0 rfl [.int .i64 (rows.length : Int),.slice A2 1 c2] _ HRB.out Tryz.underlying105 rfl matSize ?_))
       (with_reducible refine HC3.out.mono ?_)
       rintro e w9 ⟨⟨A3,c3,rfl,hr9⟩,hb9⟩
       have HB9 := Lib.hid (HB8.out.trans (hb9.mono HB8.out.size))
       have HB10 : Hid (Below w3.heap.size w3 (w9.alloc (.cells #[.int .i64 (rows.length : Int),.slice A3 K.length c3] 105))) := HB9.out.alloc HB9.out.size _
       have HK10 : Hid ((w9.alloc (.cells #[.int .i64 (rows.length : Int),.slice A3 K.length c3] 105)).heap[w9.heap.size]? = some (.cells [.int .i64 (rows.length : Int),.slice A3 K.length c3].toArray 105 (0,0))) := heap_alloc_new _ _
       have HR10 := Lib.hid (hr9.grow ((Below.refl _ _).alloc (Nat.le_refl _) (.cells #[.int .i64 (rows.length : Int),.slice A3 K.length c3] 105)))
       clear hr9 hb9 HC3 HRF HRM HRB HMW HR8 HK8 HB8 HR7 HB7 HK7 HK6 HB6
       go_upto_region 25 with (refine qaC rfl 105 (.tmp 16) (.tmp 99) rfl w9 _ #[.int .i64 (rows.length : Int),.slice A3 K.length c3] rfl rfl matSize rfl (by simp [Value.oneCell']) ?_)
       generalize w9.alloc (.cells #[.int .i64 (rows.length : Int),.slice A3 K.length c3] 105) = w10 at *
       have HRF : Hid (w10.rangeAt w.heap.size 0 [.int .i64 p,.int .i64 m,.slice Am mod.length cm]) := qaB (HX3.out.keep HB10.out).k0
       have HRM : Hid (w10.rangeAt (w.heap.size + 1) 0 [.int .i64 (t : Int),.slice A rows.length c]) := qaB (HX3.out.keep HB10.out).k1
       have HMW : Hid (IntsAt w10 w10.heap.size Am mod) := (HM3.out.keep HB10.out).more HB10.out.size
       have HRB : Hid (w10.rangeAt w9.heap.size 0 [.int .i64 (rows.length : Int),.slice A3 K.length c3]) := qaB HK10.out
       have HC4 := Lib.hid (matmul_c p m mod Am cm K A3 c3 t rows A c w10 HMW.out HR10.out.rowsAt ((HA3.out.keep HB10.out).more HB10.out.size) HE3.out HE0.out)
       have HML := Lib.hid (mulMat_len (opsT p.toNat m.toNat (lOf p m mod)) K rows t)
       generalize mulMat (opsT p.toNat m.toNat (lOf p m mod)) K rows t = MM at *
       go_wp2_with (first | (refine wpList_load_mid rfl 29 (.tmp 3) rfl w.heap.size 0 rfl [.int .i64 p,.int .i64 m,.slice Am mod.length cm] _ HRF.out Tryz.underlying29 rfl fieldSize ?_) | (refine wpList_load_mid rfl 105 (.tmp 4) rfl (w.heap.size + 1) 0 rfl [.int .i64 (t : Int),.slice A rows.length c] _ HRM.out Tryz.underlying105 rfl matSize ?_) | (refine wpList_load_mid rfl 105 (.tmp 16) rfl w9.heap.size 0 rfl [.int .i64 (rows.length : Int),.slice A3 K.length c3] _ HRB.out Tryz.underlying105 rfl matSize ?_))
       (with_reducible refine HC4.out.mono ?_)
       rintro e w11 ⟨⟨A4,c4,rfl,hr11⟩,hb11⟩
       have HB11 := Lib.hid (HB10.out.trans (hb11.mono HB10.out.size))
       have HB12 : Hid (Below w3.heap.size w3 (w11.alloc (.cells #[.int .i64 (t : Int),.slice A4 MM.length c4] 105))) := HB11.out.alloc HB11.out.size _
       have HK12 : Hid ((w11.alloc (.cells #[.int .i64 (t : Int),.slice A4 MM.length c4] 105)).heap[w11.heap.size]? = some (.cells [.int .i64 (t : Int),.slice A4 MM.length c4].toArray 105 (0,0))) := heap_alloc_new _ _
       have HR12 := Lib.hid (hr11.grow ((Below.refl _ _).alloc (Nat.le_refl _) (.cells #[.int .i64 (t : Int),.slice A4 MM.length c4] 105)))
       clear hr11 hb11 HC4 HRF HRM HRB HMW HR10 HK10 HB10
       go_upto_region 28 with (refine qaC rfl 105 (.tmp 17) (.tmp 110) rfl w11 _ #[.int .i64 (t : Int),.slice A4 MM.length c4] rfl rfl matSize rfl (by simp [Value.oneCell']) ?_)
       generalize w11.alloc (.cells #[.int .i64 (t : Int),.slice A4 MM.length c4] 105) = w12 at *
       have HRF : Hid (w12.rangeAt w.heap.size 0 [.int .i64 p,.int .i64 m,.slice Am mod.length cm]) := qaB (HX3.out.keep HB12.out).k0
       have HRM : Hid (w12.rangeAt (w.heap.size + 1) 0 [.int .i64 (t : Int),.slice A rows.length c]) := qaB (HX3.out.keep HB12.out).k1
       have HMW : Hid (IntsAt w12 w12.heap.size Am mod) := (HM3.out.keep HB12.out).more HB12.out.size
       have HRB : Hid (w12.rangeAt w11.heap.size 0 [.int .i64 (t : Int),.slice A4 MM.length c4]) := qaB HK12.out
       have HC5 := Lib.hid (canonical2_c p m mod Am cm t MM A4 c4 w12 HMW.out (by omega) HR12.out.rowsAt h1 HE4.out)
       generalize canonM (opsT p.toNat m.toNat (lOf p m mod)) MM t = fin at *
       go_wp2_with (first | (refine wpList_load_mid rfl 29 (.tmp 3) rfl w.heap.size 0 rfl [.int .i64 p,.int .i64 m,.slice Am mod.length cm] _ HRF.out Tryz.underlying29 rfl fieldSize ?_) | (refine wpList_load_mid rfl 105 (.tmp 17) rfl w11.heap.size 0 rfl [.int .i64 (t : Int),.slice A4 MM.length c4] _ HRB.out Tryz.underlying105 rfl matSize ?_))
       (with_reducible refine HC5.out.mono ?_)
       rintro e w13 ⟨⟨R,VA5,c5,rfl,hr13,hpv5⟩,hb13⟩
       clear hpv5
       have HB13 := Lib.hid (HB12.out.trans (hb13.mono HB12.out.size))
       have HB14 : Hid (Below w3.heap.size w3 (w13.alloc (.cells #[.int .i64 (t : Int),.slice (some ⟨R,0,none⟩) fin.length fin.length] 105))) := HB13.out.alloc HB13.out.size _
       have HK14 : Hid ((w13.alloc (.cells #[.int .i64 (t : Int),.slice (some ⟨R,0,none⟩) fin.length fin.length] 105)).heap[w13.heap.size]? = some (.cells [.int .i64 (t : Int),.slice (some ⟨R,0,none⟩) fin.length fin.length].toArray 105 (0,0))) := heap_alloc_new _ _
       have HR14 := Lib.hid (hr13.grow ((Below.refl _ _).alloc (Nat.le_refl _) (.cells #[.int .i64 (t : Int),.slice (some ⟨R,0,none⟩) fin.length fin.length] 105)))
       have hs12 := HB12.out.size
       have hx3 := HX3.out.size
       clear hr13 hb13 HC5 HRF HRM HRB HMW HR12 HK12 HB12
       go_upto_region 29 with (refine qaC rfl 105 (.tmp 18) (.tmp 120) rfl w13 _ #[.int .i64 (t : Int),.slice (some ⟨R,0,none⟩) fin.length fin.length] rfl rfl matSize rfl (by simp [Value.oneCell']) ?_)
       generalize w13.alloc (.cells #[.int .i64 (t : Int),.slice (some ⟨R,0,none⟩) fin.length fin.length] 105) = w14 at *
       have HRB : Hid (w14.rangeAt w13.heap.size 0 [.int .i64 (t : Int),.slice (some ⟨R,0,none⟩) fin.length fin.length]) := qaB HK14.out
       have HX14 := Lib.hid (HX3.out.keep HB14.out)
       have HK22 := Lib.hid HX14.out.k2
       have HY := Lib.hid (HX14.out.set #[.int .i64 (t : Int),.slice (some ⟨R,0,none⟩) fin.length fin.length])
       go_wp2_with (first | (refine wpList_load_mid rfl 105 (.tmp 18) rfl w13.heap.size 0 rfl [.int .i64 (t : Int),.slice (some ⟨R,0,none⟩) fin.length fin.length] _ HRB.out Tryz.underlying105 rfl matSize ?_) | (refine qaA rfl 105 (.tmp 6) (.tmp 123) rfl w14 (w.heap.size + 1 + 1) 105 #[.int .i64 0,.slice none 0 0] #[.int .i64 (t : Int),.slice (some ⟨R,0,none⟩) fin.length fin.length] rfl rfl HK22.out matSize rfl (by simp [Value.oneCell']) ?_))
       refine bodyPost_ret (qaE (P := Tryz.prog) rfl _ _ (w.heap.size + 1 + 1) 105 #[.int .i64 (t : Int),.slice (some ⟨R,0,none⟩) fin.length fin.length] (0,0) _ _ rfl rfl HY.out.k2 Tryz.underlying105 rfl matSize) rfl ?_
       rw [HSUP.out]
       have h9 := HR14.out.setRow (show w.heap.size + 1 + 1 < w12.heap.size + 1 + 1 + 1 by omega) #[.int .i64 (t : Int),.slice (some ⟨R,0,none⟩) fin.length fin.length]
       exact ⟨⟨_,_,rfl,h9.lower (by omega)⟩,HY.out.below⟩
end Go.Proofs.YtaddcadapbpkfaaGreatDoor
namespace Go.Proofs.YtaddcadapbpkfaaGreatDoor
open Go.RowKit Pln
set_option maxHeartbeats 1000000 in
set_option maxRecDepth 100000 in
theorem positions_c (p m : Int) (mod : List Int) (Am : Option Addr) (cm : Nat) (N : Int) (zs : List (List Int)) (A : Option Addr) (c : Nat) (x : Int) (As : Option Addr) (cs : Nat) (w : World) (hM : IntsAt w w.heap.size Am mod) (hl : mod.length <= 9223372036854775807)
 (hA : RowsAt w w.heap.size A zs) (hlz : zs.length <= 9223372036854775807) (hS : IntsAt w w.heap.size As [x]) (hz : codeZ p m mod N zs = 0) (h0 : 0 <= x) (h1 : x < N) (hN : N ≠ 1) :
 Calls Tryz.prog 190 #[.agg #[.int .i64 p,.int .i64 m,.slice Am mod.length cm,.int .i64 N,.slice A zs.length c],.slice As 1 cs] w fun e w' => e = .returned (.int .i64 0) /\ Below w.heap.size w w' := by
 have HX : Hid (SBoxC w [.int .i64 p,.int .i64 m,.slice Am mod.length cm,.int .i64 N,.slice A zs.length c] (w.alloc (.cells #[.int .i64 p,.int .i64 m,.slice Am mod.length cm,.int .i64 N,.slice A zs.length c] 35))) :=
  ⟨heap_alloc_new _ _,(Below.refl _ _).alloc (Nat.le_refl _) _,by simp⟩
 have HM := Lib.hid hM
 have HA := Lib.hid hA
 have HS := Lib.hid hS
 have HZ := Lib.hid hz
 have hNb : ((1 : Int) == N) = false := by rw [beq_eq_false_iff_ne];omega
 clear hM hA hS hz
 go_enter Tryz.func190,Tryz.ntmps190
 go_upto_region 1 with fail
 generalize w.alloc (.cells #[.int .i64 p,.int .i64 m,.slice Am mod.length cm,.int .i64 N,.slice A zs.length c] 35) = W0 at *
 have HRG := Lib.hid HX.out.range
 have HC := Lib.hid (codecheck_c p m mod Am cm N zs A c W0 ((HM.out.keep HX.out.2.1).more HX.out.2.1.size) hl ((HA.out.keep HX.out.2.1).more HX.out.2.1.size) hlz)
 rw [HZ.out] at HC
 go_wp2_with (refine wpList_load_mid rfl 35 (.tmp 2) rfl w.heap.size 0 rfl [.int .i64 p,.int .i64 m,.slice Am mod.length cm,.int .i64 N,.slice A zs.length c] _ HRG.out Tryz.underlying35 rfl codeSize ?_)
 (with_reducible refine HC.out.mono ?_)
 rintro e w1 ⟨rfl,hb1⟩
 have HX1 := Lib.hid (HX.out.grow hb1)
 have HSC := Lib.hid (mset_c x N As cs w1 ((HS.out.keep HX1.out.2.1).more HX1.out.2.1.size) h0 h1)
 have y3 : w1.cell? ⟨w.heap.size,3,none⟩ = some (.int .i64 N) := cell_of_row _ _ 3 _ _ _ HX1.out.1
 clear hb1 HC HRG
 go_wp2_with fail
 (with_reducible refine HSC.out.mono ?_)
 rintro e w2 ⟨rfl,rfl⟩
 go_wp2_with fail
 go_ret
 exact ⟨rfl,HX1.out.2.1⟩
section
variable {P : Program} {S : World -> Prop} {K : Act -> World -> Prop} {o : Oper} {r : List (Nat × Oper)} {a : Act} {w : World}
theorem qcL (hg : o.guard = none) (ty : TypeId) (x y : Operand) (ho : o.op = .store ty x y)
 (b : Nat) (t : TypeId) (c c' : Array Value) (hx : a.eval x = .pointer (some ⟨b,0,none⟩)) (hy : a.eval y = .agg c') (hb : w.heap[b]? = some (.cells c t (0,0)))
 (hi : (P.info? ty).map (·.size) = some c'.size) (hs : c.size = c'.size) (h1 : c'.all (·.oneCell') = true)
 (h : wpMixF P S K r (a.put o.dst undef) (w.setRow b c')) : wpMixF P S K ((3,o) :: r) a w :=
 mixf_store hg (by
  unfold execOp
  simp only [ho,hx,hy,Instr.storeAt,Instr.sureAddr,Sem.run_bind,Sem.run_pure,Result.andThen_ok,run_storeVar_row w b t ty c c' hb hi hs h1]) h
end
theorem BoxC.setA {w : World} {f a r : List Value} {W : World} (h : BoxC w f a r W) (a' : List Value) : BoxC w f a' r (W.setRow (w.heap.size + 1) a'.toArray) :=
 ⟨qaD h.below (by omega) _,by simpa using h.size,(setRow_other W _ _ _ (by omega)).trans h.k0,qaF W _ _ _ _ h.k1,(setRow_other W _ _ _ (by omega)).trans h.k2⟩
set_option maxHeartbeats 2000000 in
set_option maxRecDepth 100000 in
theorem keep_c (p m : Int) (mod : List Int) (Am : Option Addr) (cm : Nat) (cols : Nat) (rows : List (List Nat)) (A : Option Addr) (c x : Nat) (As : Option Addr) (cs : Nat) (w : World) (hM : IntsAt w w.heap.size Am mod) (hm0 : 0 < mod.length) (hl : mod.length <= 1000000)
 (hA : RowsAt w w.heap.size A (nzs rows)) (hS : IntsAt w w.heap.size As (nz [x])) (e0 : errC p m mod cols (nzs rows) = 0) (hk0 : 0 < (freeC [x] cols).length) (e1 : errC p m mod (freeC [x] cols).length (nzs (colsM rows (freeC [x] cols))) = 0) (hN : lengthZ ((freeC [x] cols).length : Int) = 0) :
 Calls Tryz.prog 191 #[.agg #[.int .i64 p,.int .i64 m,.slice Am mod.length cm],.agg #[.int .i64 (cols : Int),.slice A rows.length c],.slice As 1 cs] w (NewPost w p m mod (freeC [x] cols).length (canonM (opsT p.toNat m.toNat (lOf p m mod)) (colsM rows (freeC [x] cols)) (freeC [x] cols).length)) := by
 obtain ⟨_,_,hgr,_,hc1,hn⟩ := qdF e0
 rw [Int.toNat_natCast] at hgr
 have HX : Hid (BoxC w [.int .i64 p,.int .i64 m,.slice Am mod.length cm] [.int .i64 (cols : Int),.slice A rows.length c] [.int .i64 0,.int .i64 0,.slice none 0 0,.int .i64 0,.slice none 0 0] (((w.alloc (.cells #[.int .i64 p,.int .i64 m,.slice Am mod.length cm] 29)).alloc (.cells #[.int .i64 (cols : Int),.slice A rows.length c] 105)).alloc (.cells #[.int .i64 0,.int .i64 0,.slice none 0 0,.int .i64 0,.slice none 0 0] 35))) := boxC w _ _ _
 have HM := Lib.hid hM
 have HA := Lib.hid hA
 have HS := Lib.hid hS
 have HE0 := Lib.hid e0
 have HE1 := Lib.hid e1
 have HN := Lib.hid hN
 have HGR := Lib.hid hgr
 have hfl := qeR [x] cols
 have HFM : Hid (∀ j ∈ freeC [x] cols,(j : Int) < (cols : Int)) := fun j hj => by
  have := (List.mem_filter.1 hj).1
  simp at this
  omega
 clear hM hA hS e0 e1 hN hgr
 have HREST : Hid (∀ W,LSt ((((w.alloc (.cells #[.int .i64 p,.int .i64 m,.slice Am mod.length cm] 29)).alloc (.cells #[.int .i64 (cols : Int),.slice A rows.length c] 105)).alloc (.cells #[.int .i64 0,.int .i64 0,.slice none 0 0,.int .i64 0,.slice none 0 0] 35))) W -> Calls Tryz.prog 194 #[.slice As 1 cs,.int .i64 (cols : Int)] W fun e w' => (∃ VA ck,e = .returned (.slice VA (freeC [x] cols).length ck) /\ IntsUp w' W.heap.size VA (nz (freeC [x] cols))) /\ Below W.heap.size W w') := fun W hW =>
  rest_c [x] cols As cs W ((HS.out.keep (HX.out.below.trans (Below.mono hW HX.out.below.size))).more (Nat.le_trans HX.out.below.size hW.size)) (by simp) (by omega)
 generalize freeC [x] cols = fr at *
 go_enter Tryz.func191,Tryz.ntmps191
 go_upto_region 1 with fail
 generalize ((w.alloc (.cells #[.int .i64 p,.int .i64 m,.slice Am mod.length cm] 29)).alloc (.cells #[.int .i64 (cols : Int),.slice A rows.length c] 105)).alloc (.cells #[.int .i64 0,.int .i64 0,.slice none 0 0,.int .i64 0,.slice none 0 0] 35) = W0 at *
 have HRF : Hid (∀ W,LSt W0 W -> W.rangeAt w.heap.size 0 [.int .i64 p,.int .i64 m,.slice Am mod.length cm]) := fun W hW => qaB (HX.out.keep hW).k0
 have HRM : Hid (∀ W,LSt W0 W -> W.rangeAt (w.heap.size + 1) 0 [.int .i64 (cols : Int),.slice A rows.length c]) := fun W hW => qaB (HX.out.keep hW).k1
 have HCV : Hid (∀ W,LSt W0 W -> W.cell? ⟨w.heap.size + 1,0,none⟩ = some (.int .i64 (cols : Int))) := fun W hW => cell_of_row _ _ 0 _ _ _ (HX.out.keep hW).k1
 have HS0 : Hid (LSt W0 W0.drew) := (Below.refl _ _).drew
 refine qaZ 11 10 (LSt W0) [(0,0),(0,1),(0,2),(0,3),(0,4),(2,5),(2,6),(0,7),(0,8),(1,9),(3,10)] default (by kernel_rfl) (by kernel_rfl) (fun _ _ d _ _ h => by cases d <;> exact h) HS0.out ?_
 simp only [List.map_cons,List.map_nil,List.getD_cons_zero,List.getD_cons_succ]
 refine qaP rfl 29 (.tmp 3) rfl w.heap.size 0 rfl [.int .i64 p,.int .i64 m,.slice Am mod.length cm] _ HRF.out Tryz.underlying29 rfl fieldSize ?_
 go_simp
 refine qaP rfl 105 (.tmp 4) rfl (w.heap.size + 1) 0 rfl [.int .i64 (cols : Int),.slice A rows.length c] _ HRM.out Tryz.underlying105 rfl matSize ?_
 go_simp
 iterate 3
  apply qbH rfl
  . intro W hW
    have z0 := HCV.out W hW
    go_simp
    rfl
  go_simp
 apply qbF rfl
 . go_simp
   exact ⟨rfl,rfl⟩
 with_reducible refine (HREST.out _ HS0.out).mono ?_
 rintro e w1 ⟨⟨VA,ck,rfl,hu⟩,hb1⟩
 have HB1 : Hid (LSt W0 w1) := HS0.out.trans hb1
 have HU := Lib.hid hu.ints
 refine ⟨_,rfl,HB1.out,?_⟩
 go_simp
 clear hu hb1
 have hbs : w.heap.size <= w1.heap.size := Nat.le_trans HX.out.below.size HB1.out.size
 have HW1 : Hid (Below w.heap.size w w1) := HX.out.below.trans (Below.mono HB1.out HX.out.below.size)
 have HC : Hid (Calls Tryz.prog 256 #[.agg #[.int .i64 p,.int .i64 m,.slice Am mod.length cm],.agg #[.int .i64 (cols : Int),.slice A rows.length c],.slice VA fr.length ck] w1 (MatPost w1 fr.length (colsM rows fr))) :=
  columns_c p m mod Am cm cols rows A c fr VA ck w1 ((HM.out.keep HW1.out).more hbs) (by omega) ((HA.out.keep HW1.out).more hbs) hn HU.out HE0.out HFM.out hk0 (by omega) (fun r hr => by rw [(HGR.out.2 r hr).1]) (by omega)
 apply qbF rfl
 . go_simp
   exact ⟨rfl,rfl⟩
 with_reducible refine HC.out.mono ?_
 rintro e w2 hpost
 obtain ⟨⟨A1,c1,rfl,hr2⟩,hb2⟩ := hpost.len (qdD rows fr)
 have HB2 : Hid (LSt W0 w2) := HB1.out.trans (hb2.mono HB1.out.size)
 refine ⟨_,rfl,HB2.out,?_⟩
 go_simp
 iterate 2
  apply qbH rfl
  . intro W hW
    go_simp
    rfl
  go_simp
 apply qaQ rfl
 . intro W
   go_simp
   rfl
 go_simp
 have HX2 := Lib.hid (HX.out.keep HB2.out)
 have HK2 := Lib.hid HX2.out.k1
 have HX3 := Lib.hid (HX2.out.setA [.int .i64 (fr.length : Int),.slice A1 rows.length c1])
 have hs0 := HX.out.size
 have hs1 := HB1.out.size
 have hs3 : w.heap.size + 1 < w1.heap.size := by omega
 have HR3 : Hid (RowsUp (w2.setRow (w.heap.size + 1) [.int .i64 (fr.length : Int),.slice A1 rows.length c1].toArray) w1.heap.size A1 (nzs (colsM rows fr))) := hr2.setRow hs3 _
 clear hpost hr2 hb2 HC HU
 refine qcL rfl 105 (.tmp 4) (.tmp 17) rfl (w.heap.size + 1) 105 #[.int .i64 (cols : Int),.slice A rows.length c] #[.int .i64 (fr.length : Int),.slice A1 rows.length c1] rfl rfl HK2.out matSize rfl (by simp [Value.oneCell']) ?_
 go_simp
 refine qbX ?_
 have hb3 : w.heap.size <= w2.heap.size := Nat.le_trans HX.out.below.size HB2.out.size
 have HB3 : Hid (Below w.heap.size w (w2.setRow (w.heap.size + 1) [.int .i64 (fr.length : Int),.slice A1 rows.length c1].toArray)) := HX3.out.below
 go_upto_region 4 with fail
 generalize w2.setRow (w.heap.size + 1) #[.int .i64 (fr.length : Int),.slice A1 rows.length c1] = w3 at *
 have HRF3 : Hid (w3.rangeAt w.heap.size 0 [.int .i64 p,.int .i64 m,.slice Am mod.length cm]) := qaB HX3.out.k0
 have HRM3 : Hid (w3.rangeAt (w.heap.size + 1) 0 [.int .i64 (fr.length : Int),.slice A1 rows.length c1]) := qaB HX3.out.k1
 have HNW := Lib.hid (new_c p m mod Am cm fr.length (colsM rows fr) A1 c1 w3 ((HM.out.keep HB3.out).more HB3.out.size) hm0 hl HR3.out.rowsAt hk0 HE1.out HN.out)
 rw [qdD] at HNW
 go_wp2_with (first | (refine wpList_load_mid rfl 29 (.tmp 3) rfl w.heap.size 0 rfl [.int .i64 p,.int .i64 m,.slice Am mod.length cm] _ HRF3.out Tryz.underlying29 rfl fieldSize ?_) | (refine wpList_load_mid rfl 105 (.tmp 4) rfl (w.heap.size + 1) 0 rfl [.int .i64 (fr.length : Int),.slice A1 rows.length c1] _ HRM3.out Tryz.underlying105 rfl matSize ?_))
 (with_reducible refine HNW.out.mono ?_)
 rintro e w4 ⟨⟨g,c',R,k,rfl,hu4,hr4⟩,hb4⟩
 generalize canonM (opsT p.toNat m.toNat (lOf p m mod)) (colsM rows fr) fr.length = fin at *
 have HX4 := Lib.hid (HX3.out.keep hb4)
 have HK4 := Lib.hid HX4.out.k2
 have HY := Lib.hid (HX4.out.set [.int .i64 p,.int .i64 m,.slice (some ⟨g,0,none⟩) mod.length c',.int .i64 (fr.length : Int),.slice R fin.length k])
 have HU4 := Lib.hid hu4
 have HR4 := Lib.hid hr4
 have hs3' := HX3.out.size
 clear hu4 hr4 hb4 HNW HRF3 HRM3
 go_wp2_with (refine qaA rfl 35 (.tmp 6) (.tmp 26) rfl w4 (w.heap.size + 1 + 1) 35 #[.int .i64 0,.int .i64 0,.slice none 0 0,.int .i64 0,.slice none 0 0] #[.int .i64 p,.int .i64 m,.slice (some ⟨g,0,none⟩) mod.length c',.int .i64 (fr.length : Int),.slice R fin.length k] rfl rfl HK4.out codeSize rfl (by simp [Value.oneCell']) ?_)
 refine bodyPost_ret (qaE (P := Tryz.prog) rfl _ _ (w.heap.size + 1 + 1) 35 #[.int .i64 p,.int .i64 m,.slice (some ⟨g,0,none⟩) mod.length c',.int .i64 (fr.length : Int),.slice R fin.length k] (0,0) _ _ rfl rfl HY.out.k2 Tryz.underlying35 rfl codeSize) rfl ?_
 refine ⟨⟨g,c',_,_,rfl,?_,?_⟩,HY.out.below⟩
 . have h1 : IntsUp (w4.setRow (w.heap.size + 1 + 1) #[.int .i64 p,.int .i64 m,.slice (some ⟨g,0,none⟩) mod.length c',.int .i64 (fr.length : Int),.slice R fin.length k]) (w3.heap.size + 1 + 1 + 1) (some ⟨g,0,none⟩) mod := HU4.out.of_blocks (by simp) fun k hk _ => setRow_other w4 (w.heap.size + 1 + 1) k _ (by omega)
   exact h1.lower (by omega)
 . have h1 := HR4.out.setRow (show w.heap.size + 1 + 1 < w3.heap.size + 1 + 1 + 1 by omega) #[.int .i64 p,.int .i64 m,.slice (some ⟨g,0,none⟩) mod.length c',.int .i64 (fr.length : Int),.slice R fin.length k]
   exact h1.lower (by omega)
end Go.Proofs.YtaddcadapbpkfaaGreatDoor
