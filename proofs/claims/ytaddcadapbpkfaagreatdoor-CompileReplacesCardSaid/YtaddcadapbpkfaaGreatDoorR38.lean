/-
 grs.Standard. The numbers of the example: the code of length 7 over the field of 8 elements, and its shortened code.
-/
import Derived.Test.YtaddcadapbpkfaaGreatDoorR37
import Derived.Test.YtaddcadapbpkfaaGreatDoorR03
import Derived.Test.YtaddcadapbpkfaaGreatDoorR36
namespace Go.Proofs.YtaddcadapbpkfaaGreatDoor
open Go.RowKit Pln
structure GB2 (w : World) (h0 h1 h2 h3 vP vM : Value) (P M : List Nat) (W : World) : Prop where
 below : Below w.heap.size w W
 size : w.heap.size < W.heap.size
 box : W.heap[w.heap.size]? = some (.cells [h0,h1,h2,h3,vP,vM].toArray 112 (0,0))
 np : Num W (w.heap.size + 1) vP P
 nm : Num W (w.heap.size + 1) vM M
 sep : ∀ b,vP.ownBlock = some b -> vM.ownBlock ≠ some b
section
variable {w W w2 : World} {h0 h1 h2 h3 vP vM v' : Value} {P M : List Nat} {o : Obj} {x : Nat}
theorem Num.set {B : Nat} {v : Value} {l : List Nat} (h : Num W B v l) {p : Addr} (hp : p.block < B) (u : Value) : Num (W.setCell p u) B v l :=
 World.ownsRow.kept h (row := some p.block) ⟨rfl,rfl,rfl,by simp,fun j _ hne => Below.heap_setCell W p u j (fun e => hne (by rw [e]))⟩ (by
  cases hv : v.ownBlock with
  | none => exact .inl rfl
  | some b => exact .inr (fun e => by injection e with e;have := (World.ownsRow.lt h b hv).1;omega))
theorem Num.other {B : Nat} {v : Value} {l : List Nat} {row : Option Nat} (h : Num W B v l) (hg : W.grownBy w2 row) (hne : ∀ b,v.ownBlock = some b -> row ≠ some b) : Num w2 B v l :=
 World.ownsRow.kept h hg (by
  cases hv : v.ownBlock with
  | none => exact .inl rfl
  | some b => exact .inr (fun e => hne b hv e.symm))
theorem GB2.stepP (h : GB2 w h0 h1 h2 h3 vP vM P M W) (hown : w2.ownsRow (w.heap.size + 1) 3 1 v' (P.length + 1) ((nz P).map (Value.int .i64) ++ [.int .i64 (x : Int)])) (hg : (W.alloc o).grownBy w2 vP.ownBlock) (hat : v'.ownBlock = vP.ownBlock \/ v'.ownBlock = some (W.alloc o).heap.size) :
 GB2 w h0 h1 h2 h3 v' vM (P ++ [x]) M (w2.setCell ⟨w.heap.size,4,none⟩ v') := by
 have hsz := h.size
 have hs1 : (W.alloc o).heap.size = W.heap.size + 1 := World.size_alloc _ _
 have hs2 := hg.size
 have hbx : w2.heap[w.heap.size]? = some (.cells [h0,h1,h2,h3,vP,vM].toArray 112 (0,0)) := by
  rw [hg.block w.heap.size (by omega) (fun e => by have := (World.ownsRow.lt h.np _ e.symm).1;omega),heap_alloc_old _ _ (by omega)]
  exact h.box
 have hbl : Below w.heap.size w w2 := (h.below.alloc (by omega) _).grown hg (by omega) (fun j hj => by have := (World.ownsRow.lt h.np _ hj).1;omega)
 refine ⟨hbl.setCell (p := ⟨w.heap.size,4,none⟩) (Nat.le_refl _) _,by simp;omega,by have := qaY hbx 4 v';simpa using this,(Num.step hown).set (p := ⟨w.heap.size,4,none⟩) (Nat.lt_succ_self _) _,?_,?_⟩
 . refine Num.set ?_ (p := ⟨w.heap.size,4,none⟩) (Nat.lt_succ_self _) _
   have h5 : Num (W.alloc o) (w.heap.size + 1) vM M := World.ownsRow.alloc h.nm _
   exact h5.other hg fun b hb e => h.sep b e hb
 . intro b hb e
   rcases hat with hat | hat
   . rw [hat] at hb
     exact h.sep b hb e
   . rw [hat] at hb
     injection hb with hb
     have := (World.ownsRow.lt h.nm _ e).2
     omega
theorem GB2.stepM (h : GB2 w h0 h1 h2 h3 vP vM P M W) (hown : w2.ownsRow (w.heap.size + 1) 3 1 v' (M.length + 1) ((nz M).map (Value.int .i64) ++ [.int .i64 (x : Int)])) (hg : (W.alloc o).grownBy w2 vM.ownBlock) (hat : v'.ownBlock = vM.ownBlock \/ v'.ownBlock = some (W.alloc o).heap.size) :
 GB2 w h0 h1 h2 h3 vP v' P (M ++ [x]) (w2.setCell ⟨w.heap.size,5,none⟩ v') := by
 have hsz := h.size
 have hs1 : (W.alloc o).heap.size = W.heap.size + 1 := World.size_alloc _ _
 have hs2 := hg.size
 have hbx : w2.heap[w.heap.size]? = some (.cells [h0,h1,h2,h3,vP,vM].toArray 112 (0,0)) := by
  rw [hg.block w.heap.size (by omega) (fun e => by have := (World.ownsRow.lt h.nm _ e.symm).1;omega),heap_alloc_old _ _ (by omega)]
  exact h.box
 have hbl : Below w.heap.size w w2 := (h.below.alloc (by omega) _).grown hg (by omega) (fun j hj => by have := (World.ownsRow.lt h.nm _ hj).1;omega)
 refine ⟨hbl.setCell (p := ⟨w.heap.size,5,none⟩) (Nat.le_refl _) _,by simp;omega,by have := qaY hbx 5 v';simpa using this,?_,(Num.step hown).set (p := ⟨w.heap.size,5,none⟩) (Nat.lt_succ_self _) _,?_⟩
 . refine Num.set ?_ (p := ⟨w.heap.size,5,none⟩) (Nat.lt_succ_self _) _
   have h5 : Num (W.alloc o) (w.heap.size + 1) vP P := World.ownsRow.alloc h.np _
   exact h5.other hg fun b hb e => h.sep b hb e
 . intro b hb e
   rcases hat with hat | hat
   . rw [hat] at e
     exact h.sep b hb e
   . rw [hat] at e
     injection e with e
     have := (World.ownsRow.lt h.np _ hb).2
     omega
theorem Num.cap {B : Nat} {v : Value} {l : List Nat} (h : Num W B v l) : ∃ VA ck,v = .slice VA l.length ck /\ l.length <= ck := by
 rcases h.2 with ⟨e,hn⟩ | ⟨g,cap,cur,e,_,_,hc,_⟩
 . rw [hn]
   exact ⟨none,0,e,Nat.le_refl _⟩
 . exact ⟨_,cap,e,hc⟩
end
def RelGs (w : World) (h0 h1 h2 h3 : Value) (n : Nat) (v47 : Value) (g : Nat) (wr : World) : Prop :=
 ∃ (i : Nat) (vP vM : Value),i + g = n /\ v47 = .int .i64 i /\ GB2 w h0 h1 h2 h3 vP vM (List.range i) (List.replicate i 1) wr
set_option maxHeartbeats 4000000 in
set_option maxRecDepth 100000 in
theorem gstd_c (p m : Nat) (mod : List Int) (A : Option Addr) (c n k : Nat) (w : World) (hM : IntsAt w w.heap.size A mod) (hok : fieldOK p m mod = true) (hm0 : 0 < mod.length) (hl : mod.length <= 1000000) (h1 : 1 <= n) (h2 : n <= 64) (hq : n <= p ^ m) (h64 : p ^ m < 64) (hk : k <= n) :
 Calls Tryz.prog 67 #[.agg #[.int .i64 (p : Int),.int .i64 (m : Int),.slice A mod.length c],.int .i64 (n : Int),.int .i64 (k : Int)] w fun e w' =>
  (∃ (g c' : Nat) (P : Option Addr) (cp : Nat) (M : Option Addr) (cq : Nat),e = .returned (.tuple #[.agg #[.int .i64 (p : Int),.int .i64 (m : Int),.slice (some ⟨g,0,none⟩) mod.length c',.int .i64 (k : Int),.slice P n cp,.slice M n cq],.int .i64 0]) /\ n <= cp /\
    IntsUp w' w.heap.size (some ⟨g,0,none⟩) mod /\ IntsUp w' w.heap.size P (nz (List.range n)) /\ IntsUp w' w.heap.size M (nz (List.replicate n 1))) /\ Below w.heap.size w w' := by
 obtain ⟨i0,hi,hz0,hz1,hz2⟩ := info_parts infoInt
 have HI := Lib.hid hi
 have HZ0 := Lib.hid hz0
 have HZ1 := Lib.hid hz1
 have HZ2 := Lib.hid hz2
 have HX := Lib.hid (bx2 w #[.int .i64 (p : Int),.int .i64 (m : Int),.slice A mod.length c] #[.int .i64 0,.int .i64 0,.slice none 0 0,.int .i64 0,.slice none 0 0,.slice none 0 0] 29 112)
 have HWL : Hid (((w.alloc (.cells #[.int .i64 (p : Int),.int .i64 (m : Int),.slice A mod.length c] 29)).alloc (.cells #[.int .i64 0,.int .i64 0,.slice none 0 0,.int .i64 0,.slice none 0 0,.slice none 0 0] 112)).heap.size = w.heap.size + 2) := by show _ = _;simp
 have HNEW : Hid (∀ W,Below w.heap.size w W -> Calls Tryz.prog 95 #[.agg #[.int .i64 (p : Int),.int .i64 (m : Int),.slice A mod.length c]] W fun e w' => (∃ gb l lg,e = .returned (.tuple #[.pointer (some ⟨gb,0,none⟩),.int .i64 0]) /\ W.heap.size <= gb /\ GFM w' w'.heap.size gb p m mod l lg) /\ Below W.heap.size W w') := fun W hW => by
  refine (fnew2_ok (p : Int) (m : Int) mod A c W hm0 ((hM.keep hW).more hW.size) hok).mono ?_
  rintro e w' ⟨⟨gb,he,hgb,hG⟩,hb⟩
  rw [Int.toNat_natCast,Int.toNat_natCast] at hG
  exact ⟨⟨gb,_,_,he,hgb,hG⟩,hb⟩
 have j0 : (0 : Int) <= (k : Int) := by omega
 have j1 : (k : Int) <= (n : Int) := by omega
 have j2 : (1 : Int) <= (n : Int) := by omega
 generalize hqe : p ^ m = q at *
 have j3 : (q : Int) < 64 := by omega
 have j4 : (n : Int) <= (q : Int) := by omega
 clear hi hz0 hz1 hz2 hM hok
 go_enter Tryz.func67,Tryz.ntmps67
 go_upto_region 1 with fail
 generalize (w.alloc (.cells #[.int .i64 (p : Int),.int .i64 (m : Int),.slice A mod.length c] 29)).alloc (.cells #[.int .i64 0,.int .i64 0,.slice none 0 0,.int .i64 0,.slice none 0 0,.slice none 0 0] 112) = W at *
 have HXR : Hid (W.rangeAt w.heap.size 0 [.int .i64 (p : Int),.int .i64 (m : Int),.slice A mod.length c]) := qaB (HX.out.at_ (i := 0) rfl)
 have HK : Hid (W.heap[w.heap.size + 1]? = some (.cells #[.int .i64 0,.int .i64 0,.slice none 0 0,.int .i64 0,.slice none 0 0,.slice none 0 0] 112 (0,0))) := HX.out.at_ (i := 1) rfl
 go_wp2_with (refine wpList_load_mid rfl 29 (.tmp 3) rfl w.heap.size 0 rfl [.int .i64 (p : Int),.int .i64 (m : Int),.slice A mod.length c] _ HXR.out Tryz.underlying29 rfl fieldSize ?_)
 refine (HNEW.out W HX.out.below).mono ?_
 rintro e w1 ⟨⟨gb,l,lg,rfl,hgb,hG⟩,hb1⟩
 have HG := Lib.hid hG
 have HX1 := Lib.hid (HX.out.keep hb1)
 have hw1 : w.heap.size + 2 <= w1.heap.size := by have := HWL.out;have := hb1.size;omega
 have HQE := Lib.hid hqe
 clear hG hb1 HNEW HXR HK hqe
 go_wp2_with fail
 refine (gorder_c gb w1.heap.size p m l lg w1 HG.out.gf).mono ?_
 rintro e w1' ⟨rfl,rfl⟩
 rw [HQE.out]
 go_wp2_with fail
 refine (gfield_c gb w1.heap.size p m mod l lg w1 HG.out (Nat.le_refl _) hm0 hl).mono ?_
 rintro e w2 ⟨⟨g,c',rfl,hu⟩,hb2⟩
 have HU := Lib.hid hu
 have HX2 := Lib.hid (HX1.out.keep hb2)
 have hw2 : w.heap.size + 2 <= w2.heap.size := by have := hb2.size;omega
 have HGB : Hid (GB2 w2 (.int .i64 (p : Int)) (.int .i64 (m : Int)) (.slice (some ⟨g,0,none⟩) mod.length c') (.int .i64 (k : Int)) (.slice none 0 0) (.slice none 0 0) [] [] (w2.alloc (.cells #[.int .i64 (p : Int),.int .i64 (m : Int),.slice (some ⟨g,0,none⟩) mod.length c',.int .i64 (k : Int),.slice none 0 0,.slice none 0 0] 112))) :=
  ⟨(Below.refl _ _).alloc (Nat.le_refl _) _,by simp,heap_alloc_new _ _,Num.nil _ _,Num.nil _ _,fun b h => by cases h⟩
 clear hu hb2 HG HX1 HX
 go_wp2_with (refine qaC rfl 112 (.tmp 10) (.tmp 45) rfl w2 _ #[.int .i64 (p : Int),.int .i64 (m : Int),.slice (some ⟨g,0,none⟩) mod.length c',.int .i64 (k : Int),.slice none 0 0,.slice none 0 0] rfl rfl grsSize rfl (by simp [Value.oneCell']) ?_)
 generalize (w2.alloc (.cells #[.int .i64 (p : Int),.int .i64 (m : Int),.slice (some ⟨g,0,none⟩) mod.length c',.int .i64 (k : Int),.slice none 0 0,.slice none 0 0] 112)) = W3 at *
 go_loopg [47] n (fun gk v wr => RelGs w2 (.int .i64 (p : Int)) (.int .i64 (m : Int)) (.slice (some ⟨g,0,none⟩) mod.length c') (.int .i64 (k : Int)) n v gk wr)
 case atStart => exact ⟨0,_,_,by omega,rfl,HGB.out⟩
 case round =>
  obtain ⟨i,vP,vM,hig,rfl,hgb⟩ := hrel
  have HB := Lib.hid hgb
  clear hgb HGB
  by_cases hi : i < n
  . have hsz := HB.out.size
    have y4 : wr.cell? ⟨w2.heap.size,4,none⟩ = some vP := cell_of_row _ _ 4 _ _ _ HB.out.box
    have HOW : Hid ((wr.alloc (.cells #[.int .i64 (i : Int)] 3)).ownsRow (w2.heap.size + 1) 3 1 vP i ((nz (List.range i)).map (Value.int .i64))) := by
     have h1 : wr.ownsRow (w2.heap.size + 1) 3 1 vP (List.range i).length ((nz (List.range i)).map (Value.int .i64)) := HB.out.np
     rw [List.length_range] at h1
     exact World.ownsRow.alloc h1 _
    have hnl : n <= 64 := h2
    go_wp2_with (at_builtin;refine wpList_append_own_at _ rfl (.tmp 51) (.tmp 53) 22 rfl (w2.heap.size + 1) 3 i0 _ 1 8 Tryz.underlying22 HI.out HZ0.out HZ1.out HZ2.out rfl (by decide) vP i ((nz (List.range i)).map (Value.int .i64)) rfl HOW.out ⟨wr.heap.size,0,none⟩ 1 1 [.int .i64 (i : Int)] rfl rfl ?c1 ?c2 ?c3 ?c4 ?c5 ?_)
    case c1 => exact World.news_of_block (cs := #[.int .i64 (i : Int)]) (t := 3) (fr := (0,0)) (heap_alloc_new wr _)
    case c2 => intro u hu;simp at hu;subst hu;rfl
    case c3 => unfold maxLen;omega
    case c4 => omega
    case c5 => simp;omega
    intro v' w7 hown' hgw _ hat
    obtain ⟨VA',ck',rfl,_⟩ := qbC hown'
    have HX3 := Lib.hid (HB.out.stepP (x := i) (by rw [List.length_range];exact hown') hgw (by simpa using hat))
    have hb7 : w7.heap[w2.heap.size]? = some (.cells [.int .i64 (p : Int),.int .i64 (m : Int),.slice (some ⟨g,0,none⟩) mod.length c',.int .i64 (k : Int),vP,vM].toArray 112 (0,0)) := by
     rw [hgw.block _ (by simp;omega) (fun e => by have := (World.ownsRow.lt HB.out.np _ e.symm).1;omega),heap_alloc_old _ _ (by omega)]
     exact HB.out.box
    have z4 : w7.cell? ⟨w2.heap.size,4,none⟩ = some vP := cell_of_row _ _ 4 _ _ _ hb7
    have z3 : w7.frozen? ⟨w2.heap.size,4,none⟩ = false := by simp [World.frozen?,hb7]
    clear hown' hgw hat HOW y4 hb7 HB
    go_upto_region 13 with fail
    generalize w7.setCell ⟨w2.heap.size,4,none⟩ (.slice VA' (i + 1) ck') = w8 at *
    clear z4 z3
    have hsz8 := HX3.out.size
    have y5 : w8.cell? ⟨w2.heap.size,5,none⟩ = some vM := cell_of_row _ _ 5 _ _ _ HX3.out.box
    have HOW : Hid ((w8.alloc (.cells #[.int .i64 (1 : Int)] 3)).ownsRow (w2.heap.size + 1) 3 1 vM i ((nz (List.replicate i 1)).map (Value.int .i64))) := by
     have h1 : w8.ownsRow (w2.heap.size + 1) 3 1 vM (List.replicate i 1).length ((nz (List.replicate i 1)).map (Value.int .i64)) := HX3.out.nm
     rw [List.length_replicate] at h1
     exact World.ownsRow.alloc h1 _
    go_wp2_with (at_builtin;refine wpList_append_own_at _ rfl (.tmp 57) (.tmp 58) 22 rfl (w2.heap.size + 1) 3 i0 _ 1 8 Tryz.underlying22 HI.out HZ0.out HZ1.out HZ2.out rfl (by decide) vM i ((nz (List.replicate i 1)).map (Value.int .i64)) rfl HOW.out ⟨w8.heap.size,0,none⟩ 1 1 [.int .i64 (1 : Int)] rfl rfl ?c1 ?c2 ?c3 ?c4 ?c5 ?_)
    case c1 => exact World.news_of_block (cs := #[.int .i64 (1 : Int)]) (t := 3) (fr := (0,0)) (heap_alloc_new w8 _)
    case c2 => intro u hu;simp at hu;subst hu;rfl
    case c3 => unfold maxLen;omega
    case c4 => omega
    case c5 => simp;omega
    intro v2 w9 hown' hgw _ hat
    obtain ⟨VA2,ck2,rfl,_⟩ := qbC hown'
    have HX5 := Lib.hid (HX3.out.stepM (x := 1) (by rw [List.length_replicate];exact hown') hgw (by simpa using hat))
    have hb7 : w9.heap[w2.heap.size]? = some (.cells [.int .i64 (p : Int),.int .i64 (m : Int),.slice (some ⟨g,0,none⟩) mod.length c',.int .i64 (k : Int),.slice VA' (i + 1) ck',vM].toArray 112 (0,0)) := by
     rw [hgw.block _ (by simp;omega) (fun e => by have := (World.ownsRow.lt HX3.out.nm _ e.symm).1;omega),heap_alloc_old _ _ (by omega)]
     exact HX3.out.box
    have z4 : w9.cell? ⟨w2.heap.size,5,none⟩ = some vM := cell_of_row _ _ 5 _ _ _ hb7
    have z3 : w9.frozen? ⟨w2.heap.size,5,none⟩ = false := by simp [World.frozen?,hb7]
    have HLR : Hid (List.range i ++ [i] = List.range (i + 1) /\ List.replicate i 1 ++ [1] = List.replicate (i + 1) 1) := ⟨List.range_succ.symm,List.replicate_succ'.symm⟩
    rw [HLR.out.1,HLR.out.2] at HX5
    clear hown' hgw hat HOW y5 hb7 HX3
    go_upto_region 14 with fail
    generalize w9.setCell ⟨w2.heap.size,5,none⟩ (.slice VA2 (i + 1) ck2) = w10 at *
    clear z4 z3
    go_wp2_with fail
    go_roundg (n - (i + 1))
    case measure => omega
    case rel => exact ⟨i + 1,_,_,by omega,by go_num,HX5.out⟩
  . obtain rfl : i = n := by omega
    obtain ⟨P,cp,rfl,hcp⟩ := HB.out.np.cap
    obtain ⟨M,cq,rfl,hcq⟩ := HB.out.nm.cap
    have HPU := Lib.hid HB.out.np.up
    have HMU := Lib.hid HB.out.nm.up
    have hcp1 : i <= cp := by rw [List.length_range] at hcp;exact hcp
    rw [List.length_range,List.length_replicate] at HB
    have HKR : Hid (wr.heap[w.heap.size + 1]? = some (.cells #[.int .i64 0,.int .i64 0,.slice none 0 0,.int .i64 0,.slice none 0 0,.slice none 0 0] 112 (0,0))) := (HB.out.below.block _ (by omega)).trans (HX2.out.at_ (i := 1) rfl)
    have HRG : Hid (wr.rangeAt w2.heap.size 0 [.int .i64 (p : Int),.int .i64 (m : Int),.slice (some ⟨g,0,none⟩) mod.length c',.int .i64 (k : Int),.slice P i cp,.slice M i cq]) := qaB HB.out.box
    go_wp2_with (first
     | (refine wpList_load_mid rfl 112 (.tmp 10) rfl w2.heap.size 0 rfl [.int .i64 (p : Int),.int .i64 (m : Int),.slice (some ⟨g,0,none⟩) mod.length c',.int .i64 (k : Int),.slice P i cp,.slice M i cq] _ HRG.out Tryz.underlying112 rfl grsSize ?_)
     | (refine qaA rfl 112 (.tmp 6) (.tmp 62) rfl _ (w.heap.size + 1) 112 #[.int .i64 0,.int .i64 0,.slice none 0 0,.int .i64 0,.slice none 0 0,.slice none 0 0] #[.int .i64 (p : Int),.int .i64 (m : Int),.slice (some ⟨g,0,none⟩) mod.length c',.int .i64 (k : Int),.slice P i cp,.slice M i cq] rfl rfl HKR.out grsSize rfl (by simp [Value.oneCell']) ?_))
    refine bodyPost_ret (qaE (P := Tryz.prog) rfl _ _ (w.heap.size + 1) 112 #[.int .i64 (p : Int),.int .i64 (m : Int),.slice (some ⟨g,0,none⟩) mod.length c',.int .i64 (k : Int),.slice P i cp,.slice M i cq] (0,0) _ _ rfl rfl (qaF wr (w.heap.size + 1) _ _ _ HKR.out) Tryz.underlying112 rfl grsSize) rfl ?_
    have hbw := HB.out.below
    refine ⟨⟨g,c',P,cp,M,cq,rfl,hcp1,?_,?_,?_⟩,qaD (HX2.out.below.trans (hbw.mono (by omega))) (by omega) _⟩
    . exact ((HU.out.grow hbw).of_blocks (by simp) (fun k hk _ => setRow_other _ _ _ _ (by omega))).lower (by omega)
    . exact (HPU.out.of_blocks (by simp) (fun k hk _ => setRow_other _ _ _ _ (by omega))).lower (by omega)
    . exact (HMU.out.of_blocks (by simp) (fun k hk _ => setRow_other _ _ _ _ (by omega))).lower (by omega)
end Go.Proofs.YtaddcadapbpkfaaGreatDoor
namespace Go.Proofs.YtaddcadapbpkfaaGreatDoor
open Go.RowKit Pln
def md8 : List Int := [1,1,0]
def O8 : Ops := opsT 2 3 (lOf 2 3 md8)
def rs8 : List (List Nat) := canonM O8 (genG O8 (List.replicate 7 1) (List.range 7) 3) 7
def sup8 : List (List Nat) := supM O8 rs8 0 7
def fs8 : List Nat := freeC [0] 7
def sh8 : List (List Nat) := canonM O8 (colsM sup8 fs8) 6
theorem ok8 : fieldOK 2 3 md8 = true := by kernel_rfl
theorem e8g : errC 2 3 md8 7 (nzs (genG O8 (List.replicate 7 1) (List.range 7) 3)) = 0 := by kernel_rfl
theorem rs8_v : rs8.length = 3 := by kernel_rfl
theorem q8 : freeC fs8 7 = [0] := by kernel_rfl
theorem z8 : codeZ 2 3 md8 7 (nzs rs8) = 0 := by kernel_rfl
theorem sp8 : spZ 2 3 md8 7 (nzs rs8) = 0 := by kernel_rfl
theorem e80 : errC 2 3 md8 7 (nzs rs8) = 0 := by kernel_rfl
theorem e81 : errC 2 3 md8 1 (nzs (colsM rs8 [0])) = 0 := by kernel_rfl
theorem e82 : errC 2 3 md8 3 (nzs [rs8.map fun r => r.getD 0 0]) = 0 := by kernel_rfl
theorem e83 : errC 2 3 md8 3 (nzs (kerM O8 [rs8.map fun r => r.getD 0 0] 3)) = 0 := by kernel_rfl
theorem e84 : errC 2 3 md8 7 (nzs (mulMat O8 (kerM O8 [rs8.map fun r => r.getD 0 0] 3) rs8 7)) = 0 := by kernel_rfl
theorem e85 : errC 2 3 md8 7 (nzs sup8) = 0 := by kernel_rfl
theorem e86 : errC 2 3 md8 6 (nzs (colsM sup8 fs8)) = 0 := by kernel_rfl
theorem sh8_v : sh8.length = 2 := by kernel_rfl
end Go.Proofs.YtaddcadapbpkfaaGreatDoor
