/-
 The law's replaced: the walk.
-/
import Derived.Test.YtaddcadapbpkfaaGreatDoorR44
import Derived.Test.YtaddcadapbpkfaaGreatDoorR45
namespace Go.Proofs.YtaddcadapbpkfaaGreatDoor
open Go.RowKit Pln
def LwPost (B : Nat) (w : World) (y : E) (e : Ending) (w' : World) : Prop :=
 (∃ cs : List Value,e = .returned (.agg cs.toArray) /\ ExprC w' (fun b => b < B \/ w.heap.size <= b) y cs) /\ Below w.heap.size w w'
theorem lkP_at {ns : List (List UInt8)} {vs : List E} {nm : List UInt8} : ∀ {i : Nat},(hn : i < ns.length) -> (hv : i < vs.length) -> ns[i] = nm -> (∀ j,j < i -> ns[j]? ≠ some nm) -> lkP (ns.zip vs) nm = some vs[i] := by
 induction ns generalizing vs with
 | nil => intro i hn;simp at hn
 | cons a r ih =>
   intro i hn hv e h
   cases vs with
   | nil => simp at hv
   | cons y s =>
     cases i with
     | zero =>
       simp at e
       unfold lkP
       simp [e]
     | succ i =>
       have h0 := h 0 (Nat.succ_pos _)
       simp at h0
       have := ih (vs := s) (i := i) (by simpa using hn) (by simpa using hv) (by simpa using e) (fun j hj => by simpa using h (j + 1) (Nat.succ_lt_succ hj))
       unfold lkP at this ⊢
       simp only [List.zip_cons_cons,List.getElem_cons_succ]
       rw [List.find?_cons_of_neg (by simpa using h0)]
       exact this
theorem lkP_no {ns : List (List UInt8)} {vs : List E} {nm : List UInt8} (h : ∀ j,j < min ns.length vs.length -> ns[j]? ≠ some nm) : lkP (ns.zip vs) nm = none := by
 rw [lkP_none]
 intro hm
 obtain ⟨p,hp,e⟩ := List.mem_map.1 hm
 obtain ⟨j,hj,e2⟩ := List.getElem_of_mem hp
 rw [List.length_zip] at hj
 refine h j hj ?_
 rw [List.getElem_zip] at e2
 rw [List.getElem?_eq_getElem (by omega)]
 rw [<- e,<- e2]
structure NSt (w : World) (cx : List Value) (nm : List UInt8) (ns : List (List UInt8)) (i : Nat) (wr : World) : Prop where
 below : Below w.heap.size w wr
 box : wr.heap[w.heap.size]? = some (.cells cx.toArray 25 (0,0))
 zero : wr.heap[w.heap.size + 1]? = some (.cells [.int .i64 0,.string ⟨#[]⟩,.int .i64 0,.slice none 0 0,.slice none 0 0].toArray 25 (0,0))
 not : ∀ j,j < i -> ns[j]? ≠ some nm
theorem NSt.keep {w : World} {cx : List Value} {nm : List UInt8} {ns : List (List UInt8)} {i : Nat} {wr W : World} (h : NSt w cx nm ns i wr) (hb : Below wr.heap.size wr W) : NSt w cx nm ns i W := by
 have hz : w.heap.size + 1 < wr.heap.size := (Array.getElem?_eq_some_iff.1 h.zero).1
 exact ⟨h.below.trans (hb.mono (by omega)),(hb.block _ (by omega)).trans h.box,(hb.block _ hz).trans h.zero,h.not⟩
theorem NSt.next {w : World} {cx : List Value} {nm : List UInt8} {ns : List (List UInt8)} {i : Nat} {wr : World} (h : NSt w cx nm ns i wr) (hi : i < ns.length) (hn : ns[i] ≠ nm) : NSt w cx nm ns (i + 1) wr :=
 ⟨h.below,h.box,h.zero,fun j hj e => by
   rcases Nat.lt_or_ge j i with h1 | h1
   . exact h.not j h1 e
   . obtain rfl : j = i := by omega
     rw [List.getElem?_eq_getElem hi] at e
     injection e with e
     exact hn e⟩
def RelNm (w : World) (cx : List Value) (nm : List UInt8) (ns : List (List UInt8)) (N : Nat) (v19 : Value) (g : Nat) (wr : World) : Prop :=
 ∃ i,i + g = N /\ v19 = .int .i64 i /\ NSt w cx nm ns i wr
structure LwS (B lo : Nat) (w : World) (cx : List Value) (c0 c1 c2 c3 : Value) (ys : List E) (v : Value) (i : Nat) (fl : List Value) (wr : World) : Prop where
 below : Below lo w wr
 up : lo + 3 <= wr.heap.size
 lob : B <= lo
 box : wr.heap[lo]? = some (.cells cx.toArray 25 (0,0))
 zero : wr.heap[lo + 1]? = some (.cells [.int .i64 0,.string ⟨#[]⟩,.int .i64 0,.slice none 0 0,.slice none 0 0].toArray 25 (0,0))
 out : wr.heap[lo + 2]? = some (.cells [c0,c1,c2,c3,v].toArray 25 (0,0))
 own : wr.ownsRow (lo + 3) 25 5 v i fl
 cells : CellsOf wr (fun q => (q < B \/ lo + 3 <= q) /\ v.ownBlock ≠ some q) ys fl
section
variable {B lo : Nat} {w : World} {cx : List Value} {c0 c1 c2 c3 : Value} {ys : List E} {v : Value} {i : Nat} {fl : List Value} {wr W w3 : World}
theorem LwS.keep (h : LwS B lo w cx c0 c1 c2 c3 ys v i fl wr) (hb : Below wr.heap.size wr W) : LwS B lo w cx c0 c1 c2 c3 ys v i fl W := by
 have h1 := h.up
 exact ⟨h.below.trans (hb.mono (by omega)),Nat.le_trans h.up hb.size,h.lob,(hb.block _ (by omega)).trans h.box,(hb.block _ (by omega)).trans h.zero,(hb.block _ (by omega)).trans h.out,
  h.own.kept (row := none) ⟨hb.os,hb.tape,hb.output,hb.size,fun j hj _ => hb.block j hj⟩ (by cases v.ownBlock <;> simp),
  CellsOf.mono (fun q hq hl => ⟨hq,hb.block q hl⟩) h.cells⟩
theorem LwS.step (h : LwS B lo w cx c0 c1 c2 c3 ys v i fl W) {y : E} {cs : List Value} (hcs : ExprC W (fun q => (q < B \/ lo + 3 <= q) /\ v.ownBlock ≠ some q) y cs) {o : Obj} {v' : Value}
 (hown : w3.ownsRow (lo + 3) 25 5 v' (i + 1) (fl ++ cs)) (hg : (W.alloc o).grownBy w3 v.ownBlock) (hat : v'.ownBlock = v.ownBlock \/ v'.ownBlock = some (W.alloc o).heap.size) :
 LwS B lo w cx c0 c1 c2 c3 (ys ++ [y]) v' (i + 1) (fl ++ cs) (w3.setCell ⟨lo + 2,4,none⟩ v') := by
 have h1 := h.up
 have h2 := h.lob
 have hs1 : (W.alloc o).heap.size = W.heap.size + 1 := World.size_alloc _ _
 have hs2 := hg.size
 have hv : ∀ g,v.ownBlock = some g -> lo + 3 <= g /\ g < W.heap.size := fun g e => World.ownsRow.lt h.own g e
 have hblk : ∀ q,q < W.heap.size -> v.ownBlock ≠ some q -> w3.heap[q]? = W.heap[q]? := fun q hq hne => by
  exact (hg.block q (by omega) (fun e => hne e.symm)).trans (((Below.refl W.heap.size W).alloc (Nat.le_refl _) o).block q hq)
 have hblk2 : ∀ q,q < W.heap.size -> v.ownBlock ≠ some q -> q ≠ lo + 2 -> (w3.setCell ⟨lo + 2,4,none⟩ v').heap[q]? = W.heap[q]? := fun q hq hne hqb =>
  (Below.heap_setCell w3 ⟨lo + 2,4,none⟩ v' q hqb).trans (hblk q hq hne)
 have hlow : ∀ q,q < lo + 3 -> v.ownBlock ≠ some q := fun q hq e => by have := (hv q e).1;omega
 have hbx : w3.heap[lo + 2]? = some (.cells [c0,c1,c2,c3,v].toArray 25 (0,0)) := (hblk (lo + 2) (by omega) (hlow _ (by omega))).trans h.out
 have hbl : Below lo w w3 := (h.below.alloc (by have := h.below.size;omega) _).grown hg (by omega) (fun j hj => by have := (hv j hj).1;omega)
 refine ⟨hbl.setCell (p := ⟨lo + 2,4,none⟩) (by show lo <= lo + 2;omega) _,by simp;omega,h2,(hblk2 _ (by omega) (hlow _ (by omega)) (by omega)).trans h.box,
  (hblk2 _ (by omega) (hlow _ (by omega)) (by omega)).trans h.zero,by have := qaY hbx 4 v';simpa using this,?_,?_⟩
 . exact World.ownsRow.kept hown (row := some (lo + 2)) ⟨rfl,rfl,rfl,by simp,fun j _ hne => Below.heap_setCell w3 ⟨lo + 2,4,none⟩ v' j (fun e => hne (by rw [e]))⟩ (by
    cases hvv : v'.ownBlock with
    | none => exact .inl rfl
    | some g => exact .inr (fun e => by injection e with e;have := (World.ownsRow.lt hown g hvv).1;omega))
 . have hF : ∀ q,((q < B \/ lo + 3 <= q) /\ v.ownBlock ≠ some q) -> q < W.heap.size -> ((q < B \/ lo + 3 <= q) /\ v'.ownBlock ≠ some q) /\ (w3.setCell ⟨lo + 2,4,none⟩ v').heap[q]? = W.heap[q]? := fun q hq hl =>
    ⟨⟨hq.1,fun e => by
      rcases hat with h | h
      . exact hq.2 (h ▸ e)
      . rw [h] at e
        injection e with e
        omega⟩,hblk2 q hl hq.2 (by omega)⟩
   exact CellsOf.snoc (ExprC.mono hF _ _ hcs) (CellsOf.mono hF h.cells)
end
theorem lawL_snoc (f : List UInt8 -> Option E) {xs : List E} {i : Nat} (hi : i < xs.length) : lawL f (xs.take (i + 1)) = lawL f (xs.take i) ++ [lawE f (xs[i]'hi)] := by
 rw [qaV (List.getElem?_eq_getElem hi),lawL_map,lawL_map,List.map_append]
 rfl
theorem lawL_len (f : List UInt8 -> Option E) (xs : List E) : (lawL f xs).length = xs.length := by rw [lawL_map,List.length_map]
def RelLx (f : List UInt8 -> Option E) (B lo : Nat) (w : World) (cx : List Value) (c0 c1 c2 c3 : Value) (xs : List E) (v40 : Value) (g : Nat) (wr : World) : Prop :=
 ∃ i v fl,i + g = xs.length /\ v40 = .int .i64 i /\ LwS B lo w cx c0 c1 c2 c3 (lawL f (xs.take i)) v i fl wr
set_option maxHeartbeats 8000000 in
set_option maxRecDepth 100000 in
theorem replaced_walk (B : Nat) (k : Int) (nm : List UInt8) (n : Int) (ls : List Int) (xs : List E) (la : Option Addr) (lc : Nat) (aa : Option Addr) (ac : Nat) (na : Option Addr) (nc : Nat) (va : Option Addr) (vc : Nat) (ns : List (List UInt8)) (vs : List E) (w : World)
 (hli : IntsF w (· < B) la ls) (ha : ArgsAt w (· < B) aa xs) (hn : StrsF w (· < B) na ns) (hv : ArgsAt w (· < B) va vs) (hB : B <= w.heap.size) (hxl : xs.length <= 1000000) (hnl : ns.length <= 8) (_hvl : vs.length <= 8)
 (hx : ∀ (i : Nat) (hi : i < xs.length) (cs : List Value) (w' : World),Below w.heap.size w w' -> ExprC w' (· < B) (xs[i]'hi) cs -> Calls Tryz.prog 11 #[.agg cs.toArray,.slice na ns.length nc,.slice va vs.length vc] w' (LwPost B w' (lawE (lkP (ns.zip vs)) (xs[i]'hi)))) :
 Calls Tryz.prog 11 #[.agg #[.int .i64 k,.string ⟨nm.toArray⟩,.int .i64 n,.slice la ls.length lc,.slice aa xs.length ac],.slice na ns.length nc,.slice va vs.length vc] w (LwPost B w (lawE (lkP (ns.zip vs)) (.mk k nm n ls xs))) := by
 obtain ⟨i0,hi,hz0,hz1,hz2⟩ := info_parts infoExprE
 have HI := Lib.hid hi
 have HZ0 := Lib.hid hz0
 have HZ1 := Lib.hid hz1
 have HZ2 := Lib.hid hz2
 have HLI := Lib.hid hli
 have HA := Lib.hid ha
 have HNS := Lib.hid hn
 have HV := Lib.hid hv
 have HX := Lib.hid hx
 have HB0 := Lib.hid (bx2 w #[.int .i64 k,.string ⟨nm.toArray⟩,.int .i64 n,.slice la ls.length lc,.slice aa xs.length ac] #[.int .i64 0,.string ⟨#[]⟩,.int .i64 0,.slice none 0 0,.slice none 0 0] 25 25)
 have HS0 : Hid (((w.alloc (.cells #[.int .i64 k,.string ⟨nm.toArray⟩,.int .i64 n,.slice la ls.length lc,.slice aa xs.length ac] 25)).alloc (.cells #[.int .i64 0,.string ⟨#[]⟩,.int .i64 0,.slice none 0 0,.slice none 0 0] 25)).heap.size = w.heap.size + 2) := by show _ = _;simp
 clear hi hz0 hz1 hz2 hli ha hn hv hx
 go_enter Tryz.func11,Tryz.ntmps11
 go_upto_region 1 with fail
 generalize ((w.alloc (.cells #[.int .i64 k,.string ⟨nm.toArray⟩,.int .i64 n,.slice la ls.length lc,.slice aa xs.length ac] 25)).alloc (.cells #[.int .i64 0,.string ⟨#[]⟩,.int .i64 0,.slice none 0 0,.slice none 0 0] 25)) = W0 at *
 have hc0 : W0.cell? ⟨w.heap.size,0,none⟩ = some (.int .i64 k) := cell_of_row _ _ 0 _ _ _ (HB0.out.at_ (i := 0) rfl)
 by_cases k4 : k = 4
 . subst k4
   clear HX HI HZ0 HZ1 HZ2
   have HR : Hid (lawE (lkP (ns.zip vs)) (.mk 4 nm n ls xs) = (lkP (ns.zip vs) nm).getD (.mk 4 nm n ls xs)) := by
    show _ = _
    unfold lawE
    rw [if_pos rfl]
   have HN0 : Hid (NSt w [.int .i64 4,.string ⟨nm.toArray⟩,.int .i64 n,.slice la ls.length lc,.slice aa xs.length ac] nm ns 0 W0) := ⟨HB0.out.below,HB0.out.at_ (i := 0) rfl,HB0.out.at_ (i := 1) rfl,fun j hj => by omega⟩
   generalize hN : min ns.length vs.length = N at *
   have hN1 : N <= ns.length := by omega
   have hN2 : N <= vs.length := by omega
   have hNi : min (ns.length : Int) (vs.length : Int) = (N : Int) := by omega
   go_upto_region 3 with fail
   go_loopg [19] N (fun g v wr => RelNm w [.int .i64 4,.string ⟨nm.toArray⟩,.int .i64 n,.slice la ls.length lc,.slice aa xs.length ac] nm ns N v g wr)
   case atStart => exact ⟨0,by omega,rfl,HN0.out⟩
   case round =>
    obtain ⟨i,hig,rfl,hst⟩ := hrel
    have HST := Lib.hid hst
    clear hst HN0 hc0
    by_cases hi : i < N
    . have hin : i < ns.length := by omega
      have hiv : i < vs.length := by omega
      obtain ⟨nb,no,hna,hnb,hnc⟩ := HNS.out (by omega)
      have hc1 : wr.cell? ⟨nb,no + i,none⟩ = some (.string ⟨(ns[i]'hin).toArray⟩) := (HST.out.below.cell (p := ⟨nb,no + i,none⟩) (Nat.lt_of_lt_of_le hnb hB)).trans (hnc i _ (List.getElem?_eq_getElem hin))
      have hc2 : wr.cell? ⟨w.heap.size,1,none⟩ = some (.string ⟨nm.toArray⟩) := qaB HST.out.box 1 _ rfl
      obtain ⟨ab,o,k2,nm2,n2,la2,ll2,lc2,ab2,al2,ac2,hva,hrg,hec⟩ := (HV.out.grow HST.out.below).at_ hiv
      have HRG := Lib.hid hrg
      have HEC := Lib.hid hec
      have i0 : (0 : Int) <= (i : Int) := by omega
      have i1 : (i : Int) < (ns.length : Int) := by omega
      have i2 : (i : Int) < (vs.length : Int) := by omega
      have i3 : (i : Int) < (N : Int) := by omega
      have hw : IntKind.i64.wrap ((i : Int) + 1) = (i : Int) + 1 := IntWalk.i64_in _ (by omega)
      subst hna
      subst hva
      clear hrg hec hnc
      by_cases he : ns[i]'hin = nm
      . have hq : (ns[i]'hin == nm) = true := beq_iff_eq.2 he
        have HR2 : Hid (lawE (lkP (ns.zip vs)) (.mk 4 nm n ls xs) = vs[i]'hiv) := by
         show _ = _
         rw [HR.out,lkP_at hin hiv he HST.out.not]
         rfl
        clear HR
        go_upto_region 5 with fail
        go_quiet (fail)
        have hbd : Below wr.heap.size wr (wr.drewN nq) := qaK (Below.refl _ _) _
        have HSD := Lib.hid (HST.out.keep hbd)
        have HRD := Lib.hid (qaJ HRG.out (hbd.block _ (qcX HRG.out (Nat.succ_pos _))))
        have HED := Lib.hid (HEC.out.grow hbd)
        clear hbd hc1 hc2 HST HRG HEC
        generalize wr.drewN nq = wd at *
        go_wp2_with (first
         | (refine wpList_load_mid rfl 25 (.tmp 31) rfl ab (o + i * 5) rfl [.int .i64 k2,.string nm2,.int .i64 n2,.slice la2 ll2 lc2,.slice ab2 al2 ac2] _ HRD.out Tryz.underlying25 rfl exprSize ?_)
         | (refine qaA rfl 25 (.tmp 6) (.tmp 32) rfl _ (w.heap.size + 1) 25 #[.int .i64 0,.string ⟨#[]⟩,.int .i64 0,.slice none 0 0,.slice none 0 0] #[.int .i64 k2,.string nm2,.int .i64 n2,.slice la2 ll2 lc2,.slice ab2 al2 ac2] rfl rfl HSD.out.zero exprSize rfl (by simp [Value.oneCell']) ?_))
        refine bodyPost_ret (qcF (P := Tryz.prog) rfl _ _ (w.heap.size + 1) 25 #[.int .i64 k2,.string nm2,.int .i64 n2,.slice la2 ll2 lc2,.slice ab2 al2 ac2] (0,0) _ rfl (qaF _ (w.heap.size + 1) _ _ _ HSD.out.zero) Tryz.underlying25 rfl exprSize) rfl ?_
        rw [HR2.out]
        exact ⟨⟨[.int .i64 k2,.string nm2,.int .i64 n2,.slice la2 ll2 lc2,.slice ab2 al2 ac2],rfl,ExprC.mono (fun b (hb : b < B) _ => ⟨.inl hb,setRow_other _ _ _ _ (by omega)⟩) _ _ HED.out⟩,qaD HSD.out.below (by omega) _⟩
      . have hq : (ns[i]'hin == nm) = false := beq_false_of_ne he
        go_upto_region 5 with fail
        go_quiet (fail)
        go_wp2_with fail
        go_roundg (N - (i + 1))
        case measure => omega
        case rel => exact ⟨i + 1,by omega,by go_num,(HST.out.keep (qaK (Below.refl _ _) _)).next hin he⟩
    . have hi3 : ¬ (i : Int) < (N : Int) := by omega
      have hie : i = N := by omega
      have HR2 : Hid (lawE (lkP (ns.zip vs)) (.mk 4 nm n ls xs) = .mk 4 nm n ls xs) := by
       show _ = _
       rw [HR.out,lkP_no (fun j hj => HST.out.not j (by omega))]
       rfl
      have HXR : Hid (wr.rangeAt w.heap.size 0 [.int .i64 4,.string ⟨nm.toArray⟩,.int .i64 n,.slice la ls.length lc,.slice aa xs.length ac]) := qaB HST.out.box
      go_wp2_with (first
       | (refine wpList_load_mid rfl 25 (.tmp 3) rfl w.heap.size 0 rfl [.int .i64 4,.string ⟨nm.toArray⟩,.int .i64 n,.slice la ls.length lc,.slice aa xs.length ac] _ HXR.out Tryz.underlying25 rfl exprSize ?_)
       | (refine qaA rfl 25 (.tmp 6) (.tmp 34) rfl _ (w.heap.size + 1) 25 #[.int .i64 0,.string ⟨#[]⟩,.int .i64 0,.slice none 0 0,.slice none 0 0] #[.int .i64 4,.string ⟨nm.toArray⟩,.int .i64 n,.slice la ls.length lc,.slice aa xs.length ac] rfl rfl HST.out.zero exprSize rfl (by simp [Value.oneCell']) ?_))
      refine bodyPost_ret (qcF (P := Tryz.prog) rfl _ _ (w.heap.size + 1) 25 #[.int .i64 4,.string ⟨nm.toArray⟩,.int .i64 n,.slice la ls.length lc,.slice aa xs.length ac] (0,0) _ rfl (qaF _ (w.heap.size + 1) _ _ _ HST.out.zero) Tryz.underlying25 rfl exprSize) rfl ?_
      rw [HR2.out]
      have hF : ∀ q,q < B -> q < w.heap.size -> (q < B \/ w.heap.size <= q) /\ (wr.setRow (w.heap.size + 1) #[.int .i64 4,.string ⟨nm.toArray⟩,.int .i64 n,.slice la ls.length lc,.slice aa xs.length ac]).heap[q]? = w.heap[q]? := fun q hq hl => ⟨.inl hq,(setRow_other _ _ _ _ (by omega)).trans (HST.out.below.block q hl)⟩
      refine ⟨⟨[.int .i64 4,.string ⟨nm.toArray⟩,.int .i64 n,.slice la ls.length lc,.slice aa xs.length ac],rfl,?_⟩,qaD HST.out.below (by omega) _⟩
      unfold ExprC
      exact ⟨la,lc,aa,ac,rfl,HLI.out.mono hF,ArgsAt.mono HA.out hF⟩
 . have HR : Hid (lawE (lkP (ns.zip vs)) (.mk k nm n ls xs) = .mk k nm n ls (lawL (lkP (ns.zip vs)) xs)) := by
    show _ = _
    unfold lawE
    rw [if_neg k4]
   have hk4 : (k == 4) = false := beq_false_of_ne k4
   have HXR : Hid (W0.rangeAt w.heap.size 0 [.int .i64 k,.string ⟨nm.toArray⟩,.int .i64 n,.slice la ls.length lc,.slice aa xs.length ac]) := qaB (HB0.out.at_ (i := 0) rfl)
   obtain ⟨HB1',HS1'⟩ := HB0.out.alloc HS0.out [.int .i64 k,.string ⟨nm.toArray⟩,.int .i64 n,.slice la ls.length lc,.slice aa xs.length ac] 25
   have HB1 := Lib.hid HB1'
   have HS1 := Lib.hid HS1'
   have hw0 : W0.heap.size = w.heap.size + 2 := HS0.out
   clear HB1' HS1' HNS HV
   go_upto_region 10 with (first
    | (refine wpList_load_mid rfl 25 (.tmp 3) rfl w.heap.size 0 rfl [.int .i64 k,.string ⟨nm.toArray⟩,.int .i64 n,.slice la ls.length lc,.slice aa xs.length ac] _ HXR.out Tryz.underlying25 rfl exprSize ?_)
    | (refine qaC rfl 25 (.tmp 8) (.tmp 35) rfl W0 _ #[.int .i64 k,.string ⟨nm.toArray⟩,.int .i64 n,.slice la ls.length lc,.slice aa xs.length ac] rfl rfl exprSize rfl (by simp [Value.oneCell']) ?_))
   generalize W0.alloc (.cells #[.int .i64 k,.string ⟨nm.toArray⟩,.int .i64 n,.slice la ls.length lc,.slice aa xs.length ac] 25) = W1 at *
   clear hw0 hc0 HXR HB0 HS0
   have hout : W1.heap[w.heap.size + 2]? = some (.cells #[.int .i64 k,.string ⟨nm.toArray⟩,.int .i64 n,.slice la ls.length lc,.slice aa xs.length ac] 25 (0,0)) := HB1.out.at_ (i := 2) rfl
   have z4 : W1.cell? ⟨w.heap.size + 2,4,none⟩ = some (.slice aa xs.length ac) := cell_of_row _ _ 4 _ _ _ hout
   have z3 : W1.frozen? ⟨w.heap.size + 2,4,none⟩ = false := by simp [World.frozen?,hout]
   have HST0 : Hid (LwS B w.heap.size w [.int .i64 k,.string ⟨nm.toArray⟩,.int .i64 n,.slice la ls.length lc,.slice aa xs.length ac] (.int .i64 k) (.string ⟨nm.toArray⟩) (.int .i64 n) (.slice la ls.length lc) (lawL (lkP (ns.zip vs)) (xs.take 0)) (.slice none 0 0) 0 [] (W1.setCell ⟨w.heap.size + 2,4,none⟩ (.slice none 0 0))) := by
    have hs : W1.heap.size = w.heap.size + 3 := HS1.out
    exact ⟨HB1.out.below.setCell (p := ⟨w.heap.size + 2,4,none⟩) (by show w.heap.size <= w.heap.size + 2;omega) _,by simp;omega,hB,(Below.heap_setCell W1 ⟨w.heap.size + 2,4,none⟩ _ _ (by show w.heap.size ≠ w.heap.size + 2;omega)).trans (HB1.out.at_ (i := 0) rfl),
     (Below.heap_setCell W1 ⟨w.heap.size + 2,4,none⟩ _ _ (by show w.heap.size + 1 ≠ w.heap.size + 2;omega)).trans (HB1.out.at_ (i := 1) rfl),by have := qaY hout 4 (.slice none 0 0);simpa using this,World.ownsRow_nil _ _ _ _,by unfold CellsOf;rfl⟩
   clear hout
   go_upto_region 11 with fail
   generalize W1.setCell ⟨w.heap.size + 2,4,none⟩ (.slice none 0 0) = W2 at *
   clear z4 z3 HB1 HS1
   have hac : W2.cell? ⟨w.heap.size,4,none⟩ = some (.slice aa xs.length ac) := qaB HST0.out.box 4 _ rfl
   go_upto_region 12 with fail
   clear hac
   generalize ([.int .i64 k,.string ⟨nm.toArray⟩,.int .i64 n,.slice la ls.length lc,.slice aa xs.length ac] : List Value) = cx at HST0
   go_loopg [40] xs.length (fun g v wr => RelLx (lkP (ns.zip vs)) B w.heap.size w cx (.int .i64 k) (.string ⟨nm.toArray⟩) (.int .i64 n) (.slice la ls.length lc) xs v g wr)
   case atStart => exact ⟨0,_,_,by omega,rfl,HST0.out⟩
   case round =>
    obtain ⟨i,v,fl,hig,rfl,hst⟩ := hrel
    have HST := Lib.hid hst
    clear hst HST0
    by_cases hi : i < xs.length
    . obtain ⟨ab,o,k2,nm2,n2,la2,ll2,lc2,ab2,al2,ac2,haa,hrg,hec⟩ := (HA.out.grow HST.out.below).at_ hi
      have HRG := Lib.hid hrg
      have HEC := Lib.hid hec
      have HHI := Lib.hid hi
      have HBX : Hid (Below wr.heap.size wr (wr.alloc (.cells #[.int .i64 k2,.string nm2,.int .i64 n2,.slice la2 ll2 lc2,.slice ab2 al2 ac2] 25))) := (Below.refl _ _).alloc (Nat.le_refl _) _
      have HXN : Hid ((wr.alloc (.cells #[.int .i64 k2,.string nm2,.int .i64 n2,.slice la2 ll2 lc2,.slice ab2 al2 ac2] 25)).rangeAt wr.heap.size 0 [.int .i64 k2,.string nm2,.int .i64 n2,.slice la2 ll2 lc2,.slice ab2 al2 ac2]) := qaB (heap_alloc_new _ _)
      have hsx : wr.heap.size < (wr.alloc (.cells #[.int .i64 k2,.string nm2,.int .i64 n2,.slice la2 ll2 lc2,.slice ab2 al2 ac2] 25)).heap.size := by simp
      have HSX := Lib.hid hsx
      have k0 : (0 : Int) <= (i : Int) := by omega
      have k1 : (i : Int) < (xs.length : Int) := by omega
      have hw : IntKind.i64.wrap ((i : Int) + 1) = (i : Int) + 1 := IntWalk.i64_in _ (by omega)
      subst haa
      clear hrg hec hsx
      go_upto_region 14 with (first
       | (refine wpList_load_mid rfl 25 (.tmp 42) rfl ab (o + i * 5) rfl [.int .i64 k2,.string nm2,.int .i64 n2,.slice la2 ll2 lc2,.slice ab2 al2 ac2] _ HRG.out Tryz.underlying25 rfl exprSize ?_)
       | (refine qaC rfl 25 (.tmp 10) (.tmp 43) rfl wr _ #[.int .i64 k2,.string nm2,.int .i64 n2,.slice la2 ll2 lc2,.slice ab2 al2 ac2] rfl rfl exprSize rfl (by simp [Value.oneCell']) ?_))
      generalize (wr.alloc (.cells #[.int .i64 k2,.string nm2,.int .i64 n2,.slice la2 ll2 lc2,.slice ab2 al2 ac2] 25)) = Wa at *
      have HS1 : Hid (LSr (w.heap.size + 2) wr.heap.size v [.int .i64 k2,.string nm2,.int .i64 n2,.slice la2 ll2 lc2,.slice ab2 al2 ac2] Wa.drew) := ⟨cell_of_row _ _ 4 _ _ _ ((HBX.out.block _ (by have := HST.out.up;omega)).trans HST.out.out),HXN.out⟩
      have HRA : Hid (LwS B w.heap.size w cx (.int .i64 k) (.string ⟨nm.toArray⟩) (.int .i64 n) (.slice la ls.length lc) (lawL (lkP (ns.zip vs)) (xs.take i)) v i fl Wa.drew) := HST.out.keep (HBX.out.trans (Below.drew (Below.mono (Below.refl _ _) HBX.out.size)))
      have HCL : Hid (Calls Tryz.prog 11 #[.agg #[.int .i64 k2,.string nm2,.int .i64 n2,.slice la2 ll2 lc2,.slice ab2 al2 ac2],.slice na ns.length nc,.slice va vs.length vc] Wa.drew (LwPost B Wa.drew (lawE (lkP (ns.zip vs)) (xs[i]'hi)))) := by
       refine HX.out i hi _ Wa.drew HRA.out.below ?_
       exact ExprC.mono (w' := Wa.drew) (fun q hq hlt => ⟨hq,HBX.out.block q hlt⟩) _ _ HEC.out
      have HWD : Hid (Wa.drew.heap.size = Wa.heap.size) := rfl
      have HVB : Hid (∀ g,v.ownBlock = some g -> w.heap.size + 3 <= g /\ g < wr.heap.size) := fun g e => World.ownsRow.lt HST.out.own g e
      clear HEC HX HRG HXN HST
      refine qaZ 9 9 (LSr (w.heap.size + 2) wr.heap.size v [.int .i64 k2,.string nm2,.int .i64 n2,.slice la2 ll2 lc2,.slice ab2 al2 ac2]) [(1,0),(0,1),(0,2),(1,3),(1,4),(2,5),(2,6),(2,7),(1,8)] default (by kernel_rfl) (by kernel_rfl) (fun _ _ d _ _ h => by cases d <;> exact h) HS1.out ?_
      generalize Wa.drew = Wd at *
      simp only [List.map_cons,List.map_nil,List.getD_cons_zero,List.getD_cons_succ]
      apply qaQ rfl
      . intro W
        go_simp
        rfl
      go_simp
      apply qbH rfl
      . intro W hW
        have z0 := hW.1
        go_simp
        try rfl
      go_simp
      refine qaP rfl 25 (.tmp 10) rfl wr.heap.size 0 rfl [.int .i64 k2,.string nm2,.int .i64 n2,.slice la2 ll2 lc2,.slice ab2 al2 ac2] _ (fun W hW => hW.2) Tryz.underlying25 rfl exprSize ?_
      go_simp
      apply qaQ rfl
      . intro W
        go_simp
        rfl
      go_simp
      apply qaQ rfl
      . intro W
        go_simp
        rfl
      go_simp
      apply qbF rfl
      . go_simp
        exact ⟨rfl,rfl⟩
      refine HCL.out.mono ?_
      rintro e w2 ⟨⟨cs,rfl,hcs⟩,hb2⟩
      obtain ⟨k3,nm3,n3,la3,ll3,lc3,ab3,al3,ac3,rfl⟩ := hcs.shape
      have hwd : wr.heap.size < Wd.heap.size := by rw [HWD.out];exact HSX.out
      have hS2 : LSr (w.heap.size + 2) wr.heap.size v [.int .i64 k2,.string nm2,.int .i64 n2,.slice la2 ll2 lc2,.slice ab2 al2 ac2] w2 := HS1.out.keep hb2 (Nat.succ_pos _)
      have HR2 := Lib.hid (HRA.out.keep hb2)
      have hvb : ∀ g,v.ownBlock = some g -> w.heap.size + 3 <= g /\ g < wr.heap.size := HVB.out
      have hcs2 : ExprC w2 (fun q => (q < B \/ w.heap.size + 3 <= q) /\ v.ownBlock ≠ some q) (lawE (lkP (ns.zip vs)) (xs[i]'HHI.out)) [.int .i64 k3,.string nm3,.int .i64 n3,.slice la3 ll3 lc3,.slice ab3 al3 ac3] :=
       ExprC.mono (fun q (hq : q < B \/ Wd.heap.size <= q) _ => ⟨⟨by have := HRA.out.up;omega,fun e => by have := hvb q e;omega⟩,rfl⟩) _ _ hcs
      have HCS := Lib.hid hcs2
      have hup := HR2.out.up
      obtain ⟨v',w3,hrun,hown,hg,_,hat⟩ := run_append_own_at (P := Tryz.prog) (w2.alloc (.cells #[.int .i64 k3,.string nm3,.int .i64 n3,.slice la3 ll3 lc3,.slice ab3 al3 ac3] 25)) (w.heap.size + 3) 23 23 25 i0 _ 5 80 Tryz.underlying23 HI.out HZ0.out HZ1.out HZ2.out rfl (by decide) v i fl (World.ownsRow.alloc HR2.out.own _) ⟨w2.heap.size,0,none⟩ 1 1 [.int .i64 k3,.string nm3,.int .i64 n3,.slice la3 ll3 lc3,.slice ab3 al3 ac3] rfl
       (World.news_of_block (cs := #[.int .i64 k3,.string nm3,.int .i64 n3,.slice la3 ll3 lc3,.slice ab3 al3 ac3]) (t := 25) (fr := (0,0)) (heap_alloc_new w2 _)) (ExprC.one hcs) (by unfold maxLen;omega) (by omega) (by simp;omega)
      obtain ⟨VA',ck',rfl⟩ := qeQ hown
      have hst3 := HR2.out.step HCS.out hown hg hat
      rw [<- lawL_snoc _ HHI.out] at hst3
      have HST3 := Lib.hid hst3
      have hS4 : LSr (w.heap.size + 2) wr.heap.size v [.int .i64 k2,.string nm2,.int .i64 n2,.slice la2 ll2 lc2,.slice ab2 al2 ac2] (w2.alloc (.cells #[.int .i64 k3,.string nm3,.int .i64 n3,.slice la3 ll3 lc3,.slice ab3 al3 ac3] 25)) := hS2.keep ((Below.refl _ _).alloc (Nat.le_refl _) _) (Nat.succ_pos _)
      have hS5 : LSr (w.heap.size + 2) wr.heap.size v [.int .i64 k2,.string nm2,.int .i64 n2,.slice la2 ll2 lc2,.slice ab2 al2 ac2] w3 := hS4.grown hg (Nat.succ_pos _) (fun e => by have := (hvb _ e).1;omega) (fun e => by have := (hvb _ e).2;omega)
      have z4 : w3.cell? ⟨w.heap.size + 2,4,none⟩ = some v := hS5.1
      have hb7 : w3.heap[w.heap.size + 2]? = w2.heap[w.heap.size + 2]? := (hg.block (w.heap.size + 2) (by simp;omega) (fun e => by have := (hvb _ e.symm).1;omega)).trans (((Below.refl w2.heap.size w2).alloc (Nat.le_refl _) _).block (w.heap.size + 2) (by omega))
      have z3 : w3.frozen? ⟨w.heap.size + 2,4,none⟩ = false := by
       have ho := hb7.trans HR2.out.out
       simp [World.frozen?,ho]
      refine ⟨_,rfl,hS2,?_⟩
      go_simp
      refine mixf_step rfl (qeG 23 25 1 _ rfl #[.int .i64 k3,.string nm3,.int .i64 n3,.slice la3 ll3 lc3,.slice ab3 al3 ac3] i0 _ Tryz.underlying23 HI.out HZ0.out (by rw [HZ1.out];decide) (by rw [HZ1.out];decide) (by rw [HZ1.out];go_simp;done)) hS4 ?_
      go_simp
      refine mixf_step rfl (qdZ (.tmp 45) (.tmp 50) 23 rfl rfl rfl hrun) hS5 ?_
      go_simp
      apply qaQ rfl
      . intro W
        go_simp
        rfl
      go_simp
      refine qbX ?_
      show wpList _ _ _ _ _ _
      go_simp
      clear hrun hown hg hat hS2 hS4 hS5 HS1 HRA HR2 HCL hcs hcs2 HCS hb2 hb7 hst3
      go_upto_region 15 with fail
      generalize w3.setCell ⟨w.heap.size + 2,4,none⟩ (.slice VA' (i + 1) ck') = w8 at *
      clear z4 z3
      go_wp2_with fail
      go_roundg (xs.length - (i + 1))
      case measure => omega
      case rel => exact ⟨i + 1,_,_,by omega,by go_num,HST3.out⟩
    . have hie : i = xs.length := by omega
      subst hie
      obtain ⟨VA,ck,rfl⟩ := qeQ HST.out.own
      have HOR : Hid (wr.rangeAt (w.heap.size + 2) 0 [.int .i64 k,.string ⟨nm.toArray⟩,.int .i64 n,.slice la ls.length lc,.slice VA xs.length ck]) := qaB HST.out.out
      go_wp2_with (first
       | (refine wpList_load_mid rfl 25 (.tmp 8) rfl (w.heap.size + 2) 0 rfl [.int .i64 k,.string ⟨nm.toArray⟩,.int .i64 n,.slice la ls.length lc,.slice VA xs.length ck] _ HOR.out Tryz.underlying25 rfl exprSize ?_)
       | (refine qaA rfl 25 (.tmp 6) (.tmp 54) rfl _ (w.heap.size + 1) 25 #[.int .i64 0,.string ⟨#[]⟩,.int .i64 0,.slice none 0 0,.slice none 0 0] #[.int .i64 k,.string ⟨nm.toArray⟩,.int .i64 n,.slice la ls.length lc,.slice VA xs.length ck] rfl rfl HST.out.zero exprSize rfl (by simp [Value.oneCell']) ?_))
      refine bodyPost_ret (qcF (P := Tryz.prog) rfl _ _ (w.heap.size + 1) 25 #[.int .i64 k,.string ⟨nm.toArray⟩,.int .i64 n,.slice la ls.length lc,.slice VA xs.length ck] (0,0) _ rfl (qaF _ (w.heap.size + 1) _ _ _ HST.out.zero) Tryz.underlying25 rfl exprSize) rfl ?_
      rw [HR.out]
      have hup := HST.out.up
      refine ⟨⟨[.int .i64 k,.string ⟨nm.toArray⟩,.int .i64 n,.slice la ls.length lc,.slice VA xs.length ck],rfl,?_⟩,qaD HST.out.below (by omega) _⟩
      unfold ExprC
      refine ⟨la,lc,VA,ck,by rw [lawL_len],HLI.out.mono fun q hq hl => ⟨.inl hq,(setRow_other _ _ _ _ (by omega)).trans (HST.out.below.block q hl)⟩,fun hz => ?_⟩
      rw [lawL_len] at hz
      obtain ⟨g,cap,hv7,hlo,hlt⟩ := HST.out.own.form hz
      injection hv7 with hv7
      subst hv7
      have hce := HST.out.cells
      rw [List.take_length] at hce
      refine ⟨g,0,rfl,.inr (by omega),CellsOf.exprs 0 (CellsOf.mono (F' := fun q => q < B \/ w.heap.size <= q) (fun q hq _ => ⟨by omega,setRow_other _ _ _ _ (by omega)⟩) hce) ?_⟩
      intro j u hj
      have hcl := HST.out.own.cells (g := g) rfl j u hj
      rw [Addr.add_mid] at hcl
      exact (World.cell?_of_block (a := ⟨g,0 + j,none⟩) (setRow_other _ _ _ _ (show g ≠ _ by omega))).trans hcl
theorem replaced_c (B : Nat) (na : Option Addr) (nc : Nat) (va : Option Addr) (vc : Nat) (ns : List (List UInt8)) (vs : List E) (hnl : ns.length <= 8) (hvl : vs.length <= 8) : ∀ (x : E) (cs : List Value) (w : World),ExprC w (· < B) x cs -> StrsF w (· < B) na ns -> ArgsAt w (· < B) va vs -> B <= w.heap.size -> OkE x ->
 Calls Tryz.prog 11 #[.agg cs.toArray,.slice na ns.length nc,.slice va vs.length vc] w (LwPost B w (lawE (lkP (ns.zip vs)) x)) := by
 refine qaT ?_
 intro k nm n ls xs ih cs w h hn hv hB hok
 unfold ExprC at h
 obtain ⟨la,lc,aa,ac,rfl,hli,ha⟩ := h
 exact replaced_walk B k nm n ls xs la lc aa ac na nc va vc ns vs w hli ha hn hv hB hok.lens.2 hnl hvl
  (fun i hi cs w' hb hx => ih _ (List.getElem_mem hi) cs w' hx (hn.mono fun q (hq : q < B) hl => ⟨hq,hb.block q hl⟩) (hv.mono fun q (hq : q < B) hl => ⟨hq,hb.block q hl⟩) (Nat.le_trans hB hb.size) (hok.arg (List.getElem_mem hi)))
end Go.Proofs.YtaddcadapbpkfaaGreatDoor
