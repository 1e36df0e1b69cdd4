/-
 compile.replace: the walk.
-/
import Derived.Test.YtaddcadapbpkfaaGreatDoorR43
import Derived.Test.YtaddcadapbpkfaaGreatDoorR07
import Derived.Test.YtaddcadapbpkfaaGreatDoorR15
import Derived.Test.YtaddcadapbpkfaaGreatDoorR16
import Derived.Test.YtaddcadapbpkfaaGreatDoorR22
namespace Go.Proofs.YtaddcadapbpkfaaGreatDoor
open Go.RowKit Pln Go.MapKept
theorem qeQ {w : World} {base size n : Nat} {e : TypeId} {v : Value} {xs : List Value} (h : w.ownsRow base e size v n xs) : ∃ VA ck,v = .slice VA n ck := by
 rcases h.2 with ⟨h1,h2⟩ | ⟨g,cap,cur,hv,_⟩
 . subst h2
   exact ⟨_,_,h1⟩
 . exact ⟨_,_,hv⟩
def RepPost (w : World) (y : E) (e : Ending) (w' : World) : Prop :=
 (∃ cs : List Value,e = .returned (.agg cs.toArray) /\ ExprC w' (fun b => w.heap.size <= b) y cs) /\ Below w.heap.size w w'
theorem ints_upF {w : World} {B : Nat} {A : Option Addr} {zs : List Int} (h : IntsUp w B A zs) : IntsF w (fun q => B <= q /\ q < w.heap.size) A zs := fun hz => by
 obtain ⟨b,o,e,h1,h2,h3⟩ := h hz
 exact ⟨b,o,e,⟨h1,h2⟩,h3⟩
theorem ints_atF {w : World} {F : Nat -> Prop} {A : Option Addr} {zs : List Int} (h : IntsF w F A zs) : IntsAt w w.heap.size A zs := fun hz => by
 obtain ⟨b,o,e,h1,h2⟩ := h hz
 exact ⟨b,o,e,World.block_lt_of_cell? w _ (h2 0 hz),h2⟩
structure RSt (f : List UInt8 -> Option E) (lo hi b : Nat) (w : World) (c0 c1 c2 : Value) (xs : List E) (ls : List Int) (A : Option Addr) (c : Nat) (v : Value) (i : Nat) (fl : List Value) (wr : World) : Prop where
 below : Below lo w wr
 up : hi <= wr.heap.size
 lob : lo + 1 < b
 bhi : b < hi
 out : wr.heap[b]? = some (.cells [c0,c1,c2,.slice A ls.length c,v].toArray 25 (0,0))
 zero : wr.heap[lo + 1]? = some (.cells [.int .i64 0,.string ⟨#[]⟩,.int .i64 0,.slice none 0 0,.slice none 0 0].toArray 25 (0,0))
 ints : IntsF wr (fun q => lo + 1 < q /\ q < hi /\ q ≠ b) A ls
 own : wr.ownsRow hi 25 5 v i fl
 cells : CellsOf wr (fun q => hi <= q /\ v.ownBlock ≠ some q) (repL f (xs.take i)) fl
section
variable {f : List UInt8 -> Option E} {lo hi b : Nat} {w : World} {c0 c1 c2 : Value} {xs : List E} {ls : List Int} {A : Option Addr} {c : Nat} {v : Value} {i : Nat} {fl : List Value} {wr W w3 : World}
theorem RSt.keep (h : RSt f lo hi b w c0 c1 c2 xs ls A c v i fl wr) (hb : Below wr.heap.size wr W) : RSt f lo hi b w c0 c1 c2 xs ls A c v i fl W := by
 have h1 := h.up
 have h2 := h.lob
 have h3 := h.bhi
 exact ⟨h.below.trans (hb.mono (by omega)),Nat.le_trans h.up hb.size,h.lob,h.bhi,(hb.block _ (by omega)).trans h.out,(hb.block _ (by omega)).trans h.zero,
  h.ints.mono fun q hq hl => ⟨hq,hb.block q hl⟩,
  h.own.kept (row := none) ⟨hb.os,hb.tape,hb.output,hb.size,fun j hj _ => hb.block j hj⟩ (by cases v.ownBlock <;> simp),
  CellsOf.mono (fun q hq hl => ⟨hq,hb.block q hl⟩) h.cells⟩
theorem repL_snoc (f : List UInt8 -> Option E) {xs : List E} {i : Nat} (hi : i < xs.length) : repL f (xs.take (i + 1)) = repL f (xs.take i) ++ [repE f (xs[i]'hi)] := by
 rw [qaV (List.getElem?_eq_getElem hi),repL_map,repL_map,List.map_append]
 rfl
theorem RSt.step (h : RSt f lo hi b w c0 c1 c2 xs ls A c v i fl W) (hi' : i < xs.length) {cs : List Value} (hcs : ExprC W (fun q => hi <= q /\ v.ownBlock ≠ some q) (repE f (xs[i]'hi')) cs) {o : Obj} {v' : Value}
 (hown : w3.ownsRow hi 25 5 v' (i + 1) (fl ++ cs)) (hg : (W.alloc o).grownBy w3 v.ownBlock) (hat : v'.ownBlock = v.ownBlock \/ v'.ownBlock = some (W.alloc o).heap.size) :
 RSt f lo hi b w c0 c1 c2 xs ls A c v' (i + 1) (fl ++ cs) (w3.setCell ⟨b,4,none⟩ v') := by
 have h1 := h.up
 have h2 := h.lob
 have h3 := h.bhi
 have hs1 : (W.alloc o).heap.size = W.heap.size + 1 := World.size_alloc _ _
 have hs2 := hg.size
 have hv : ∀ g,v.ownBlock = some g -> hi <= g /\ g < W.heap.size := fun g e => World.ownsRow.lt h.own g e
 have hblk : ∀ q,q < W.heap.size -> v.ownBlock ≠ some q -> w3.heap[q]? = W.heap[q]? := fun q hq hne => by
  exact (hg.block q (by omega) (fun e => hne e.symm)).trans (((Below.refl W.heap.size W).alloc (Nat.le_refl _) o).block q hq)
 have hblk2 : ∀ q,q < W.heap.size -> v.ownBlock ≠ some q -> q ≠ b -> (w3.setCell ⟨b,4,none⟩ v').heap[q]? = W.heap[q]? := fun q hq hne hqb =>
  (Below.heap_setCell w3 ⟨b,4,none⟩ v' q hqb).trans (hblk q hq hne)
 have hlow : ∀ q,q < hi -> v.ownBlock ≠ some q := fun q hq e => by have := (hv q e).1;omega
 have hbx : w3.heap[b]? = some (.cells [c0,c1,c2,.slice A ls.length c,v].toArray 25 (0,0)) := (hblk b (by omega) (hlow b h3)).trans h.out
 have hbl : Below lo w w3 := (h.below.alloc (by have := h.below.size;omega) _).grown hg (by omega) (fun j hj => by have := (hv j hj).1;omega)
 refine ⟨hbl.setCell (p := ⟨b,4,none⟩) (by show lo <= b;omega) _,by simp;omega,h2,h3,by have := qaY hbx 4 v';simpa using this,
  (hblk2 _ (by omega) (hlow _ (by omega)) (by omega)).trans h.zero,h.ints.mono fun q hq hl => ⟨hq,hblk2 q hl (hlow q hq.2.1) hq.2.2⟩,?_,?_⟩
 . exact World.ownsRow.kept hown (row := some b) ⟨rfl,rfl,rfl,by simp,fun j _ hne => Below.heap_setCell w3 ⟨b,4,none⟩ v' j (fun e => hne (by rw [e]))⟩ (by
    cases hvv : v'.ownBlock with
    | none => exact .inl rfl
    | some g => exact .inr (fun e => by injection e with e;have := (World.ownsRow.lt hown g hvv).1;omega))
 . have hF : ∀ q,(hi <= q /\ v.ownBlock ≠ some q) -> q < W.heap.size -> (hi <= q /\ v'.ownBlock ≠ some q) /\ (w3.setCell ⟨b,4,none⟩ v').heap[q]? = W.heap[q]? := fun q hq hl =>
    ⟨⟨hq.1,fun e => by
      rcases hat with h | h
      . exact hq.2 (h ▸ e)
      . rw [h] at e
        injection e with e
        omega⟩,hblk2 q hl hq.2 (by omega)⟩
   rw [repL_snoc f hi']
   exact CellsOf.snoc (ExprC.mono hF _ _ hcs) (CellsOf.mono hF h.cells)
end
def RelRp (f : List UInt8 -> Option E) (lo hi b : Nat) (w : World) (c0 c1 c2 : Value) (xs : List E) (ls : List Int) (A : Option Addr) (c : Nat) (v39 : Value) (g : Nat) (wr : World) : Prop :=
 ∃ i v fl,i + g = xs.length /\ v39 = .int .i64 i /\ RSt f lo hi b w c0 c1 c2 xs ls A c v i fl wr
def LSr (b yb : Nat) (v : Value) (cs : List Value) (W : World) : Prop := W.cell? ⟨b,4,none⟩ = some v /\ W.rangeAt yb 0 cs
theorem LSr.keep {b yb : Nat} {v : Value} {cs : List Value} {W W' : World} (h : LSr b yb v cs W) (hb : Below W.heap.size W W') (hl : 0 < cs.length) : LSr b yb v cs W' :=
 ⟨(hb.cell (p := ⟨b,4,none⟩) (World.block_lt_of_cell? W _ h.1)).trans h.1,qaJ h.2 (hb.block _ (qcX h.2 hl))⟩
theorem LSr.grown {b yb : Nat} {v : Value} {cs : List Value} {W W' : World} {row : Option Nat} (h : LSr b yb v cs W) (hg : W.grownBy W' row) (hl : 0 < cs.length) (h1 : row ≠ some b) (h2 : row ≠ some yb) : LSr b yb v cs W' :=
 ⟨(World.cell?_of_block (a := ⟨b,4,none⟩) (hg.block b (World.block_lt_of_cell? W _ h.1) (fun e => h1 e.symm))).trans h.1,qaJ h.2 (hg.block _ (qcX h.2 hl) (fun e => h2 e.symm))⟩
def LSx (a w : World) : Prop := Below a.heap.size a w
theorem litX (k : Int) (ok : Bool) : (ok && (k == 4)) = true ↔ k = 4 /\ ok = true := by
 cases ok <;> simp
set_option maxHeartbeats 8000000 in
set_option maxRecDepth 100000 in
theorem replace_walk (f : List UInt8 -> Option E) (m : Option Nat) (B : Nat) (k : Int) (nm : List UInt8) (n : Int) (ls : List Int) (xs : List E) (la : Option Addr) (lc : Nat) (aa : Option Addr) (ac : Nat) (w : World)
 (hli : IntsF w (· < B) la ls) (ha : ArgsAt w (· < B) aa xs) (hm : MapE w (· < B) m f) (_hB : B <= w.heap.size) (hls : ls.length <= 1000000) (hxl : xs.length <= 1000000)
 (hn : ∀ (y : E) (cs : List Value) (w' : World),k = 4 -> f nm = some y -> Below w.heap.size w w' -> ExprC w' (· < B) y cs -> Calls Tryz.prog 24 #[.agg cs.toArray,.map none] w' (RepPost w' y))
 (hx : ∀ (i : Nat) (hi : i < xs.length) (cs : List Value) (w' : World),Below w.heap.size w w' -> ExprC w' (· < B) (xs[i]'hi) cs -> Calls Tryz.prog 24 #[.agg cs.toArray,.map m] w' (RepPost w' (repE f (xs[i]'hi)))) :
 Calls Tryz.prog 24 #[.agg #[.int .i64 k,.string ⟨nm.toArray⟩,.int .i64 n,.slice la ls.length lc,.slice aa xs.length ac],.map m] w (RepPost w (repE f (.mk k nm n ls xs))) := by
 obtain ⟨i0,hi,hz0,hz1,hz2⟩ := info_parts infoExprE
 have HI := Lib.hid hi
 have HZ0 := Lib.hid hz0
 have HZ1 := Lib.hid hz1
 have HZ2 := Lib.hid hz2
 have HLI := Lib.hid hli
 have HA := Lib.hid ha
 have HN := Lib.hid hn
 have HX := Lib.hid hx
 have HB0 := Lib.hid (bx2 w #[.int .i64 k,.string ⟨nm.toArray⟩,.int .i64 n,.slice la ls.length lc,.slice aa xs.length ac] #[.int .i64 0,.string ⟨#[]⟩,.int .i64 0,.slice none 0 0,.slice none 0 0] 25 25)
 have HS0 : Hid (((w.alloc (.cells #[.int .i64 k,.string ⟨nm.toArray⟩,.int .i64 n,.slice la ls.length lc,.slice aa xs.length ac] 25)).alloc (.cells #[.int .i64 0,.string ⟨#[]⟩,.int .i64 0,.slice none 0 0,.slice none 0 0] 25)).heap.size = w.heap.size + 2) := by show _ = _;simp
 clear hi hz0 hz1 hz2 hli ha hn hx
 go_enter Tryz.func24,Tryz.ntmps24
 go_upto_region 1 with fail
 generalize ((w.alloc (.cells #[.int .i64 k,.string ⟨nm.toArray⟩,.int .i64 n,.slice la ls.length lc,.slice aa xs.length ac] 25)).alloc (.cells #[.int .i64 0,.string ⟨#[]⟩,.int .i64 0,.slice none 0 0,.slice none 0 0] 25)) = W0 at *
 obtain ⟨k',nm',n',la',ll',lc',ab',al',ac',hlk,hy⟩ := (hm.keep (F' := (· < B)) fun b hb hlt => ⟨hb,HB0.out.below.block b hlt⟩).look nm
 have HY := Lib.hid hy
 have HLK := Lib.hid hlk
 have hc1 : W0.cell? ⟨w.heap.size,1,none⟩ = some (.string ⟨nm.toArray⟩) := cell_of_row _ _ 1 _ _ _ (HB0.out.at_ (i := 0) rfl)
 obtain ⟨HB1',HS1'⟩ := HB0.out.alloc HS0.out [.int .i64 k',.string nm',.int .i64 n',.slice la' ll' lc',.slice ab' al' ac'] 25
 have HB1 := Lib.hid HB1'
 have HS1 := Lib.hid HS1'
 clear hy hlk HB1' HS1'
 generalize hok : (f nm).isSome = ok at *
 have HOK := Lib.hid hok
 clear hok
 go_upto_region 2 with (first
  | (refine qdL rfl 63 (.tmp 11) (.tmp 13) rfl (.map m) (.string ⟨nm.toArray⟩) _ rfl rfl HLK.out ?_)
  | (refine qaC rfl 25 (.tmp 5) (.tmp 15) rfl W0 _ #[.int .i64 k',.string nm',.int .i64 n',.slice la' ll' lc',.slice ab' al' ac'] rfl rfl exprSize rfl (by simp [Value.oneCell']) ?_))
 have hcz : (W0.alloc (.cells #[.int .i64 k',.string nm',.int .i64 n',.slice la' ll' lc',.slice ab' al' ac'] 25)).cell? ⟨w.heap.size,0,none⟩ = some (.int .i64 k) := cell_of_row _ _ 0 _ _ _ (HB1.out.at_ (i := 0) rfl)
 have hw0 : W0.heap.size = w.heap.size + 2 := HS0.out
 have HBA : Hid (Below W0.heap.size W0 (W0.alloc (.cells #[.int .i64 k',.string nm',.int .i64 n',.slice la' ll' lc',.slice ab' al' ac'] 25))) := (Below.refl _ _).alloc (Nat.le_refl _) _
 generalize W0.alloc (.cells #[.int .i64 k',.string nm',.int .i64 n',.slice la' ll' lc',.slice ab' al' ac'] 25) = W1 at *
 clear hc1
 go_cut [22] (fun c wx => c = .bool (ok && (k == 4)) /\ wx = W1)
 case first =>
  clear HI HZ0 HZ1 HZ2 HLI HA HN HX HB0 HS0 HY HLK HB1 HS1 HOK hm
  cases ok
  . go_wp2_with fail
    go_meet
    exact ⟨rfl,rfl⟩
  . go_wp2_with fail
    go_meet
    exact ⟨rfl,rfl⟩
 case rest =>
  obtain ⟨rfl,rfl⟩ := hcut
  cases hhit : (ok && (k == 4))
  . have HR : Hid (repE f (.mk k nm n ls xs) = .mk k nm n ls (repL f xs)) := by
     show _ = _
     unfold repE
     rw [if_neg fun h => by
      have := (litX k ok).2 ⟨h.1,HOK.out.symm.trans h.2⟩
      rw [hhit] at this
      cases this]
    clear HN HY HLK
    have HXR : Hid (wc.rangeAt w.heap.size 0 [.int .i64 k,.string ⟨nm.toArray⟩,.int .i64 n,.slice la ls.length lc,.slice aa xs.length ac]) := qaB (HB1.out.at_ (i := 0) rfl)
    have hs3 : wc.heap.size = w.heap.size + 3 := HS1.out
    have HS3 := Lib.hid hs3
    have HCV : Hid (∀ W,LSx wc W -> W.cell? ⟨w.heap.size,0,none⟩ = some (.int .i64 k) /\ W.cell? ⟨w.heap.size,1,none⟩ = some (.string ⟨nm.toArray⟩) /\ W.cell? ⟨w.heap.size,2,none⟩ = some (.int .i64 n) /\ W.cell? ⟨w.heap.size,3,none⟩ = some (.slice la ls.length lc)) := fun W hW => by
     have hb : W.heap[w.heap.size]? = wc.heap[w.heap.size]? := Below.block hW _ (by omega)
     have hr := qaJ HXR.out hb
     exact ⟨hr 0 _ rfl,hr 1 _ rfl,hr 2 _ rfl,hr 3 _ rfl⟩
    have HSD : Hid (LSx wc wc.drew) := (Below.refl _ _).drew
    have HIA : Hid (∀ W,LSx wc W -> IntsAt W W.heap.size la ls) := fun W hW => by
     have h1 : IntsF W (· < B) la ls := HLI.out.mono fun b hb hlt => ⟨hb,(HB1.out.keep hW).below.block b hlt⟩
     exact ints_atF h1
    clear hhit HOK hcz hm
    rw [hw0]
    clear hw0
    go_upto_region 4 with fail
    go_cut [7] (fun v7 wx => ∃ b A' c',v7 = .pointer (some ⟨b,0,none⟩) /\ RSt f w.heap.size wx.heap.size b w (.int .i64 k) (.string ⟨nm.toArray⟩) (.int .i64 n) xs ls A' c' (.slice none 0 0) 0 [] wx /\ Below wc.heap.size wc wx)
    case first =>
     refine qbU 12 12 11 (LSx wc) [(1,0),(0,1),(1,2),(0,3),(1,4),(0,5),(1,7),(0,8),(2,6),(2,9),(1,10)] [] default _ (.cells #[.int .i64 0,.string ⟨#[]⟩,.int .i64 0,.slice none 0 0,.slice none 0 0] 25) (by kernel_rfl) (by kernel_rfl) (fun _ _ d _ _ h => by cases d <;> exact h) rfl rfl ?_ (fun W hW => Below.alloc hW (Below.size hW) _) HSD.out ?_
     . intro a w
       unfold ptrTo
       go_simp
     simp only [List.map_cons,List.map_nil,List.getD_cons_zero,List.getD_cons_succ]
     iterate 3
      apply qeK rfl
      . intro W
        go_simp
        rfl
      go_simp
      apply x_val rfl
      . intro W hW
        obtain ⟨z0,z1,z2,z3⟩ := HCV.out W hW
        go_simp
        rfl
      go_simp
     apply qeK rfl
     . intro W
       go_simp
       rfl
     go_simp
     apply x_val rfl
     . intro W hW
       obtain ⟨z0,z1,z2,z3⟩ := HCV.out W hW
       go_simp
       rfl
     go_simp
     apply x_step rfl
     intro V1 hV1 hS1
     refine ⟨.slice (some ⟨V1.heap.size,0,none⟩) 0 0,V1.alloc (.cells #[] 3),by go_simp,Below.alloc hS1 (Below.size hS1) _,(Below.refl _ _).alloc (Nat.le_refl _) _,?_⟩
     go_simp
     generalize V1.heap.size = b0 at *
     clear hV1 hS1
     apply x_step rfl
     intro V2 hV2 hS2
     obtain ⟨A',c',w',hrun,hup,hbl⟩ := run_copy_ints 22 b0 la lc ls V2 (HIA.out V2 hS2) hls
     have hs2 : wc.heap.size <= V2.heap.size := Below.size hS2
     have hS3 : LSx wc w' := Below.trans hS2 (hbl.mono (Below.size hS2))
     refine ⟨.slice A' ls.length c',w',qdZ (.tmp 31) (.tmp 33) 22 rfl rfl rfl hrun,hS3,hbl,?_⟩
     go_simp
     have HUP := Lib.hid hup
     clear hV2 hS2 hrun hup hbl hS3
     apply qeK rfl
     . intro W
       go_simp
       rfl
     go_simp
     refine x_nil ?_
     intro W3 b hW3 hS3 hlo hF hb
     have HB9 := Lib.hid hb
     have hlo9 : wc.heap.size <= b := by have h3 := HS3.out;have h4 := hlo;omega
     have HB3 := Lib.hid (HB1.out.keep hS3)
     have hb3 : b < W3.heap.size := (Array.getElem?_eq_some_iff.1 hb).1
     have hHUP : ∀ cs,IntsF (W3.setRow b cs) (fun q => w.heap.size + 1 < q /\ q < (W3.setRow b cs).heap.size /\ q ≠ b) A' ls := fun cs => by
      have hup2 := ints_upF HUP.out
      refine hup2.mono fun q hq hlt => ⟨⟨by omega,by simp;have := hW3.size;omega,fun e => hF (.inr (e ▸ hq))⟩,(setRow_other W3 b q cs (fun e => hF (.inr (e ▸ hq)))).trans (hW3.block q hlt)⟩
     have HRST : Hid (RSt f w.heap.size (W3.setRow b #[.int .i64 k,.string ⟨nm.toArray⟩,.int .i64 n,.slice A' ls.length c',.slice none 0 0]).heap.size b w (.int .i64 k) (.string ⟨nm.toArray⟩) (.int .i64 n) xs ls A' c' (.slice none 0 0) 0 [] (W3.setRow b #[.int .i64 k,.string ⟨nm.toArray⟩,.int .i64 n,.slice A' ls.length c',.slice none 0 0])) :=
      ⟨qaD HB3.out.below (by omega) _,Nat.le_refl _,by omega,by simpa using hb3,qaF _ _ _ _ _ hb,(setRow_other _ _ _ _ (by omega)).trans (HB3.out.at_ (i := 1) rfl),hHUP _,World.ownsRow_nil _ _ _ _,by unfold CellsOf;rfl⟩
     have HBW : Hid (Below wc.heap.size wc (W3.setRow b #[.int .i64 k,.string ⟨nm.toArray⟩,.int .i64 n,.slice A' ls.length c',.slice none 0 0])) := qaD hS3 hlo9 _
     show wpList _ _ _ _ _ _
     go_simp
     clear hW3 hS3 hlo hb HUP hF hs2 hHUP
     go_wp2_with (refine qaA rfl 25 (.tmp 7) (.tmp 35) rfl W3 b 25 #[.int .i64 0,.string ⟨#[]⟩,.int .i64 0,.slice none 0 0,.slice none 0 0] #[.int .i64 k,.string ⟨nm.toArray⟩,.int .i64 n,.slice A' ls.length c',.slice none 0 0] rfl rfl HB9.out exprSize rfl (by simp [Value.oneCell']) ?_)
     go_meet
     exact ⟨b,A',c',rfl,HRST.out,HBW.out⟩
    case rest =>
     obtain ⟨b,A',c',rfl,hst,hbw⟩ := hcut
     have HST0 := Lib.hid hst
     have hac : wc.cell? ⟨w.heap.size,4,none⟩ = some (.slice aa xs.length ac) := qaJ HXR.out (hbw.block _ (by have := HS3.out;omega)) 4 _ rfl
     clear hst hbw HCV HSD HIA HXR HB1 HS1 HBA HB0 HS0 hs3 HS3
     generalize hhi : wc.heap.size = hi0 at *
     clear hhi
     go_upto_region 6 with fail
     go_loopg [39] xs.length (fun g v wr => RelRp f w.heap.size hi0 b w (.int .i64 k) (.string ⟨nm.toArray⟩) (.int .i64 n) xs ls A' c' v g wr)
     case atStart => exact ⟨0,_,_,by omega,rfl,HST0.out⟩
     case round =>
      obtain ⟨i,v,fl,hig,rfl,hst⟩ := hrel
      have HST := Lib.hid hst
      clear hst HST0
      by_cases hi : i < xs.length
      . obtain ⟨ab,o,k2,nm2,n2,la2,ll2,lc2,ab2,al2,ac2,haa,hrg,hec⟩ := (HA.out.grow HST.out.below).at_ hi
        have HRG := Lib.hid hrg
        have HEC := Lib.hid hec
        have HHI := Lib.hid hi
        have HBX : Hid (Below wr.heap.size wr (wr.alloc (.cells #[.int .i64 k2,.string nm2,.int .i64 n2,.slice la2 ll2 lc2,.slice ab2 al2 ac2] 25))) := (Below.refl _ _).alloc (Nat.le_refl _) _
        have HXN : Hid ((wr.alloc (.cells #[.int .i64 k2,.string nm2,.int .i64 n2,.slice la2 ll2 lc2,.slice ab2 al2 ac2] 25)).rangeAt wr.heap.size 0 [.int .i64 k2,.string nm2,.int .i64 n2,.slice la2 ll2 lc2,.slice ab2 al2 ac2]) := qaB (heap_alloc_new _ _)
        have hsx : wr.heap.size < (wr.alloc (.cells #[.int .i64 k2,.string nm2,.int .i64 n2,.slice la2 ll2 lc2,.slice ab2 al2 ac2] 25)).heap.size := by simp
        have HSX := Lib.hid hsx
        have k0 : (0 : Int) <= (i : Int) := by omega
        have k1 : (i : Int) < (xs.length : Int) := by omega
        have hw : IntKind.i64.wrap ((i : Int) + 1) = (i : Int) + 1 := IntWalk.i64_in _ (by omega)
        subst haa
        clear hrg hec hsx
        go_upto_region 8 with (first
         | (refine wpList_load_mid rfl 25 (.tmp 41) rfl ab (o + i * 5) rfl [.int .i64 k2,.string nm2,.int .i64 n2,.slice la2 ll2 lc2,.slice ab2 al2 ac2] _ HRG.out Tryz.underlying25 rfl exprSize ?_)
         | (refine qaC rfl 25 (.tmp 9) (.tmp 42) rfl wr _ #[.int .i64 k2,.string nm2,.int .i64 n2,.slice la2 ll2 lc2,.slice ab2 al2 ac2] rfl rfl exprSize rfl (by simp [Value.oneCell']) ?_))
        generalize (wr.alloc (.cells #[.int .i64 k2,.string nm2,.int .i64 n2,.slice la2 ll2 lc2,.slice ab2 al2 ac2] 25)) = Wa at *
        have HS1 : Hid (LSr b wr.heap.size v [.int .i64 k2,.string nm2,.int .i64 n2,.slice la2 ll2 lc2,.slice ab2 al2 ac2] Wa.drew) := ⟨cell_of_row _ _ 4 _ _ _ ((HBX.out.block _ (by have := HST.out.up;have := HST.out.bhi;omega)).trans HST.out.out),HXN.out⟩
        have HRA : Hid (RSt f w.heap.size hi0 b w (.int .i64 k) (.string ⟨nm.toArray⟩) (.int .i64 n) xs ls A' c' v i fl Wa.drew) := HST.out.keep (HBX.out.trans (Below.drew (Below.mono (Below.refl _ _) HBX.out.size)))
        have HCL : Hid (Calls Tryz.prog 24 #[.agg #[.int .i64 k2,.string nm2,.int .i64 n2,.slice la2 ll2 lc2,.slice ab2 al2 ac2],.map m] Wa.drew (RepPost Wa.drew (repE f (xs[i]'hi)))) := by
         refine HX.out i hi _ Wa.drew HRA.out.below ?_
         exact ExprC.mono (w' := Wa.drew) (fun q hq hlt => ⟨hq,HBX.out.block q hlt⟩) _ _ HEC.out
        have HWD : Hid (Wa.drew.heap.size = Wa.heap.size) := rfl
        have HVB : Hid (∀ g,v.ownBlock = some g -> hi0 <= g /\ g < wr.heap.size) := fun g e => World.ownsRow.lt HST.out.own g e
        clear HEC HX HRG HXN HST
        refine qaZ 8 8 (LSr b wr.heap.size v [.int .i64 k2,.string nm2,.int .i64 n2,.slice la2 ll2 lc2,.slice ab2 al2 ac2]) [(1,0),(0,1),(0,2),(1,3),(2,4),(2,5),(2,6),(1,7)] default (by kernel_rfl) (by kernel_rfl) (fun _ _ d _ _ h => by cases d <;> exact h) HS1.out ?_
        generalize Wa.drew = Wd at *
        simp only [List.map_cons,List.map_nil,List.getD_cons_zero,List.getD_cons_succ]
        apply qaQ rfl
        . intro W
          go_simp
          rfl
        go_simp
        apply qbH rfl
        . intro W hW
          have z0 := hW.1
          go_simp
          try rfl
        go_simp
        refine qaP rfl 25 (.tmp 9) rfl wr.heap.size 0 rfl [.int .i64 k2,.string nm2,.int .i64 n2,.slice la2 ll2 lc2,.slice ab2 al2 ac2] _ (fun W hW => hW.2) Tryz.underlying25 rfl exprSize ?_
        go_simp
        apply qaQ rfl
        . intro W
          go_simp
          rfl
        go_simp
        apply qbF rfl
        . go_simp
          exact ⟨rfl,rfl⟩
        refine HCL.out.mono ?_
        rintro e w2 ⟨⟨cs,rfl,hcs⟩,hb2⟩
        obtain ⟨k3,nm3,n3,la3,ll3,lc3,ab3,al3,ac3,rfl⟩ := hcs.shape
        have hwd : wr.heap.size < Wd.heap.size := by rw [HWD.out];exact HSX.out
        have hS2 : LSr b wr.heap.size v [.int .i64 k2,.string nm2,.int .i64 n2,.slice la2 ll2 lc2,.slice ab2 al2 ac2] w2 := HS1.out.keep hb2 (Nat.succ_pos _)
        have HR2 := Lib.hid (HRA.out.keep hb2)
        have hvb : ∀ g,v.ownBlock = some g -> hi0 <= g /\ g < wr.heap.size := HVB.out
        have hcs2 : ExprC w2 (fun q => hi0 <= q /\ v.ownBlock ≠ some q) (repE f (xs[i]'HHI.out)) [.int .i64 k3,.string nm3,.int .i64 n3,.slice la3 ll3 lc3,.slice ab3 al3 ac3] :=
         ExprC.mono (fun q (hq : Wd.heap.size <= q) _ => ⟨⟨by have := HRA.out.up;omega,fun e => by have := (hvb q e).2;omega⟩,rfl⟩) _ _ hcs
        have HCS := Lib.hid hcs2
        have hbl := HR2.out.bhi
        obtain ⟨v',w3,hrun,hown,hg,_,hat⟩ := run_append_own_at (P := Tryz.prog) (w2.alloc (.cells #[.int .i64 k3,.string nm3,.int .i64 n3,.slice la3 ll3 lc3,.slice ab3 al3 ac3] 25)) hi0 23 23 25 i0 _ 5 80 Tryz.underlying23 HI.out HZ0.out HZ1.out HZ2.out rfl (by decide) v i fl (World.ownsRow.alloc HR2.out.own _) ⟨w2.heap.size,0,none⟩ 1 1 [.int .i64 k3,.string nm3,.int .i64 n3,.slice la3 ll3 lc3,.slice ab3 al3 ac3] rfl
         (World.news_of_block (cs := #[.int .i64 k3,.string nm3,.int .i64 n3,.slice la3 ll3 lc3,.slice ab3 al3 ac3]) (t := 25) (fr := (0,0)) (heap_alloc_new w2 _)) (ExprC.one hcs) (by unfold maxLen;omega) (by omega) (by have := HR2.out.up;simp;omega)
        obtain ⟨VA',ck',rfl⟩ := qeQ hown
        have HST3 := Lib.hid (HR2.out.step HHI.out HCS.out hown hg hat)
        have hS4 : LSr b wr.heap.size v [.int .i64 k2,.string nm2,.int .i64 n2,.slice la2 ll2 lc2,.slice ab2 al2 ac2] (w2.alloc (.cells #[.int .i64 k3,.string nm3,.int .i64 n3,.slice la3 ll3 lc3,.slice ab3 al3 ac3] 25)) := hS2.keep ((Below.refl _ _).alloc (Nat.le_refl _) _) (Nat.succ_pos _)
        have hS5 : LSr b wr.heap.size v [.int .i64 k2,.string nm2,.int .i64 n2,.slice la2 ll2 lc2,.slice ab2 al2 ac2] w3 := hS4.grown hg (Nat.succ_pos _) (fun e => by have := (hvb _ e).1;omega) (fun e => by have := (hvb _ e).2;omega)
        have z4 : w3.cell? ⟨b,4,none⟩ = some v := hS5.1
        have hb7 : w3.heap[b]? = w2.heap[b]? := (hg.block b (by have := HR2.out.up;simp;omega) (fun e => by have := (hvb b e.symm).1;omega)).trans (((Below.refl w2.heap.size w2).alloc (Nat.le_refl _) _).block b (by have := HR2.out.up;omega))
        have z3 : w3.frozen? ⟨b,4,none⟩ = false := by simp [World.frozen?,hb7,HR2.out.out]
        refine ⟨_,rfl,hS2,?_⟩
        go_simp
        refine mixf_step rfl (qeG 23 25 1 _ rfl #[.int .i64 k3,.string nm3,.int .i64 n3,.slice la3 ll3 lc3,.slice ab3 al3 ac3] i0 _ Tryz.underlying23 HI.out HZ0.out (by rw [HZ1.out];decide) (by rw [HZ1.out];decide) (by rw [HZ1.out];go_simp;done)) hS4 ?_
        go_simp
        refine mixf_step rfl (qdZ (.tmp 44) (.tmp 48) 23 rfl rfl rfl hrun) hS5 ?_
        go_simp
        apply qaQ rfl
        . intro W
          go_simp
          rfl
        go_simp
        refine qbX ?_
        show wpList _ _ _ _ _ _
        go_simp
        clear hrun hown hg hat hS2 hS4 hS5 HS1 HRA HR2 HCL hcs hcs2 HCS hb2 hb7
        go_upto_region 9 with fail
        generalize w3.setCell ⟨b,4,none⟩ (.slice VA' (i + 1) ck') = w8 at *
        clear z4 z3
        go_wp2_with fail
        go_roundg (xs.length - (i + 1))
        case measure => omega
        case rel => exact ⟨i + 1,_,_,by omega,by go_num,HST3.out⟩
      . have hie : i = xs.length := by omega
        subst hie
        obtain ⟨VA,ck,rfl⟩ := qeQ HST.out.own
        have HOR : Hid (wr.rangeAt b 0 [.int .i64 k,.string ⟨nm.toArray⟩,.int .i64 n,.slice A' ls.length c',.slice VA xs.length ck]) := qaB HST.out.out
        go_wp2_with (first
         | (refine wpList_load_mid rfl 25 (.tmp 7) rfl b 0 rfl [.int .i64 k,.string ⟨nm.toArray⟩,.int .i64 n,.slice A' ls.length c',.slice VA xs.length ck] _ HOR.out Tryz.underlying25 rfl exprSize ?_)
         | (refine qaA rfl 25 (.tmp 4) (.tmp 52) rfl _ (w.heap.size + 1) 25 #[.int .i64 0,.string ⟨#[]⟩,.int .i64 0,.slice none 0 0,.slice none 0 0] #[.int .i64 k,.string ⟨nm.toArray⟩,.int .i64 n,.slice A' ls.length c',.slice VA xs.length ck] rfl rfl HST.out.zero exprSize rfl (by simp [Value.oneCell']) ?_))
        refine bodyPost_ret (qcF (P := Tryz.prog) rfl _ _ (w.heap.size + 1) 25 #[.int .i64 k,.string ⟨nm.toArray⟩,.int .i64 n,.slice A' ls.length c',.slice VA xs.length ck] (0,0) _ rfl (qaF _ (w.heap.size + 1) _ _ _ HST.out.zero) Tryz.underlying25 rfl exprSize) rfl ?_
        rw [HR.out]
        have h1 := HST.out.lob
        have h2 := HST.out.bhi
        refine ⟨⟨[.int .i64 k,.string ⟨nm.toArray⟩,.int .i64 n,.slice A' ls.length c',.slice VA xs.length ck],rfl,?_⟩,qaD HST.out.below (by omega) _⟩
        unfold ExprC
        refine ⟨A',c',VA,ck,by rw [repL_len],HST.out.ints.mono fun q hq _ => ⟨by omega,setRow_other _ _ _ _ (by omega)⟩,fun hz => ?_⟩
        rw [repL_len] at hz
        obtain ⟨g,cap,hv7,hlo,hlt⟩ := HST.out.own.form hz
        injection hv7 with hv7
        subst hv7
        have hce := HST.out.cells
        rw [List.take_length] at hce
        refine ⟨g,0,rfl,by omega,CellsOf.exprs 0 (CellsOf.mono (F' := fun q => w.heap.size <= q) (fun q hq _ => ⟨by omega,setRow_other _ _ _ _ (by omega)⟩) hce) ?_⟩
        intro j u hj
        have hcl := HST.out.own.cells (g := g) rfl j u hj
        rw [Addr.add_mid] at hcl
        exact (World.cell?_of_block (a := ⟨g,0 + j,none⟩) (setRow_other _ _ _ _ (show g ≠ _ by omega))).trans hcl
  . obtain ⟨hk4,hok⟩ := (litX k ok).1 hhit
    obtain ⟨y,hfy⟩ : ∃ y,f nm = some y := Option.isSome_iff_exists.1 (HOK.out.trans hok)
    have HR : Hid (repE f (.mk k nm n ls xs) = y) := by
     show _ = _
     unfold repE
     rw [if_pos ⟨hk4,HOK.out.trans hok⟩,hfy]
     rfl
    have hyc := HY.out y hfy
    have hb1 := HB1.out.below
    have hcl := HN.out y [.int .i64 k',.string nm',.int .i64 n',.slice la' ll' lc',.slice ab' al' ac'] wc hk4 hfy hb1 (ExprC.mono (fun b hb hlt => ⟨hb,HBA.out.block b hlt⟩) _ _ hyc)
    have HCL := Lib.hid hcl
    have HYR : Hid (wc.rangeAt (w.heap.size + 2) 0 [.int .i64 k',.string nm',.int .i64 n',.slice la' ll' lc',.slice ab' al' ac']) := qaB (HB1.out.at_ (i := 2) rfl)
    clear hcl hyc hb1 hfy
    rw [hw0]
    go_wp2_with (refine wpList_load_mid rfl 25 (.tmp 5) rfl (w.heap.size + 2) 0 rfl [.int .i64 k',.string nm',.int .i64 n',.slice la' ll' lc',.slice ab' al' ac'] _ HYR.out Tryz.underlying25 rfl exprSize ?_)
    refine HCL.out.mono ?_
    rintro e w2 ⟨⟨cs,rfl,hcs⟩,hb2⟩
    obtain ⟨k2,nm2,n2,la2,ll2,lc2,ab2,al2,ac2,rfl⟩ := hcs.shape
    have HB2 := Lib.hid (HB1.out.keep hb2)
    have HK := Lib.hid (HB2.out.at_ (i := 1) rfl)
    have HCS := Lib.hid hcs
    have HHS : Hid (w.heap.size + 1 < wc.heap.size) := by show _ < _;have := HS1.out;have : wc.heap.size = w.heap.size + 3 := this;omega
    clear hcs hb2 HCL HYR HN HX
    go_wp2_with (refine qaA rfl 25 (.tmp 4) (.tmp 24) rfl _ (w.heap.size + 1) 25 #[.int .i64 0,.string ⟨#[]⟩,.int .i64 0,.slice none 0 0,.slice none 0 0] #[.int .i64 k2,.string nm2,.int .i64 n2,.slice la2 ll2 lc2,.slice ab2 al2 ac2] rfl rfl HK.out exprSize rfl (by simp [Value.oneCell']) ?_)
    refine bodyPost_ret (qcF (P := Tryz.prog) rfl _ _ (w.heap.size + 1) 25 #[.int .i64 k2,.string nm2,.int .i64 n2,.slice la2 ll2 lc2,.slice ab2 al2 ac2] (0,0) _ rfl (qaF _ (w.heap.size + 1) _ _ _ HK.out) Tryz.underlying25 rfl exprSize) rfl ?_
    rw [HR.out]
    exact ⟨⟨[.int .i64 k2,.string nm2,.int .i64 n2,.slice la2 ll2 lc2,.slice ab2 al2 ac2],rfl,ExprC.mono (fun b (hb : wc.heap.size <= b) _ => ⟨by have := HHS.out;omega,setRow_other _ _ _ _ (by have := HHS.out;omega)⟩) _ _ HCS.out⟩,qaD HB2.out.below (by omega) _⟩
end Go.Proofs.YtaddcadapbpkfaaGreatDoor
