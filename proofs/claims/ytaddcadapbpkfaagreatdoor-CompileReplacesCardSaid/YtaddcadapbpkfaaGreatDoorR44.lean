/-
 compile.Replace: what it answers; the parameters in memory; the list of names and values. compile.Replace: the map of names and values is laid, name by name. compile.Replace: plain facts of what it answers.
-/
import Derived.Test.YtaddcadapbpkfaaGreatDoorR43
import Derived.Test.YtaddcadapbpkfaaGreatDoorR03
namespace Go.Proofs.YtaddcadapbpkfaaGreatDoor
open Go.RowKit Pln Go.MapKept
def zeroE : E := .mk 0 [] 0 [] []
theorem qdB (w : World) (F : Nat -> Prop) : ExprC w F zeroE [.int .i64 0,.string ⟨#[]⟩,.int .i64 0,.slice none 0 0,.slice none 0 0] := by
 unfold zeroE ExprC
 exact ⟨none,0,none,0,rfl,fun h => absurd h (by decide),fun h => absurd h (by decide)⟩
def StrsF (w : World) (F : Nat -> Prop) (A : Option Addr) (ns : List (List UInt8)) : Prop :=
 0 < ns.length -> ∃ b o,A = some ⟨b,o,none⟩ /\ F b /\ ∀ j nm,ns[j]? = some nm -> w.cell? ⟨b,o + j,none⟩ = some (.string ⟨nm.toArray⟩)
theorem StrsF.mono {w w' : World} {F F' : Nat -> Prop} {A : Option Addr} {ns : List (List UInt8)} (h : StrsF w F A ns) (hF : ∀ b,F b -> b < w.heap.size -> F' b /\ w'.heap[b]? = w.heap[b]?) : StrsF w' F' A ns := fun hz => by
 obtain ⟨b,o,e,hb,hc⟩ := h hz
 have hlt := World.block_lt_of_cell? w _ (hc 0 (ns[0]'hz) (List.getElem?_eq_getElem hz))
 obtain ⟨h1,h2⟩ := hF b hb hlt
 exact ⟨b,o,e,h1,fun j nm hj => (World.cell?_of_block (a := ⟨b,o + j,none⟩) h2).trans (hc j nm hj)⟩
theorem ArgsAt.mono {w w' : World} {F F' : Nat -> Prop} {A : Option Addr} {xs : List E} (h : ArgsAt w F A xs) (hF : ∀ b,F b -> b < w.heap.size -> F' b /\ w'.heap[b]? = w.heap[b]?) : ArgsAt w' F' A xs := fun hz => by
 obtain ⟨b,o,e,hb,hx⟩ := h hz
 have hlt : b < w.heap.size := by
  obtain ⟨cs,h1,h2⟩ := ExprsC.at_ xs o 0 (xs[0]'hz) hx (List.getElem?_eq_getElem hz)
  exact qcX h1 (by rw [h2.len];decide)
 obtain ⟨h1,h2⟩ := hF b hb hlt
 exact ⟨b,o,e,h1,ExprsC.mono hF h2 xs o hx⟩
def lkP (ps : List (List UInt8 × E)) (nm : List UInt8) : Option E := (ps.find? fun p => decide (p.1 = nm)).map (·.2)
theorem lkP_none {ps : List (List UInt8 × E)} {nm : List UInt8} : lkP ps nm = none ↔ nm ∉ ps.map (·.1) := by
 unfold lkP
 rw [Option.map_eq_none_iff,List.find?_eq_none,List.mem_map]
 constructor
 . rintro h ⟨p,hp,e⟩
   exact h p hp (by simpa using e)
 . intro h p hp e
   exact h ⟨p,hp,by simpa using e⟩
theorem lkP_mem {ps : List (List UInt8 × E)} {nm : List UInt8} {y : E} (h : lkP ps nm = some y) : (nm,y) ∈ ps := by
 unfold lkP at h
 obtain ⟨p,hp,rfl⟩ := Option.map_eq_some_iff.1 h
 have h1 := List.find?_some hp
 have h2 := List.mem_of_find?_eq_some hp
 simp at h1
 subst h1
 exact h2
theorem lkP_snoc {ps : List (List UInt8 × E)} {a : List UInt8} {y : E} (h : a ∉ ps.map (·.1)) (nm : List UInt8) : lkP (ps ++ [(a,y)]) nm = if nm = a then some y else lkP ps nm := by
 have h1 := lkP_none.2 h
 unfold lkP at h1 ⊢
 rw [List.find?_append]
 by_cases e : nm = a
 . subst e
   rw [if_pos rfl,Option.map_eq_none_iff.1 h1]
   simp
 . rw [if_neg e]
   have : (List.find? (fun p : List UInt8 × E => decide (p.1 = nm)) [(a,y)]) = none := by simp;exact fun h => e h.symm
   rw [this,Option.or_none]
def errL : List E -> Int
 | [] => 0
 | x :: r => if checkE x = 0 then errL r else checkE x
def errW (x : E) (ns : List (List UInt8)) (vs : List E) : Int :=
 if ns.length = vs.length then if ns.Nodup then errL (x :: vs) else 18 else 3
def replR (x : E) (ns : List (List UInt8)) (vs : List E) : Int × E :=
 if errW x ns vs = 0 then if checkE (repE (lkP (ns.zip vs)) x) = 0 then (0,repE (lkP (ns.zip vs)) x) else (checkE (repE (lkP (ns.zip vs)) x),zeroE) else (errW x ns vs,zeroE)
theorem zip_fst {ns : List (List UInt8)} {vs : List E} (h : ns.length = vs.length) (i : Nat) : ((ns.zip vs).take i).map (·.1) = ns.take i := by
 rw [List.map_take,List.map_fst_zip (by omega)]
theorem errL_take : ∀ {xs : List E} {i : Nat},(∀ j x,j < i -> xs[j]? = some x -> checkE x = 0) -> errL xs = errL (xs.drop i)
 | [],i,_ => by simp
 | x :: r,0,_ => rfl
 | x :: r,i + 1,h => by
   have h1 : errL (x :: r) = errL r := by
    show (if checkE x = 0 then errL r else (checkE x : Int)) = _
    rw [if_pos (h 0 x (Nat.succ_pos _) rfl)]
   rw [h1,List.drop_succ_cons]
   exact (errL_take fun j y hj hy => h (j + 1) y (Nat.succ_lt_succ hj) (by simpa using hy))
theorem errL_at {xs : List E} {i : Nat} {x : E} (h : ∀ j y,j < i -> xs[j]? = some y -> checkE y = 0) (hx : xs[i]? = some x) (hc : checkE x ≠ 0) : errL xs = checkE x := by
 rw [errL_take h]
 have : xs.drop i = x :: xs.drop (i + 1) := by
  have hi := (List.getElem?_eq_some_iff.1 hx).1
  rw [List.drop_eq_getElem_cons hi,(List.getElem?_eq_some_iff.1 hx).2]
 rw [this]
 unfold errL
 rw [if_neg hc]
theorem errL_all {xs : List E} (h : ∀ j y,j < xs.length -> xs[j]? = some y -> checkE y = 0) : errL xs = 0 := by
 rw [errL_take (i := xs.length) h,List.drop_length]
 rfl
theorem exprs_cells {w : World} {F : Nat -> Prop} {b : Nat} : ∀ {xs : List E} {o : Nat},ExprsC w F b o xs -> ∃ fl,CellsOf w F xs fl /\ w.rangeAt b o fl
 | [],o,_ => ⟨[],rfl,fun j u hj => by simp at hj⟩
 | x :: r,o,h => by
   unfold ExprsC at h
   obtain ⟨⟨cs,h1,h2⟩,h3⟩ := h
   obtain ⟨fl,h4,h5⟩ := exprs_cells h3
   refine ⟨cs ++ fl,⟨cs,fl,rfl,h2,h4⟩,fun j u hj => ?_⟩
   have hl := h2.len
   rcases Nat.lt_or_ge j cs.length with hlt | hge
   . rw [List.getElem?_append_left hlt] at hj
     exact h1 j u hj
   . rw [List.getElem?_append_right hge] at hj
     have := h5 (j - cs.length) u hj
     rw [show o + 5 + (j - cs.length) = o + j by omega] at this
     exact this
end Go.Proofs.YtaddcadapbpkfaaGreatDoor
namespace Go.Proofs.YtaddcadapbpkfaaGreatDoor
open Go.RowKit Pln Go.MapKept
open Go.ChangeMaps (setBlock)
def MapV (w : World) (F : Nat -> Prop) (M : List (ByteArray × Value)) (f : List UInt8 -> Option E) : Prop :=
 ∀ nm,match f nm with | none => lookL M ⟨nm.toArray⟩ = none | some y => ∃ cs,lookL M ⟨nm.toArray⟩ = some (.agg cs.toArray) /\ ExprC w F y cs
theorem MapV.mono {w w' : World} {F F' : Nat -> Prop} {M : List (ByteArray × Value)} {f : List UInt8 -> Option E} (h : MapV w F M f) (hF : ∀ b,F b -> b < w.heap.size -> F' b /\ w'.heap[b]? = w.heap[b]?) : MapV w' F' M f := fun nm => by
 have := h nm
 revert this
 cases f nm with
 | none => exact id
 | some y => exact fun ⟨cs,h3,h4⟩ => ⟨cs,h3,ExprC.mono hF _ _ h4⟩
theorem ba_inj {a b : List UInt8} (h : (⟨a.toArray⟩ : ByteArray) = ⟨b.toArray⟩) : a = b := by
 injection h with h
 simpa using congrArg Array.toList h
theorem MapV.put {w : World} {F : Nat -> Prop} {M : List (ByteArray × Value)} {ps : List (List UInt8 × E)} (h : MapV w F M (lkP ps)) {a : List UInt8} {y : E} {cs : List Value} (ha : a ∉ ps.map (·.1)) (hc : ExprC w F y cs) : MapV w F (putL M ⟨a.toArray⟩ (.agg cs.toArray)) (lkP (ps ++ [(a,y)])) := fun nm => by
 rw [lkP_snoc ha,qdE]
 by_cases e : nm = a
 . subst e
   rw [if_pos rfl,if_pos rfl]
   exact ⟨cs,rfl,hc⟩
 . rw [if_neg e,if_neg (fun e' => e (ba_inj e'))]
   exact h nm
structure MSr (w : World) (ps : List (List UInt8 × E)) (cx : List Value) (mb : Nat) (M : List (ByteArray × Value)) (i : Nat) (wr : World) : Prop where
 below : Below w.heap.size w wr
 box : wr.heap[w.heap.size]? = some (.cells cx.toArray 25 (0,0))
 zero : wr.heap[w.heap.size + 1]? = some (.cells [.int .i64 0,.string ⟨#[]⟩,.int .i64 0,.slice none 0 0,.slice none 0 0].toArray 25 (0,0))
 lo : w.heap.size + 2 <= mb
 map : MapL wr mb M
 vals : MapV wr (· < w.heap.size) M (lkP (ps.take i))
 nodup : ((ps.take i).map (·.1)).Nodup
section
variable {w : World} {ps : List (List UInt8 × E)} {cx : List Value} {mb i : Nat} {M : List (ByteArray × Value)} {wr W : World}
theorem MSr.keep (h : MSr w ps cx mb M i wr) (hb : Below wr.heap.size wr W) : MSr w ps cx mb M i W := by
 have hl := h.map.lt
 have hz : w.heap.size + 1 < wr.heap.size := (Array.getElem?_eq_some_iff.1 h.zero).1
 exact ⟨h.below.trans (hb.mono (by omega)),(hb.block _ (by omega)).trans h.box,(hb.block _ hz).trans h.zero,h.lo,h.map.keep (hb.block _ hl),h.vals.mono (fun q hq hl => ⟨hq,hb.block q hl⟩),h.nodup⟩
theorem MSr.mapE (h : MSr w ps cx mb M i wr) : MapE wr (· < wr.heap.size) (some mb) (lkP (ps.take i)) :=
 ⟨M,⟨h.map.lt,h.map⟩,h.vals.mono fun q (_ : q < w.heap.size) hl => ⟨hl,rfl⟩⟩
theorem MSr.put (h : MSr w ps cx mb M i wr) {a : List UInt8} {y : E} (hi : ps[i]? = some (a,y)) (ha : a ∉ (ps.take i).map (·.1)) {cs : List Value} (hc : ExprC wr (· < w.heap.size) y cs) {o' : Obj} (hM : MapL (setBlock wr mb o') mb (putL M ⟨a.toArray⟩ (.agg cs.toArray))) :
 MSr w ps cx mb (putL M ⟨a.toArray⟩ (.agg cs.toArray)) (i + 1) (setBlock wr mb o') := by
 have hlo := h.lo
 have hF : ∀ q,q < w.heap.size -> q < wr.heap.size -> q < w.heap.size /\ (setBlock wr mb o').heap[q]? = wr.heap[q]? := fun q h _ => ⟨h,qcD _ _ _ _ (by omega)⟩
 have ht : ps.take (i + 1) = ps.take i ++ [(a,y)] := qaV hi
 refine ⟨qfD h.below (by omega) _,(qcD _ _ _ _ (by omega)).trans h.box,(qcD _ _ _ _ (by omega)).trans h.zero,hlo,hM,?_,?_⟩
 . rw [ht]
   exact (h.vals.put ha hc).mono hF
 . rw [ht,List.map_append]
   refine List.nodup_append.2 ⟨h.nodup,by simp,fun x hx z hz e => ?_⟩
   simp at hz
   subst hz
   subst e
   exact ha hx
end
def RelRn (w : World) (ps : List (List UInt8 × E)) (cx : List Value) (mb : Nat) (n : Nat) (v27 : Value) (g : Nat) (wr : World) : Prop :=
 ∃ i M,i + g = n /\ v27 = .int .i64 i /\ MSr w ps cx mb M i wr
end Go.Proofs.YtaddcadapbpkfaaGreatDoor
namespace Go.Proofs.YtaddcadapbpkfaaGreatDoor
open Go.RowKit Pln
def OkS (x : E) : Prop := bndE x /\ sizeE x <= 40
theorem OkS.ok {x : E} (h : OkS x) : OkE x := ⟨h.1,Nat.le_trans h.2 (by decide)⟩
theorem check_form {x : E} (h : checkE x = 0) : formE x = true := by
 cases hf : formE x
 . exfalso
   unfold checkE at h
   rw [if_pos hf] at h
   exact absurd h (by decide)
 . rfl
mutual
def lawE (f : List UInt8 -> Option E) : E -> E
 | .mk k nm n ls xs => if k = 4 then (f nm).getD (.mk k nm n ls xs) else .mk k nm n ls (lawL f xs)
def lawL (f : List UInt8 -> Option E) : List E -> List E
 | [] => []
 | x :: r => lawE f x :: lawL f r
end
theorem lawL_map (f : List UInt8 -> Option E) : ∀ xs,lawL f xs = xs.map (lawE f)
 | [] => rfl
 | x :: r => by unfold lawL;rw [List.map_cons,lawL_map f r]
theorem lawE_rep (f : List UInt8 -> Option E) : ∀ x,formE x = true -> lawE f x = repE f x := by
 refine qaT ?_
 intro k nm n ls xs ih h
 obtain ⟨_,h2⟩ := formE_mk h
 have hl : lawL f xs = repL f xs := by
  rw [lawL_map,repL_map]
  exact List.map_congr_left fun a ha => ih a ha (formL_all h2 a ha)
 unfold lawE repE
 by_cases k4 : k = 4
 . subst k4
   have hp : (ls.all litB && (decide (n = 0) && nameB nm && ls.isEmpty && xs.isEmpty) && formL xs) = true := (formE_pre 4 nm n ls xs).symm.trans h
   simp only [Bool.and_eq_true] at hp
   have hx : xs = [] := List.isEmpty_iff.1 hp.1.2.2
   subst hx
   cases hf : f nm with
   | none =>
     rw [if_pos rfl,if_neg (by simp)]
     simp [repL]
   | some y =>
     rw [if_pos rfl,if_pos ⟨rfl,rfl⟩]
 . rw [if_neg k4,if_neg (fun h => k4 h.1),hl]
theorem size_pos (x : E) : 1 <= sizeE x := by cases x;unfold sizeE;omega
theorem repL_small (f : List UInt8 -> Option E) : ∀ xs : List E,(∀ a,a ∈ xs -> bndE a -> bndE (repE f a) /\ sizeE (repE f a) <= 40 * sizeE a) -> bndL xs -> bndL (repL f xs) /\ sizeL (repL f xs) <= 40 * sizeL xs
 | [],_,_ => by
   unfold repL
   exact ⟨by unfold bndL;trivial,by simp [sizeL]⟩
 | x :: r,h,hb => by
   unfold bndL at hb
   obtain ⟨h1,h2⟩ := h x (List.mem_cons_self ..) hb.1
   obtain ⟨h3,h4⟩ := repL_small f r (fun a ha => h a (List.mem_cons_of_mem _ ha)) hb.2
   unfold repL
   refine ⟨by unfold bndL;exact ⟨h1,h3⟩,?_⟩
   unfold sizeL
   omega
theorem repE_small (f : List UInt8 -> Option E) (hf : ∀ nm y,f nm = some y -> OkS y) : ∀ x,bndE x -> bndE (repE f x) /\ sizeE (repE f x) <= 40 * sizeE x := by
 refine qaT ?_
 intro k nm n ls xs ih h
 unfold repE
 by_cases c : k = 4 /\ (f nm).isSome = true
 . rw [if_pos c]
   obtain ⟨y,hy⟩ := Option.isSome_iff_exists.1 c.2
   have := hf nm y hy
   rw [hy]
   refine ⟨this.1,?_⟩
   have h1 := size_pos (.mk k nm n ls xs)
   have h2 := this.2
   show sizeE y <= _
   omega
 . rw [if_neg c]
   unfold bndE at h ⊢
   obtain ⟨h1,h2⟩ := repL_small f xs ih h.2.2
   refine ⟨⟨h.1,h.2.1,h1⟩,?_⟩
   unfold sizeE
   omega
theorem rep_bounds {f : List UInt8 -> Option E} {x : E} (hf : ∀ nm y,f nm = some y -> OkS y) (hx : OkS x) : sizeE (repE f x) <= 1000000000 /\ entE (repE f x) <= 1000000000 := by
 obtain ⟨h1,h2⟩ := repE_small f hf x hx.1
 have h3 := hx.2
 have h4 := ent_bnd _ h1
 exact ⟨by omega,by omega⟩
theorem ok_bounds {x : E} (hx : OkS x) : sizeE x <= 1000000000 /\ entE x <= 1000000000 := by
 have h3 := hx.2
 have h4 := ent_bnd _ hx.1
 exact ⟨by omega,by omega⟩
theorem lkP_ok {ns : List (List UInt8)} {vs : List E} (h : ∀ y,y ∈ vs -> OkS y) : ∀ nm y,lkP (ns.zip vs) nm = some y -> OkS y := fun _ y hy => h y (List.of_mem_zip (lkP_mem hy)).2
theorem dup_not {ns : List (List UInt8)} {i : Nat} (hi : i < ns.length) (h : ns[i] ∈ ns.take i) : ¬ ns.Nodup := fun hn => by
 obtain ⟨j,hj,e⟩ := List.getElem_of_mem h
 have hj2 : j < i := by simp at hj;omega
 rw [List.getElem_take] at e
 exact List.pairwise_iff_getElem.1 hn j i (by omega) hi hj2 e
theorem MSr.nd {w : World} {ns : List (List UInt8)} {vs : List E} {cx : List Value} {mb : Nat} {M : List (ByteArray × Value)} {wr : World} (h : MSr w (ns.zip vs) cx mb M ns.length wr) (hl : ns.length = vs.length) : ns.Nodup := by
 have := h.nodup
 rw [zip_fst hl,List.take_length] at this
 exact this
theorem replR_bad {x : E} {ns : List (List UInt8)} {vs : List E} {e : Int} (h : errW x ns vs = e) (he : e ≠ 0) : replR x ns vs = (e,zeroE) := by
 unfold replR
 rw [h,if_neg he]
theorem errW_at {x : E} {ns : List (List UInt8)} {vs : List E} {i : Nat} (hl : ns.length = vs.length) (hn : ns.Nodup) (hi : i < (x :: vs).length) (hg : ∀ j y,j < i -> (x :: vs)[j]? = some y -> checkE y = 0) (hc : checkE ((x :: vs)[i]'hi) ≠ 0) :
 errW x ns vs = ((checkE ((x :: vs)[i]'hi) : Nat) : Int) := by
 unfold errW
 rw [if_pos hl,if_pos hn]
 exact errL_at hg (List.getElem?_eq_getElem hi) hc
theorem replR_at {x : E} {ns : List (List UInt8)} {vs : List E} {i : Nat} (hl : ns.length = vs.length) (hn : ns.Nodup) (hi : i < (x :: vs).length) (hg : ∀ j y,j < i -> (x :: vs)[j]? = some y -> checkE y = 0) (hc : checkE ((x :: vs)[i]'hi) ≠ 0) :
 replR x ns vs = (((checkE ((x :: vs)[i]'hi) : Nat) : Int),zeroE) := replR_bad (errW_at hl hn hi hg hc) (by omega)
theorem errW_all {x : E} {ns : List (List UInt8)} {vs : List E} (hl : ns.length = vs.length) (hn : ns.Nodup) (hg : ∀ j y,j < (x :: vs).length -> (x :: vs)[j]? = some y -> checkE y = 0) : errW x ns vs = 0 := by
 unfold errW
 rw [if_pos hl,if_pos hn]
 exact errL_all hg
theorem replR_last {x : E} {ns : List (List UInt8)} {vs : List E} (h : errW x ns vs = 0) (hc : checkE (repE (lkP (ns.zip vs)) x) ≠ 0) : replR x ns vs = (((checkE (repE (lkP (ns.zip vs)) x) : Nat) : Int),zeroE) := by
 unfold replR
 rw [if_pos h,if_neg hc]
theorem replR_ok {x : E} {ns : List (List UInt8)} {vs : List E} (h : errW x ns vs = 0) (hc : checkE (repE (lkP (ns.zip vs)) x) = 0) : replR x ns vs = (0,repE (lkP (ns.zip vs)) x) := by
 unfold replR
 rw [if_pos h,if_pos hc]
theorem MSr.mapZ {w : World} {ns : List (List UInt8)} {vs : List E} {cx : List Value} {mb : Nat} {M : List (ByteArray × Value)} {wr : World} (h : MSr w (ns.zip vs) cx mb M ns.length wr) : MapE wr (· < wr.heap.size) (some mb) (lkP (ns.zip vs)) := by
 have := h.mapE
 rw [List.take_of_length_le (by rw [List.length_zip];omega)] at this
 exact this
end Go.Proofs.YtaddcadapbpkfaaGreatDoor
