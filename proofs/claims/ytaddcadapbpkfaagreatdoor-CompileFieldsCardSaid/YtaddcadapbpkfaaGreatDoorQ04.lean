/-
  Maps keyed by strings in a walk: an insertion, a look-up, the steps of a range, at the list of a plain region's operations.
-/
import Derived.Tactics
import Derived.Test.YtaddcadapbpkfaaGreatDoorQ02
import Derived.Test.YtaddcadapbpkfaaGreatDoorQ03
namespace Go.Proofs.YtaddcadapbpkfaaGreatDoor
open Go.RowKit Go.MapKept
open Go.ChangeMaps (setBlock)

section
variable {P : Program} {ops : Array Oper} {rest : List Oper} {o : Oper} {a : Act} {w : World} {Q : Exit -> Act -> World -> Prop}
theorem below_setBlock {B : Nat} {w0 w : World} (h : Below B w0 w) {b : Nat} (hb : B <= b) (o' : Obj) : Below B w0 (setBlock w b o') :=
  h.trans ⟨rfl,rfl,rfl,by simp [setBlock],fun k hk => by simp [setBlock,Array.getElem?_setIfInBounds];intro e;omega⟩
theorem size_setBlock (w : World) (b : Nat) (o' : Obj) : (setBlock w b o').heap.size = w.heap.size := by simp [setBlock]
theorem heap_setBlock (w : World) (b : Nat) (o' : Obj) (k : Nat) (h : k ≠ b) : (setBlock w b o').heap[k]? = w.heap[k]? := by
  simp [setBlock,Array.getElem?_setIfInBounds];intro e;exact absurd e.symm h
theorem wpList_insert (hgd : o.guard = none) (t kt et : TypeId) (m k x : Operand) (ho : o.op = .insert t m k x \/ o.op = .mapUpdate t m k x) (hm : P.underlying t = some (.map kt et)) (hk : P.underlying kt = some .string)
    (b : Nat) (kb : ByteArray) (v : Value) (M : List (ByteArray × Value)) (e1 : a.eval m = .map (some b)) (e2 : a.eval k = .string kb) (e3 : a.eval x = v) (hM : MapL w b M)
    (h : ∀ o',MapL (setBlock w b o') b (putL M kb v) -> wpList P ops Q rest (a.put o.dst undef) (setBlock w b o')) : wpList P ops Q (o :: rest) a w :=
  wpList_plain hgd fun _ hK => by
    obtain ⟨o',hr,hM'⟩ := hM.update hm hk kb v
    unfold Oper.wp execOp
    rcases ho with ho | ho <;>
    . simp only [ho,e1,e2,e3,Sem.run_bind,Sem.run_pure,hr,Result.andThen_ok]
      exact hK _ _ (h o' hM')
theorem wpList_lookup (hgd : o.guard = none) (t kt et : TypeId) (m k : Operand) (ho : o.op = .lookup t m k false) (hm : P.underlying t = some (.map kt et)) (hk : P.underlying kt = some .string)
    (b : Nat) (kb : ByteArray) (M : List (ByteArray × Value)) (z : Value) (e1 : a.eval m = .map (some b)) (e2 : a.eval k = .string kb) (hM : MapL w b M) (hz : (zeroValue et).run P w = .ok z w)
    (h : wpList P ops Q rest (a.put o.dst ((lookL M kb).getD z)) w) : wpList P ops Q (o :: rest) a w :=
  wpList_plain hgd fun _ hK => by
    unfold Oper.wp execOp
    simp only [ho,e1,e2,Sem.run_bind,Sem.run_pure,hM.lookup hm hk kb z hz,Result.andThen_ok]
    exact hK _ _ h
theorem wpList_range (hgd : o.guard = none) (t kt et : TypeId) (m : Operand) (ho : o.op = .range t m) (hm : P.underlying t = some (.map kt et)) (b : Nat) (M : List (ByteArray × Value)) (e1 : a.eval m = .map (some b)) (hM : MapL w b M)
    (h : ∀ o',IterK (w.alloc o') w.heap.size b M (fun _ => true) -> wpList P ops Q rest (a.put o.dst (.pointer (some ⟨w.heap.size,0,none⟩))) (w.alloc o')) : wpList P ops Q (o :: rest) a w :=
  wpList_plain hgd fun _ hK => by
    obtain ⟨o',hr,hI⟩ := hM.range hm
    unfold Oper.wp execOp
    simp only [ho,e1,Sem.run_bind,Sem.run_pure,hr,Result.andThen_ok]
    exact hK _ _ (h o' hI)
end

def Bx (w : World) (L : List (List Value × TypeId)) (W : World) : Prop := Below w.heap.size w W /\ w.heap.size + L.length <= W.heap.size /\ ∀ i c,L[i]? = some c -> W.heap[w.heap.size + i]? = some (.cells c.1.toArray c.2 (0,0))
section
variable {w W W' : World} {L : List (List Value × TypeId)}
theorem Bx.nil (w : World) : Bx w [] w := ⟨Below.refl _ _,by simp,fun i c h => by simp at h⟩
theorem Bx.below (h : Bx w L W) : Below w.heap.size w W := h.1
theorem Bx.alloc (h : Bx w L W) (hs : W.heap.size = w.heap.size + L.length) (cs : List Value) (t : TypeId) : Bx w (L ++ [(cs,t)]) (W.alloc (.cells cs.toArray t)) /\ (W.alloc (.cells cs.toArray t)).heap.size = w.heap.size + (L ++ [(cs,t)]).length := by
  refine ⟨⟨h.1.alloc h.1.size _,by simp;omega,fun i c hc => ?_⟩,by simp;omega⟩
  by_cases hi : i < L.length
  . rw [List.getElem?_append_left hi] at hc
    exact (heap_alloc_old _ _ _ (by omega)).trans (h.2.2 i c hc)
  . have hi2 : i = L.length := by
      have := (List.getElem?_eq_some_iff.1 hc).1
      simp at this
      omega
    subst hi2
    rw [List.getElem?_append_right (Nat.le_refl _),Nat.sub_self] at hc
    injection hc with hc
    subst hc
    rw [<- hs]
    exact heap_alloc_new _ _
theorem Bx.keep (h : Bx w L W) (hb : Below W.heap.size W W') : Bx w L W' :=
  ⟨h.1.trans (hb.mono h.1.size),Nat.le_trans h.2.1 hb.size,fun i c hc => (hb.block _ (by have := (List.getElem?_eq_some_iff.1 hc).1;have := h.2.1;omega)).trans (h.2.2 i c hc)⟩
theorem Bx.at_ (h : Bx w L W) {i : Nat} {c : List Value × TypeId} (hc : L[i]? = some c) : W.heap[w.heap.size + i]? = some (.cells c.1.toArray c.2 (0,0)) := h.2.2 i c hc
end
theorem bx1 (w : World) (a : Array Value) (t : TypeId) : Bx w [(a.toList,t)] (w.alloc (.cells a t)) := ((Bx.nil w).alloc rfl a.toList t).1
theorem bx2 (w : World) (a b : Array Value) (t u : TypeId) : Bx w [(a.toList,t),(b.toList,u)] ((w.alloc (.cells a t)).alloc (.cells b u)) := by
  obtain ⟨h1,s1⟩ := (Bx.nil w).alloc rfl a.toList t
  exact (h1.alloc s1 b.toList u).1
theorem bx3 (w : World) (a b c : Array Value) (t u v : TypeId) : Bx w [(a.toList,t),(b.toList,u),(c.toList,v)] (((w.alloc (.cells a t)).alloc (.cells b u)).alloc (.cells c v)) := by
  obtain ⟨h1,s1⟩ := (Bx.nil w).alloc rfl a.toList t
  obtain ⟨h2,s2⟩ := h1.alloc s1 b.toList u
  exact (h2.alloc s2 c.toList v).1
end Go.Proofs.YtaddcadapbpkfaaGreatDoor

