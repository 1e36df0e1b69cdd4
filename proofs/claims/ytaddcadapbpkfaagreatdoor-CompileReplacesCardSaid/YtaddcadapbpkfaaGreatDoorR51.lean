/-
 The arguments, opened: a list of strings, a list of expressions.
-/
import Derived.Test.YtaddcadapbpkfaaGreatDoorR44
import Derived.Test.YtaddcadapbpkfaaGreatDoorR42
namespace Go.Proofs.YtaddcadapbpkfaaGreatDoor
open Go.RowKit Go.ChangeShapes Go.WideShapes Go.Deep
section
variable {H : Type} {enc : TypeId × Value -> H} {w : World} {base : Nat} {spare : Nat -> Bool} {held : Bool}
def strOf : Value -> List UInt8
 | .string s => s.data.toList
 | _ => []
theorem strs_cell {fuel : Nat} {c : Value} {x : DataW H × List MemPlace} (h : DataW.trod enc Tryz.prog w base spare held fuel 42 [c] = some x) :
 ∃ (A : Option Addr) (ns : List (List UInt8)) (k : Nat),c = .slice A ns.length k /\ ns.length <= maxLen /\ StrsF w (· < w.heap.size) A ns := by
 rcases open_slice1 Tryz.underlying42 cellsStr h with ⟨h0,_⟩ | ⟨a,len,cap,m,n,V,D,Pl,hcs,_,hl,hm,hmm,_,hx⟩
 . exact ⟨none,[],0,by simpa using h0,by simp,fun h => absurd h (by simp)⟩
 . have hlm : len <= m := by rw [hmm];split <;> omega
   have hV : ∀ i,i < len -> ∃ z,V i = .string z := fun i hi => str_cell (hx i (by omega)).2
   refine ⟨some a,(List.range len).map fun i => strOf (V i),cap,by simpa using hcs,by simp;omega,fun hz => ?_⟩
   simp only [List.length_map,List.length_range] at hz ⊢
   have h0 := (hx 0 (by omega)).1
   have ha : a.add 0 = a := rfl
   rw [ha] at h0
   refine ⟨a.block,a.off,congrArg some (qdS h0),World.block_lt_of_cell? w _ h0,fun j nm hj => ?_⟩
   have hjl : j < len := by
    have := (List.getElem?_eq_some_iff.1 hj).1
    simpa using this
   have hj' := (hx j (by omega)).1
   obtain ⟨z,e⟩ := hV j hjl
   have hadd : a.add j = ⟨a.block,a.off + j,none⟩ := by rw [qdS h0];exact Addr.add_mid _ _ _
   rw [hadd] at hj'
   have hn : nm = z.data.toList := by
    simp [hjl,e,strOf] at hj
    exact hj.symm
   have hss : (⟨z.data.toList.toArray⟩ : ByteArray) = z := by cases z;simp
   rw [hj',e,hn,hss]
theorem exprs_cell {fuel : Nat} {c : Value} {x : DataW H × List MemPlace} (h : DataW.trod enc Tryz.prog w base spare held fuel 23 [c] = some x) :
 ∃ (A : Option Addr) (ys : List E) (k : Nat),c = .slice A ys.length k /\ ys.length <= maxLen /\ ArgsAt w (· < w.heap.size) A ys /\ ∀ y,y ∈ ys -> okE y := by
 rcases DataW.trod_slice Tryz.underlying23 h with ⟨h0,_⟩ | ⟨a,len,cap,elems,rest,n5,hn5,hcs,_,_,hl5,hm,hlen0,hel,_,_⟩
 . exact ⟨none,[],0,by simpa using h0,by simp,fun h => absurd h (by simp),fun y hy => by cases hy⟩
 . have hc4 : c = .slice (some a) len cap := by simpa using hcs
   subst hc4
   rw [cellsExpr] at hel
   have hx : ∀ i,i < len -> ∃ cs' y,w.cells? base (a.add (i * 5)) 5 = some cs' /\ DataW.trod enc Tryz.prog w base spare held n5 25 cs' = some y := fun i hi => by
    have := hel i hi
    rw [List.getElem?_eq_getElem (by omega)] at this
    obtain ⟨cs',h1,h2⟩ := Option.bind_eq_some_iff.1 this
    exact ⟨cs',_,h1,h2⟩
   have hlen : len <= maxLen := by omega
   by_cases hz : len = 0
   . subst hz
     exact ⟨some a,[],cap,rfl,by simp,fun h => absurd h (by simp),fun y hy => by cases hy⟩
   . obtain ⟨cc0,_,g0,_⟩ := hx 0 (by omega)
     obtain ⟨_,l0,q0⟩ := World.cells?_some g0
     have hc0 := q0 0 (by omega)
     rw [List.getElem?_eq_getElem (by omega)] at hc0
     have ha : (a.add (0 * 5)).add 0 = a := rfl
     rw [ha] at hc0
     have hlt := World.block_lt_of_cell? w _ hc0
     have hsp := qdS hc0
     have hadd : ∀ j,a.add j = ⟨a.block,a.off + j,none⟩ := fun j => by rw [hsp];exact Addr.add_mid _ _ _
     have key : ∀ i,i < len -> ∃ y : E,(∃ cs,w.rangeAt a.block (a.off + i * 5) cs /\ ExprC w (· < w.heap.size) y cs) /\ okE y := fun i hi => by
      obtain ⟨cs,_,g,ht⟩ := hx i (by omega)
      obtain ⟨_,hlen',q⟩ := World.cells?_some g
      obtain ⟨y,hy,hok⟩ := expr_cells n5 cs _ ht hlen'
      refine ⟨y,⟨cs,fun j u hu => ?_,hy⟩,hok⟩
      have hj : j < 5 := by rw [<- hlen'];exact (List.getElem?_eq_some_iff.1 hu).1
      have := q j hj
      rw [hu,Deep.add_add,hadd] at this
      rw [<- this,Nat.add_assoc]
     obtain ⟨f,hf⟩ : ∃ f : Nat -> E,∀ i,i < len -> (∃ cs,w.rangeAt a.block (a.off + i * 5) cs /\ ExprC w (· < w.heap.size) (f i) cs) /\ okE (f i) :=
      ⟨fun i => if h : i < len then Classical.choose (key i h) else .mk 0 [] 0 [] [],fun i hi => by simp only [hi,dif_pos];exact Classical.choose_spec (key i hi)⟩
     have hbuild : ∀ (n0 o0 : Nat),(∀ i,i < n0 -> o0 + i < len) -> ExprsC w (· < w.heap.size) a.block (a.off + o0 * 5) ((List.range n0).map fun i => f (o0 + i)) := by
      intro n0
      induction n0 with
      | zero => intro o0 _;simp [ExprsC]
      | succ n0 ihn =>
        intro o0 ho
        rw [List.range_succ_eq_map,List.map_cons,List.map_map]
        unfold ExprsC
        refine ⟨(hf (o0 + 0) (ho 0 (by omega))).1,?_⟩
        have := ihn (o0 + 1) (fun i hi => by have := ho (i + 1) (by omega);omega)
        rw [show a.off + o0 * 5 + 5 = a.off + (o0 + 1) * 5 by omega]
        have he : ((fun i => f (o0 + i)) ∘ Nat.succ) = fun i => f (o0 + 1 + i) := by
         funext i
         simp only [Function.comp]
         congr 1
         omega
        rw [he]
        exact this
     have hxs := hbuild len 0 (fun i hi => by omega)
     simp only [Nat.zero_mul,Nat.add_zero,Nat.zero_add] at hxs
     refine ⟨some a,(List.range len).map f,cap,by simp,by simpa using hlen,fun _ => ⟨a.block,a.off,congrArg some hsp,hlt,hxs⟩,fun y hy => ?_⟩
     obtain ⟨i,hi,rfl⟩ := List.mem_map.1 hy
     exact (hf i (List.mem_range.1 hi)).2
end
end Go.Proofs.YtaddcadapbpkfaaGreatDoor
