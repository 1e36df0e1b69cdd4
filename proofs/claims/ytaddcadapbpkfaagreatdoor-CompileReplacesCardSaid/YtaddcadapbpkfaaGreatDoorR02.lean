/-
 Maps keyed by strings, whatever they hold: the run of a look-up, an update, and of the steps of a range, as lists of pairs.
-/
import Derived.Maps.RangeRun
import Derived.MapKept
import Derived.Test.YtaddcadapbpkfaaGreatDoorR01
namespace Go.Proofs.YtaddcadapbpkfaaGreatDoor
open Go.RowKit Go.MapKept
open Go.ChangeMaps (setBlock)
def lookL (M : List (ByteArray × Value)) (k : ByteArray) : Option Value := (M.find? fun kv => decide (kv.1 = k)).map (·.2)
def putL (M : List (ByteArray × Value)) (k : ByteArray) (v : Value) : List (ByteArray × Value) := if (lookL M k).isSome = true then M.map (fun kv => if kv.1 = k then (kv.1,v) else kv) else M ++ [(k,v)]
theorem qcC (a : ByteArray × Value) (M : List (ByteArray × Value)) (k : ByteArray) : lookL (a :: M) k = if a.1 = k then some a.2 else lookL M k := by
 unfold lookL
 rw [List.find?_cons]
 by_cases h : a.1 = k <;> simp [h]
theorem lookL_none {M : List (ByteArray × Value)} {k : ByteArray} : lookL M k = none ↔ k ∉ M.map (·.1) := by
 induction M with
 | nil => simp [lookL]
 | cons a M ih =>
   rw [qcC]
   by_cases h : a.1 = k
   . simp [h]
   . rw [if_neg h,ih]
     simp [Ne.symm h]
theorem lookL_app {M : List (ByteArray × Value)} {k k' : ByteArray} {v : Value} (h : k ∉ M.map (·.1)) : lookL (M ++ [(k,v)]) k' = if k' = k then some v else lookL M k' := by
 induction M with
 | nil =>
   rw [List.nil_append,qcC]
   by_cases e : k' = k
   . simp [e]
   . rw [if_neg (fun h => e h.symm),if_neg e]
 | cons a M ih =>
   have h1 : k ∉ M.map (·.1) := fun hh => h (by simp at hh ⊢;exact .inr hh)
   have h2 : a.1 ≠ k := fun e => h (by simp [e])
   rw [List.cons_append,qcC,qcC,ih h1]
   by_cases e : a.1 = k'
   . rw [if_pos e,if_pos e,if_neg (fun e' => h2 (e.trans e'))]
   . rw [if_neg e,if_neg e]
theorem lookL_some {M : List (ByteArray × Value)} {k : ByteArray} : (lookL M k).isSome = true ↔ k ∈ M.map (·.1) := by
 cases h : lookL M k with
 | none => simpa using lookL_none.1 h
 | some v =>
   constructor
   . intro _
     apply Classical.byContradiction
     intro hn
     rw [lookL_none.2 hn] at h
     cases h
   . intro _
     rfl
theorem lookL_rep {M : List (ByteArray × Value)} {k k' : ByteArray} {v : Value} : lookL (M.map fun kv => if kv.1 = k then (kv.1,v) else kv) k' = if k' = k /\ (lookL M k).isSome = true then some v else lookL M k' := by
 induction M with
 | nil => simp [lookL]
 | cons a M ih =>
   rw [List.map_cons,qcC,qcC,qcC,ih]
   by_cases e : a.1 = k
   . rw [if_pos e,if_pos e]
     by_cases e' : k' = k
     . subst e'
       simp [e]
     . have h1 : a.1 ≠ k' := fun h => e' (h.symm.trans e)
       simp [h1,e']
   . rw [if_neg e,if_neg e]
     by_cases e' : a.1 = k'
     . have h1 : k' ≠ k := fun h => e (e'.trans h)
       simp [e',h1]
     . simp only [e',if_false]
theorem qdE (M : List (ByteArray × Value)) (k k' : ByteArray) (v : Value) : lookL (putL M k v) k' = if k' = k then some v else lookL M k' := by
 unfold putL
 by_cases h : (lookL M k).isSome = true
 . rw [if_pos h,lookL_rep]
   simp [h]
 . rw [if_neg h,lookL_app (fun h' => h (lookL_some.2 h'))]
theorem lookL_mem {M : List (ByteArray × Value)} (hn : (M.map (·.1)).Nodup) {kv : ByteArray × Value} (h : kv ∈ M) : lookL M kv.1 = some kv.2 := by
 induction M with
 | nil => cases h
 | cons a M ih =>
   rw [qcC]
   have hn' := List.nodup_cons.1 hn
   rcases List.mem_cons.1 h with rfl | h'
   . rw [if_pos rfl]
   . rw [if_neg (fun e => hn'.1 (List.mem_map.2 ⟨kv,h',e.symm⟩))]
     exact ih hn'.2 h'
def MapL (w : World) (b : Nat) (M : List (ByteArray × Value)) : Prop :=
 ∃ es clock,w.heap[b]? = some (.map es clock) /\ Stamped es clock /\ es.toList.map (fun e => (e.key,e.val)) = M.map fun kv => (Value.string kv.1,kv.2)
section
variable {P : Program} {w w' : World} {b : Nat} {M : List (ByteArray × Value)} {t kt et : TypeId} {k : ByteArray} {v : Value}
theorem MapL.lt (h : MapL w b M) : b < w.heap.size := by
 obtain ⟨es,clock,hb,_⟩ := h
 rcases Nat.lt_or_ge b w.heap.size with h | h
 . exact h
 . simp [Array.getElem?_eq_none h] at hb
theorem MapL.keep (h : MapL w b M) (hb : w'.heap[b]? = w.heap[b]?) : MapL w' b M := by
 obtain ⟨es,clock,h1,h2⟩ := h
 exact ⟨es,clock,hb.trans h1,h2⟩
theorem MapL.new (w : World) (c : Nat) : MapL (w.alloc (.map #[] c)) w.heap.size [] := ⟨#[],c,heap_alloc_new _ _,stamped_empty c,rfl⟩
theorem mapL_keys {es : Array MapEntry} (h : es.toList.map (fun e => (e.key,e.val)) = M.map fun kv => (Value.string kv.1,kv.2)) : ∀ x ∈ es.toList,IsKey .string x.key := fun x hx => by
 have : (x.key,x.val) ∈ M.map fun kv => (Value.string kv.1,kv.2) := by
  rw [<- h]
  exact List.mem_map.2 ⟨x,hx,rfl⟩
 obtain ⟨kv,_,e⟩ := List.mem_map.1 this
 injection e with e1 e2
 rw [<- e1]
 exact trivial
theorem mapL_find {es : Array MapEntry} (h : es.toList.map (fun e => (e.key,e.val)) = M.map fun kv => (Value.string kv.1,kv.2)) (k : ByteArray) :
 (Instr.findNow .string (.string k) es.toList 0 = some none /\ lookL M k = none) \/ ∃ j e,Instr.findNow .string (.string k) es.toList 0 = some (some (j,e.val)) /\ es.toList[j]? = some e /\ e.key = .string k /\ k ∈ M.map (·.1) := by
 rcases findNow_spec (d := .string) (k := .string k) trivial es.toList 0 (mapL_keys h) with ⟨h1,h2⟩ | ⟨j,e,h1,h2,h3⟩
 . refine .inl ⟨h1,lookL_none.2 fun hk => ?_⟩
   obtain ⟨kv,hkv,e⟩ := List.mem_map.1 hk
   have : (Value.string kv.1,kv.2) ∈ es.toList.map (fun e => (e.key,e.val)) := by
    rw [h]
    exact List.mem_map.2 ⟨kv,hkv,rfl⟩
   obtain ⟨x,hx,e'⟩ := List.mem_map.1 this
   injection e' with e1 e2
   exact h2 x hx (by rw [e1,e])
 . rw [Nat.zero_add] at h1
   refine .inr ⟨j,e,h1,h2,h3,?_⟩
   have : (e.key,e.val) ∈ M.map fun kv => (Value.string kv.1,kv.2) := by
    rw [<- h]
    exact List.mem_map.2 ⟨e,List.mem_of_getElem? h2,rfl⟩
   obtain ⟨kv,hkv,e'⟩ := List.mem_map.1 this
   injection e' with e1 e2
   rw [h3] at e1
   injection e1 with e1
   exact List.mem_map.2 ⟨kv,hkv,e1⟩
theorem mapL_nodup {es : Array MapEntry} {clock : Nat} (hs : Stamped es clock) (h : es.toList.map (fun e => (e.key,e.val)) = M.map fun kv => (Value.string kv.1,kv.2)) : (M.map (·.1)).Nodup := by
 have h1 : es.toList.map (·.key) = M.map fun kv => Value.string kv.1 := by
  have := congrArg (List.map Prod.fst) h
  simpa [List.map_map,Function.comp_def] using this
 have h2 : (es.toList.map (·.key)).Nodup := by
  have := ((stamped_iff es clock).1 hs).2.2
  exact List.pairwise_map.2 this
 rw [h1] at h2
 have h3 : (M.map fun kv => Value.string kv.1) = (M.map (·.1)).map Value.string := by simp [List.map_map,Function.comp_def]
 rw [h3] at h2
 exact (List.pairwise_map.1 h2).imp fun hne e => hne (by rw [e])
theorem MapL.lookup (h : MapL w b M) (hm : P.underlying t = some (.map kt et)) (hk : P.underlying kt = some .string) (k : ByteArray) (z : Value) (hz : (zeroValue et).run P w = .ok z w) :
 (Instr.lookup t (.map (some b)) (.string k) false).run P w = .ok ((lookL M k).getD z) w := by
 obtain ⟨es,clock,hb,hs,he⟩ := h
 have hn := mapL_nodup hs he
 rcases mapL_find he k with ⟨h1,h2⟩ | ⟨j,e,h1,h2,h3,h4⟩
 . simp [Instr.lookup,run_underlying hm,Go.MapKept.run_getObj_map hb,run_checkKey hk (show IsKey .string (.string k) from trivial),run_findKey hk h1,hz,Result.andThen,h2]
 . have : lookL M k = some e.val := by
    have hm2 : (e.key,e.val) ∈ M.map fun kv => (Value.string kv.1,kv.2) := by
     rw [<- he]
     exact List.mem_map.2 ⟨e,List.mem_of_getElem? h2,rfl⟩
    obtain ⟨kv,hkv,e'⟩ := List.mem_map.1 hm2
    injection e' with e1 e2
    rw [h3] at e1
    injection e1 with e1
    rw [<- e1,lookL_mem hn hkv,e2]
   simp [Instr.lookup,run_underlying hm,Go.MapKept.run_getObj_map hb,run_checkKey hk (show IsKey .string (.string k) from trivial),run_findKey hk h1,Result.andThen,this]
theorem MapL.update (h : MapL w b M) (hm : P.underlying t = some (.map kt et)) (hk : P.underlying kt = some .string) (k : ByteArray) (v : Value) :
 ∃ o',(Instr.mapUpdate t (.map (some b)) (.string k) v).run P w = .ok () (setBlock w b o') /\ MapL (setBlock w b o') b (putL M k v) := by
 obtain ⟨es,clock,hb,hs,he⟩ := h
 have hK : IsKey .string (.string k) := trivial
 rcases mapL_find he k with ⟨h1,h2⟩ | ⟨j,e,h1,h2,h3,h4⟩
 . refine ⟨.map (es.push { key := .string k,val := v,born := clock }) (clock + 1),?_,?_⟩
   . simp [Instr.mapUpdate,run_underlying hm,Go.MapKept.run_getObj_map hb,run_checkKey hk hK,run_findKey hk h1,run_setObj_map _ hb,Result.andThen,setBlock]
   . have hnm := lookL_none.1 h2
     refine ⟨_,_,(heap_set hb).1,stamped_push hs (fun x hx e => ?_),?_⟩
     . have : (x.key,x.val) ∈ M.map fun kv => (Value.string kv.1,kv.2) := by
        rw [<- he]
        exact List.mem_map.2 ⟨x,hx,rfl⟩
       obtain ⟨kv,hkv,e'⟩ := List.mem_map.1 this
       injection e' with e1 e2
       rw [e] at e1
       injection e1 with e1
       exact hnm (List.mem_map.2 ⟨kv,hkv,e1⟩)
     . unfold putL
       rw [if_neg (fun h' => hnm (lookL_some.1 h')),Array.toList_push,List.map_append,List.map_append,he]
       rfl
 . have hj : es[j]? = some e := by simpa using h2
   refine ⟨.map (es.modify j fun e => { e with key := .string k,val := v }) clock,?_,?_⟩
   . simp [Instr.mapUpdate,run_underlying hm,Go.MapKept.run_getObj_map hb,run_checkKey hk hK,run_findKey hk h1,hj,h3,run_keyThatStays hK,run_setObj_map _ hb,Result.andThen,setBlock]
   . refine ⟨_,_,(heap_set hb).1,stamped_modify hs j _ (fun _ _ => rfl) (fun e' he' hje => ?_),?_⟩
     . rw [hj] at hje
       injection hje with hje
       rw [<- hje,h3]
     . unfold putL
       rw [if_pos (lookL_some.2 h4)]
       apply List.ext_getElem?
       intro i
       have hi := congrArg (·[i]?) he
       simp only [List.getElem?_map] at hi ⊢
       have hp : ∀ (i₁ i₂ : Nat) (e₁ e₂ : MapEntry),es.toList[i₁]? = some e₁ -> es.toList[i₂]? = some e₂ -> e₁.key = e₂.key -> i₁ = i₂ := fun i₁ i₂ e₁ e₂ g1 g2 ge => by
        have hpw := ((stamped_iff es clock).1 hs).2.2
        obtain ⟨l1,r1⟩ := List.getElem?_eq_some_iff.1 g1
        obtain ⟨l2,r2⟩ := List.getElem?_eq_some_iff.1 g2
        rcases Nat.lt_trichotomy i₁ i₂ with hlt | heq | hgt
        . exact absurd (by rw [r1,r2];exact ge) (List.pairwise_iff_getElem.1 hpw i₁ i₂ l1 l2 hlt)
        . exact heq
        . exact absurd (by rw [r1,r2];exact ge.symm) (List.pairwise_iff_getElem.1 hpw i₂ i₁ l2 l1 hgt)
       rw [Array.toList_modify,List.getElem?_modify]
       cases hM : M[i]? with
       | none =>
         rw [hM] at hi
         simp at hi
         simp [hi]
       | some kv =>
         rw [hM] at hi
         simp only [Option.map_some] at hi
         cases hE : es.toList[i]? with
         | none => rw [hE] at hi;simp at hi
         | some ei =>
           rw [hE] at hi
           simp only [Option.map_some,Option.some.injEq,Prod.mk.injEq] at hi
           obtain ⟨e1,e2⟩ := hi
           by_cases hji : j = i
           . subst hji
             rw [h2] at hE
             injection hE with hE
             subst hE
             rw [h3] at e1
             injection e1 with e1
             simp [e1]
           . have hne : kv.1 ≠ k := fun e' => hji (hp j i e ei h2 hE (by rw [h3,e1,e']))
             simp [hji,hne,e1,e2]
def IterK (w : World) (r b : Nat) (M : List (ByteArray × Value)) (L : ByteArray -> Bool) : Prop :=
 ∃ (es : Array MapEntry) (clock since : Nat) (seen : Array Nat) (c0 : Nat),w.heap[r]? = some (.mapIter (some b) since seen c0) /\ w.heap[b]? = some (.map es clock) /\ Stamped es clock /\ es.toList.map (fun e => (e.key,e.val)) = M.map (fun kv => (Value.string kv.1,kv.2)) /\
  (∀ x ∈ es.toList,x.born < since) /\ since <= c0 /\ since <= clock /\ ∀ x ∈ es.toList,∀ k,x.key = .string k -> seen.contains x.born = !(L k)
def IterE (w : World) (r b : Nat) (M : List (ByteArray × Value)) (L : ByteArray -> Bool) (kv : ByteArray × Value) : Prop :=
 ∃ (es : Array MapEntry) (clock since : Nat) (seen : Array Nat) (e : MapEntry),w.heap[r]? = some (.mapIter (some b) since (seen.push e.born) clock) /\ w.heap[b]? = some (.map es clock) /\ Stamped es clock /\ es.toList.map (fun e => (e.key,e.val)) = M.map (fun kv => (Value.string kv.1,kv.2)) /\
  (∀ x ∈ es.toList,x.born < since) /\ since <= clock /\ (∀ x ∈ es.toList,∀ k,x.key = .string k -> (seen.push e.born).contains x.born = !(L k)) /\ e ∈ es.toList /\ e.key = .string kv.1 /\ e.val = kv.2
theorem IterE.iter {r : Nat} {L : ByteArray -> Bool} {kv : ByteArray × Value} (h : IterE w r b M L kv) : IterK w r b M L := by
 obtain ⟨es,clock,since,seen,e,h1,h2,h3,h4,h5,h6,h7,_⟩ := h
 exact ⟨es,clock,since,_,clock,h1,h2,h3,h4,h5,h6,h6,h7⟩
theorem IterK.keep {r : Nat} {L : ByteArray -> Bool} (h : IterK w r b M L) (hr : w'.heap[r]? = w.heap[r]?) (hb : w'.heap[b]? = w.heap[b]?) : IterK w' r b M L := by
 obtain ⟨es,clock,since,seen,c0,h1,h2,h3⟩ := h
 exact ⟨es,clock,since,seen,c0,hr.trans h1,hb.trans h2,h3⟩
theorem IterK.lt {r : Nat} {L : ByteArray -> Bool} (h : IterK w r b M L) : r < w.heap.size /\ b < w.heap.size /\ r ≠ b := by
 obtain ⟨es,clock,since,seen,c0,h1,h2,_⟩ := h
 have hr : r < w.heap.size := (Array.getElem?_eq_some_iff.1 h1).1
 have hb : b < w.heap.size := (Array.getElem?_eq_some_iff.1 h2).1
 refine ⟨hr,hb,fun e => ?_⟩
 subst e
 rw [h1] at h2
 cases h2
theorem MapL.range (h : MapL w b M) (hm : P.underlying t = some (.map kt et)) : ∃ o',(Instr.range t (.map (some b))).run P w = .ok (.pointer (some ⟨w.heap.size,0,none⟩)) (w.alloc o') /\ IterK (w.alloc o') w.heap.size b M (fun _ => true) := by
 have hlt := h.lt
 obtain ⟨es,clock,hb,hs,he⟩ := h
 refine ⟨_,run_range_map w t kt et b es clock hm hb,es,clock,clock,#[],clock,heap_alloc_new _ _,((Go.MapKept.heap_alloc w _).2 b hlt).trans hb,hs,he,((stamped_iff es clock).1 hs).1,Nat.le_refl _,Nat.le_refl _,fun x _ k _ => by simp⟩
theorem IterK.next {r : Nat} {L : ByteArray -> Bool} (h : IterK w r b M L) (ty : TypeId) :
 ((∀ kv ∈ M,L kv.1 = false) /\ (Instr.next (.pointer (some ⟨r,0,none⟩)) false ty).run P w = .ok (.tuple #[.bool false]) w) \/
 ∃ kv ∈ M,L kv.1 = true /\ ∃ (w1 : World) (o' : Obj),(w1 = w \/ w1 = w.drew) /\ (Instr.next (.pointer (some ⟨r,0,none⟩)) false ty).run P w = .ok (.tuple #[.bool true,.string kv.1,kv.2]) (setBlock w1 r o') /\ IterE (setBlock w1 r o') r b M (fun k => L k && !decide (k = kv.1)) kv := by
 have hrb := h.lt.2.2
 obtain ⟨es,clock,since,seen,c0,h1,h2,h3,h4,h5,h6,h7,h8⟩ := h
 have hpair : ∀ x ∈ es.toList,∃ kv ∈ M,x.key = .string kv.1 /\ x.val = kv.2 := fun x hx => by
  have : (x.key,x.val) ∈ M.map fun kv => (Value.string kv.1,kv.2) := by
   rw [<- h4]
   exact List.mem_map.2 ⟨x,hx,rfl⟩
  obtain ⟨kv,hkv,e⟩ := List.mem_map.1 this
  injection e with e1 e2
  exact ⟨kv,hkv,e1.symm,e2.symm⟩
 rcases run_next_at (P := P) w ty r b since c0 seen es clock h1 h2 h5 h6 with ⟨hz,hrun⟩ | ⟨e,he,w1,hw,hrun⟩
 . refine .inl ⟨fun kv hkv => ?_,hrun⟩
   have : (Value.string kv.1,kv.2) ∈ es.toList.map (fun e => (e.key,e.val)) := by
    rw [h4]
    exact List.mem_map.2 ⟨kv,hkv,rfl⟩
   obtain ⟨x,hx,e'⟩ := List.mem_map.1 this
   injection e' with e1 e2
   have hc := h8 x hx kv.1 e1
   cases hL : L kv.1 with
   | false => rfl
   | true =>
     rw [hL] at hc
     exfalso
     have hxl : x ∈ leftOf es seen := Array.mem_filter.2 ⟨Array.mem_toList_iff.1 hx,by rw [hc];rfl⟩
     have : leftOf es seen = #[] := Array.eq_empty_of_size_eq_zero hz
     rw [this] at hxl
     simp at hxl
 . obtain ⟨hem,hes⟩ := mem_left he
   obtain ⟨kv,hkv,e1,e2⟩ := hpair e hem
   have hL : L kv.1 = true := by
    have := h8 e hem kv.1 e1
    rw [hes] at this
    cases hl : L kv.1 with
    | true => rfl
    | false => rw [hl] at this;cases this
   have hr1 : w1.heap[r]? = some (.mapIter (some b) since seen c0) := by rcases hw with rfl | rfl <;> exact h1
   have hb1 : w1.heap[b]? = some (.map es clock) := by rcases hw with rfl | rfl <;> exact h2
   refine .inr ⟨kv,hkv,hL,w1,_,hw,?_,es,clock,since,seen,e,(heap_set hr1).1,((heap_set hr1).2 b (Ne.symm hrb)).trans hb1,h3,h4,h5,h7,fun x hx k hk => ?_,hem,e1,e2⟩
   . rw [hrun,e1,e2]
   . have hx8 := h8 x hx k hk
     rw [Array.contains_push,hx8]
     have hborn : (x.born == e.born) = decide (k = kv.1) := by
      by_cases hbe : x.born = e.born
      . have hxe : x = e := by
         have hnd := ((stamped_iff es clock).1 h3).2.1
         obtain ⟨i,hi,hxi⟩ := List.mem_iff_getElem.1 hx
         obtain ⟨j,hj,hej⟩ := List.mem_iff_getElem.1 hem
         have := List.pairwise_iff_getElem.1 hnd
         rcases Nat.lt_trichotomy i j with hlt | heq | hgt
         . exact absurd (by rw [List.getElem_map,List.getElem_map,hxi,hej,hbe]) (this i j (by simpa using hi) (by simpa using hj) hlt)
         . subst heq
           rw [<- hxi,hej]
         . exact absurd (by rw [List.getElem_map,List.getElem_map,hxi,hej,hbe]) (this j i (by simpa using hj) (by simpa using hi) hgt)
        subst hxe
        rw [e1] at hk
        injection hk with hk
        simp [hk]
      . have hke : k ≠ kv.1 := fun hke => by
         subst hke
         have hpw := ((stamped_iff es clock).1 h3).2.2
         obtain ⟨i,hi,hxi⟩ := List.mem_iff_getElem.1 hx
         obtain ⟨j,hj,hej⟩ := List.mem_iff_getElem.1 hem
         have hpe := List.pairwise_iff_getElem.1 hpw
         rcases Nat.lt_trichotomy i j with hlt | heq | hgt
         . exact hpe i j hi hj hlt (by rw [hxi,hej,hk,e1])
         . subst heq
           exact hbe (by rw [<- hxi,hej])
         . exact hpe j i hj hi hgt (by rw [hxi,hej,hk,e1])
        simp [hbe,hke]
     rw [hborn]
     show (!(L k) || decide (k = kv.1)) = !(L k && !decide (k = kv.1))
     cases L k <;> cases decide (k = kv.1) <;> rfl
theorem IterE.entry {r : Nat} {L : ByteArray -> Bool} {kv : ByteArray × Value} (h : IterE w r b M L kv) : (Instr.entry (.pointer (some ⟨r,0,none⟩))).run P w = .ok (.tuple #[.string kv.1,kv.2]) w := by
 obtain ⟨es,clock,since,seen,e,h1,h2,h3,h4,h5,h6,h7,h8,h9,h10⟩ := h
 rw [run_entry_at w r b since seen es clock e h1 h2 h8 ((stamped_iff es clock).1 h3).2.1,h9,h10]
def toCome (M : List (ByteArray × Value)) (L : ByteArray -> Bool) : Nat := (M.filter fun kv => L kv.1).length
theorem toCome_lt {L : ByteArray -> Bool} {kv : ByteArray × Value} (hkv : kv ∈ M) (hL : L kv.1 = true) : toCome M (fun k => L k && !decide (k = kv.1)) < toCome M L := by
 unfold toCome
 exact filter_lt (fun x : ByteArray × Value => L x.1) (fun x => L x.1 && !decide (x.1 = kv.1)) (fun x hx => by simp at hx;exact hx.1) kv hL (by simp) M hkv
end
end Go.Proofs.YtaddcadapbpkfaaGreatDoor
