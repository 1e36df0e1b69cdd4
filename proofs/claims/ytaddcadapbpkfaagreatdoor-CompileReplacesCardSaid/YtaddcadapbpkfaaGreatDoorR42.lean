/-
 The argument, opened: what an expression that can be read holds in memory. The laws' bounds: within and small.
-/
import Derived.Test.YtaddcadapbpkfaaGreatDoorProg
import Derived.KernelRfl
import Derived.Deep.Slices
import Derived.ChangeSame
import Derived.ProofKit
import Derived.Test.YtaddcadapbpkfaaGreatDoorR20
import Derived.Test.YtaddcadapbpkfaaGreatDoorR25
namespace Go.Proofs.YtaddcadapbpkfaaGreatDoor
open Go.RowKit Go.ChangeShapes Go.WideShapes Go.Deep
mutual
def okE : E -> Prop
 | .mk _ _ _ ls xs => ls.length <= 9223372036854775807 /\ xs.length <= 9223372036854775807 /\ okL xs
def okL : List E -> Prop
 | [] => True
 | x :: r => okE x /\ okL r
end
theorem okL_of : ∀ l : List E,(∀ x ∈ l,okE x) -> okL l
 | [],_ => by unfold okL;trivial
 | x :: r,h => by unfold okL;exact ⟨h x (by simp),okL_of r (fun y hy => h y (by simp [hy]))⟩
theorem okL_mem : ∀ l : List E,okL l -> ∀ x ∈ l,okE x
 | [],_,x,hx => by simp at hx
 | y :: r,h,x,hx => by
   unfold okL at h
   rcases List.mem_cons.1 hx with rfl | hx
   . exact h.1
   . exact okL_mem r h.2 x hx
section
variable {H : Type} {enc : TypeId × Value -> H} {w : World} {base : Nat} {spare : Nat -> Bool} {held : Bool}
theorem cellsInt : Tryz.prog.cellsOf 3 = 1 := by kernel_rfl
theorem cellsStr : Tryz.prog.cellsOf 9 = 1 := by kernel_rfl
theorem cellsInts : Tryz.prog.cellsOf 22 = 1 := by kernel_rfl
theorem cellsExprs : Tryz.prog.cellsOf 23 = 1 := by kernel_rfl
theorem cellsExpr : Tryz.prog.cellsOf 25 = 5 := by kernel_rfl
theorem qdS {a : Addr} {v : Value} (h : w.cell? a = some v) : a = ⟨a.block,a.off,none⟩ := by
 obtain ⟨b,o,s⟩ := a
 cases s with
 | none => rfl
 | some s =>
   unfold World.cell? at h
   split at h <;> simp at h
theorem int_cell {fuel : Nat} {c : Value} {x : DataW H × List MemPlace} (h : DataW.trod enc Tryz.prog w base spare held fuel 3 [c] = some x) : ∃ n,c = .int .i64 n := by
 obtain ⟨n,h1,_,_⟩ := DataW.trod_int Tryz.underlying3 h
 exact ⟨n,by simpa using h1⟩
theorem str_cell {fuel : Nat} {c : Value} {x : DataW H × List MemPlace} (h : DataW.trod enc Tryz.prog w base spare held fuel 9 [c] = some x) : ∃ s : ByteArray,c = .string s := by
 obtain ⟨s,h1,_,_⟩ := DataW.trod_string Tryz.underlying9 h
 exact ⟨s,by simpa using h1⟩
theorem ints_cell {fuel : Nat} {c : Value} {x : DataW H × List MemPlace} (h : DataW.trod enc Tryz.prog w base spare held fuel 22 [c] = some x) :
 ∃ (A : Option Addr) (zs : List Int) (k : Nat),c = .slice A zs.length k /\ zs.length <= maxLen /\ IntsF w (· < w.heap.size) A zs := by
 rcases open_slice1 Tryz.underlying22 cellsInt h with ⟨h0,_⟩ | ⟨a,len,cap,m,n,V,D,Pl,hcs,_,hl,hm,hmm,_,hx⟩
 . exact ⟨none,[],0,by simpa using h0,by simp,fun h => absurd h (by simp)⟩
 . have hlm : len <= m := by rw [hmm];split <;> omega
   have hV : ∀ i,i < len -> ∃ z,V i = .int .i64 z := fun i hi => int_cell (hx i (by omega)).2
   refine ⟨some a,(List.range len).map fun i => intOf (V i),cap,by simpa using hcs,by simp;omega,fun hz => ?_⟩
   simp only [List.length_map,List.length_range] at hz ⊢
   have h0 := (hx 0 (by omega)).1
   have ha : a.add 0 = a := rfl
   rw [ha] at h0
   refine ⟨a.block,a.off,congrArg some (qdS h0),World.block_lt_of_cell? w _ h0,fun j hj => ?_⟩
   have hj' := (hx j (by omega)).1
   obtain ⟨z,e⟩ := hV j hj
   have hadd : a.add j = ⟨a.block,a.off + j,none⟩ := by rw [qdS h0];exact Addr.add_mid _ _ _
   rw [hadd] at hj'
   rw [hj',e]
   simp [List.getD,hj,e,intOf]
theorem field_of {fuel : Nat} {t : TypeId} {fs : Array Field} {cs : List Value} {x : DataW H × List MemPlace} (ht : Tryz.prog.underlying t = some (.struct fs)) (h : DataW.trod enc Tryz.prog w base spare held fuel t cs = some x) (i : Nat) (t' : TypeId) (off k : Nat) (hf : (fs[i]?).map (fun f => (f.type,f.offset)) = some (t',off)) (hk : Tryz.prog.cellsOf t' = k) :
 ∃ n y,n < fuel /\ DataW.trod enc Tryz.prog w base spare held n t' ((cs.drop off).take k) = some y := by
 obtain ⟨xs,n,hn,_,_,hlen,hg⟩ := DataW.trod_struct ht h
 obtain ⟨f,hff,he⟩ := Option.map_eq_some_iff.1 hf
 have hi : i < fs.size := (Array.getElem?_eq_some_iff.1 hff).1
 simp only [Prod.mk.injEq] at he
 obtain ⟨rfl,rfl⟩ := he
 subst hk
 exact ⟨n,xs[i]'(by omega),by omega,by rw [hg i f hff,List.getElem?_eq_getElem]⟩
theorem expr_cells : ∀ (fuel : Nat) (cs : List Value) (x : DataW H × List MemPlace),DataW.trod enc Tryz.prog w base spare held fuel 25 cs = some x -> cs.length = 5 -> ∃ y : E,ExprC w (· < w.heap.size) y cs /\ okE y := by
 intro fuel
 induction fuel using Nat.strongRecOn with
 | _ fuel ih =>
 intro cs x h hl
 match cs,hl with
 | [c0,c1,c2,c3,c4],_ =>
   obtain ⟨_,_,_,h0⟩ := field_of Tryz.underlying25 h 0 3 0 1 rfl cellsInt
   obtain ⟨_,_,_,h1⟩ := field_of Tryz.underlying25 h 1 9 1 1 rfl cellsStr
   obtain ⟨_,_,_,h2⟩ := field_of Tryz.underlying25 h 2 3 2 1 rfl cellsInt
   obtain ⟨_,_,_,h3⟩ := field_of Tryz.underlying25 h 3 22 3 1 rfl cellsInts
   obtain ⟨n4,_,hn4,h4⟩ := field_of Tryz.underlying25 h 4 23 4 1 rfl cellsExprs
   obtain ⟨k,rfl⟩ := int_cell h0
   obtain ⟨s,rfl⟩ := str_cell h1
   obtain ⟨n,rfl⟩ := int_cell h2
   obtain ⟨A,zs,zk,rfl,hzl,hzi⟩ := ints_cell h3
   have hzm : zs.length <= 9223372036854775807 := hzl
   have hss : (⟨s.data.toList.toArray⟩ : ByteArray) = s := by cases s;simp
   rcases DataW.trod_slice Tryz.underlying23 h4 with ⟨h0,_⟩ | ⟨a,len,cap,elems,rest,n5,hn5,hcs,_,_,hl5,hm,hlen0,hel,_,_⟩
   . have h0' : c4 = .slice none 0 0 := by simpa using h0
     subst h0'
     refine ⟨.mk k s.data.toList n zs [],?_,?_⟩
     . unfold ExprC
       exact ⟨A,zk,none,0,by rw [hss];rfl,hzi,fun h => absurd h (by simp)⟩
     . unfold okE okL
       exact ⟨hzm,by simp,trivial⟩
   . have hc4 : c4 = .slice (some a) len cap := by simpa using hcs
     subst hc4
     rw [cellsExpr] at hel
     have hx : ∀ i,i < len -> ∃ cs' y,w.cells? base (a.add (i * 5)) 5 = some cs' /\ DataW.trod enc Tryz.prog w base spare held n5 25 cs' = some y := fun i hi => by
      have := hel i hi
      rw [List.getElem?_eq_getElem (by omega)] at this
      obtain ⟨cs',h1,h2⟩ := Option.bind_eq_some_iff.1 this
      exact ⟨cs',_,h1,h2⟩
     have hlen : len <= 9223372036854775807 := by
      have : maxLen = 9223372036854775807 := rfl
      omega
     by_cases hz : len = 0
     . subst hz
       refine ⟨.mk k s.data.toList n zs [],?_,?_⟩
       . unfold ExprC
         exact ⟨A,zk,some a,cap,by rw [hss];rfl,hzi,fun h => absurd h (by simp)⟩
       . unfold okE okL
         exact ⟨hzm,by simp,trivial⟩
     . obtain ⟨cc0,_,g0,_⟩ := hx 0 (by omega)
       obtain ⟨_,l0,q0⟩ := World.cells?_some g0
       have hc0 := q0 0 (by omega)
       rw [List.getElem?_eq_getElem (by omega)] at hc0
       have ha : (a.add (0 * 5)).add 0 = a := rfl
       rw [ha] at hc0
       have hlt := World.block_lt_of_cell? w _ hc0
       have hsp := qdS hc0
       have hadd : ∀ j,a.add j = ⟨a.block,a.off + j,none⟩ := fun j => by rw [hsp];exact Addr.add_mid _ _ _
       have key : ∀ i,i < len -> ∃ y : E,(∃ cs,w.rangeAt a.block (a.off + i * 5) cs /\ ExprC w (· < w.heap.size) y cs) /\ okE y := fun i hi => by
        obtain ⟨cs,_,g,ht⟩ := hx i (by omega)
        obtain ⟨_,hlen',q⟩ := World.cells?_some g
        obtain ⟨y,hy,hok⟩ := ih n5 (by omega) cs _ ht hlen'
        refine ⟨y,⟨cs,fun j u hu => ?_,hy⟩,hok⟩
        have hj : j < 5 := by rw [<- hlen'];exact (List.getElem?_eq_some_iff.1 hu).1
        have := q j hj
        rw [hu,Deep.add_add,hadd] at this
        rw [<- this,Nat.add_assoc]
       obtain ⟨f,hf⟩ : ∃ f : Nat -> E,∀ i,i < len -> (∃ cs,w.rangeAt a.block (a.off + i * 5) cs /\ ExprC w (· < w.heap.size) (f i) cs) /\ okE (f i) :=
        ⟨fun i => if h : i < len then Classical.choose (key i h) else .mk 0 [] 0 [] [],fun i hi => by simp only [hi,dif_pos];exact Classical.choose_spec (key i hi)⟩
       have hbuild : ∀ (n0 o0 : Nat),(∀ i,i < n0 -> o0 + i < len) -> ExprsC w (· < w.heap.size) a.block (a.off + o0 * 5) ((List.range n0).map fun i => f (o0 + i)) := by
        intro n0
        induction n0 with
        | zero => intro o0 _;simp [ExprsC]
        | succ n0 ihn =>
          intro o0 ho
          rw [List.range_succ_eq_map,List.map_cons,List.map_map]
          unfold ExprsC
          refine ⟨(hf (o0 + 0) (ho 0 (by omega))).1,?_⟩
          have := ihn (o0 + 1) (fun i hi => by have := ho (i + 1) (by omega);omega)
          rw [show a.off + o0 * 5 + 5 = a.off + (o0 + 1) * 5 by omega]
          have he : ((fun i => f (o0 + i)) ∘ Nat.succ) = fun i => f (o0 + 1 + i) := by
           funext i
           simp only [Function.comp]
           congr 1
           omega
          rw [he]
          exact this
       have hxs := hbuild len 0 (fun i hi => by omega)
       simp only [Nat.zero_mul,Nat.add_zero,Nat.zero_add] at hxs
       refine ⟨.mk k s.data.toList n zs ((List.range len).map f),?_,?_⟩
       . unfold ExprC
         exact ⟨A,zk,some a,cap,by rw [hss];simp,hzi,fun _ => ⟨a.block,a.off,congrArg some hsp,hlt,hxs⟩⟩
       . unfold okE
         refine ⟨hzm,by simpa using hlen,okL_of _ fun y hy => ?_⟩
         obtain ⟨i,hi,rfl⟩ := List.mem_map.1 hy
         exact (hf i (List.mem_range.1 hi)).2
end
end Go.Proofs.YtaddcadapbpkfaaGreatDoor
namespace Go.Proofs.YtaddcadapbpkfaaGreatDoor
open Go.RowKit
mutual
def bndE : E -> Prop
 | .mk _ nm _ ls xs => nm.length <= 100 /\ ls.length <= 400 /\ bndL xs
def bndL : List E -> Prop
 | [] => True
 | x :: r => bndE x /\ bndL r
end
theorem bndL_snoc : ∀ (l : List E) (x : E),bndL l -> bndE x -> bndL (l ++ [x])
 | [],x,_,h => by
   unfold bndL
   exact ⟨h,by unfold bndL;trivial⟩
 | y :: r,x,h,hx => by
   rw [List.cons_append]
   unfold bndL at h ⊢
   exact ⟨h.1,bndL_snoc r x h.2 hx⟩
theorem bndL_mem : ∀ (l : List E) (x : E),bndL l -> x ∈ l -> bndE x
 | [],x,_,h => by simp at h
 | y :: r,x,h,hm => by
   unfold bndL at h
   rcases List.mem_cons.1 hm with rfl | hm
   . exact h.1
   . exact bndL_mem r x h.2 hm
mutual
theorem ent_bnd : ∀ x : E,bndE x -> entE x <= 500 * sizeE x
 | .mk k nm n ls xs,h => by
   unfold bndE at h
   have := ents_bnd xs h.2.2
   unfold entE sizeE
   omega
theorem ents_bnd : ∀ l : List E,bndL l -> entL l <= 500 * sizeL l
 | [],_ => by simp [entL,sizeL]
 | x :: r,h => by
   unfold bndL at h
   have := ent_bnd x h.1
   have := ents_bnd r h.2
   unfold entL sizeL
   omega
end
def CountA (w : World) (pn nd : Nat) : Prop := w.heap[pn]? = some (.cells #[.int .i64 nd] 3 (0,0))
def K1 (pn : Nat) (w w' : World) : Prop := w'.os = w.os /\ w'.tape = w.tape /\ w'.output = w.output /\ w.heap.size <= w'.heap.size /\ ∀ k,k < w.heap.size -> k ≠ pn -> w'.heap[k]? = w.heap[k]?
theorem K1.refl (pn : Nat) (w : World) : K1 pn w w := ⟨rfl,rfl,rfl,Nat.le_refl _,fun _ _ _ => rfl⟩
theorem K1.trans {pn : Nat} {a b c : World} (h : K1 pn a b) (k : K1 pn b c) : K1 pn a c :=
 ⟨k.1.trans h.1,k.2.1.trans h.2.1,k.2.2.1.trans h.2.2.1,Nat.le_trans h.2.2.2.1 k.2.2.2.1,fun i hi h1 => (k.2.2.2.2 i (Nat.lt_of_lt_of_le hi h.2.2.2.1) h1).trans (h.2.2.2.2 i hi h1)⟩
theorem K1.of_below {pn : Nat} {w w' : World} (h : Below w.heap.size w w') : K1 pn w w' := ⟨h.os,h.tape,h.output,h.size,fun k hk _ => h.block k hk⟩
theorem K1.below {pn B : Nat} {w w' : World} (h : K1 pn w w') (h1 : B <= pn) (h3 : B <= w.heap.size) : Below B w w' :=
 ⟨h.1,h.2.1,h.2.2.1,h.2.2.2.1,fun k hk => h.2.2.2.2 k (by omega) (by omega)⟩
theorem K1.set {pn : Nat} {w : World} (v : Value) : K1 pn w (w.setCell ⟨pn,0,none⟩ v) :=
 ⟨(Below.setCell (Below.refl 0 w) (p := ⟨pn,0,none⟩) (Nat.zero_le _) v).os,(Below.setCell (Below.refl 0 w) (p := ⟨pn,0,none⟩) (Nat.zero_le _) v).tape,(Below.setCell (Below.refl 0 w) (p := ⟨pn,0,none⟩) (Nat.zero_le _) v).output,(Below.setCell (Below.refl 0 w) (p := ⟨pn,0,none⟩) (Nat.zero_le _) v).size,
   fun k _ h1 => Below.heap_setCell _ _ _ _ (by show k ≠ pn;exact h1)⟩
theorem one_set {w : World} {b : Nat} {u : Value} {t : TypeId} (v : Value) (h : w.heap[b]? = some (.cells #[u] t (0,0))) : (w.setCell ⟨b,0,none⟩ v).heap[b]? = some (.cells #[v] t (0,0)) := one_setCell h
theorem ArgsAt.k1 {w w' : World} {B pn : Nat} {aa : Option Addr} {xs : List E} (h : ArgsAt w (· < B) aa xs) (hk : K1 pn w w') (h1 : B <= pn) (h3 : B <= w.heap.size) : ArgsAt w' (· < B) aa xs := fun hz => by
 obtain ⟨b,o,e,hF,hx⟩ := h hz
 have hb := hk.below h1 h3
 exact ⟨b,o,e,hF,ExprsC.mono (fun b hF _ => ⟨hF,hb.block b hF⟩) (hb.block b hF) xs o hx⟩
def InPost (x : E) (pn nd : Nat) (w : World) (e : Ending) (w' : World) : Prop :=
 ∃ (b : Bool) (nd' : Nat),e = .returned (.bool b) /\ CountA w' pn nd' /\ K1 pn w w' /\ (b = true -> nd' <= 40 /\ nd' = nd + sizeE x /\ bndE x)
def RelIn (W : World) (pn n0 : Nat) (xs : List E) (v : Value) (g : Nat) (wr : World) : Prop :=
 ∃ (i nd : Nat),i + g = xs.length /\ v = .int .i64 i /\ CountA wr pn nd /\ K1 pn W wr /\ nd <= 40 /\ nd = n0 + sizeL (xs.take i) /\ bndL (xs.take i)
set_option maxHeartbeats 4000000 in
set_option maxRecDepth 100000 in
theorem within_c : ∀ (x : E) (cs : List Value) (B pn d nd : Nat) (w : World),ExprC w (· < B) x cs -> okE x -> B <= w.heap.size -> B <= pn -> CountA w pn nd -> d <= 60 -> nd <= 40 ->
 Calls Tryz.prog 20 #[.agg cs.toArray,.int .i64 d,.pointer (some ⟨pn,0,none⟩)] w (InPost x pn nd w) := by
 refine qaT ?_
 intro k nm n ls xs ih cs B pn d nd w h hok hB hpn hcn hd hnd
 unfold ExprC at h
 obtain ⟨la,lc,aa,ac,rfl,_,ha⟩ := h
 unfold okE at hok
 obtain ⟨hll,hxl,hoks⟩ := hok
 have HIH : Hid (∀ (i : Nat) (h : i < xs.length) (cs : List Value) (d nd : Nat) (w' : World),ExprC w' (· < B) (xs[i]'h) cs -> B <= w'.heap.size -> CountA w' pn nd -> d <= 60 -> nd <= 40 -> Calls Tryz.prog 20 #[.agg cs.toArray,.int .i64 d,.pointer (some ⟨pn,0,none⟩)] w' (InPost (xs[i]'h) pn nd w')) :=
  fun i h cs d nd w' h1 h2 h3 h4 h5 => ih _ (List.getElem_mem h) cs B pn d nd w' h1 (okL_mem xs hoks _ (List.getElem_mem h)) h2 hpn h3 h4 h5
 have HA : Hid (ArgsAt w (· < B) aa xs) := ha
 have HSZ : Hid (sizeE (.mk k nm n ls xs) = 1 + sizeL xs) := by show _ = _;conv => lhs;unfold sizeE
 clear ih ha hoks
 have hpnw : pn < w.heap.size := (Array.getElem?_eq_some_iff.1 hcn).1
 have n0 := cell_of_one hcn
 have f0 := free_of_one hcn
 go_enter Tryz.func20,Tryz.ntmps20
 go_upto_region 2 with fail
 have hs0 : (w.setCell ⟨pn,0,none⟩ (.int .i64 (nd + 1))).heap.size = w.heap.size := Nat.le_antisymm (by simp) (K1.set (pn := pn) (.int .i64 (nd + 1))).2.2.2.1
 have hal : Below (w.setCell ⟨pn,0,none⟩ (.int .i64 (nd + 1))).heap.size (w.setCell ⟨pn,0,none⟩ (.int .i64 (nd + 1))) ((w.setCell ⟨pn,0,none⟩ (.int .i64 (nd + 1))).alloc (.cells #[.int .i64 k,.string ⟨nm.toArray⟩,.int .i64 n,.slice la ls.length lc,.slice aa xs.length ac] 25)) := (Below.refl _ _).alloc (Nat.le_refl _) _
 have hk1 : K1 pn w ((w.setCell ⟨pn,0,none⟩ (.int .i64 (nd + 1))).alloc (.cells #[.int .i64 k,.string ⟨nm.toArray⟩,.int .i64 n,.slice la ls.length lc,.slice aa xs.length ac] 25)) := (K1.set _).trans (K1.of_below hal)
 have hN1 := (hal.block pn (by rw [hs0];exact hpnw)).trans (one_set (.int .i64 ((nd : Int) + 1)) hcn)
 have hR1 : ((w.setCell ⟨pn,0,none⟩ (.int .i64 (nd + 1))).alloc (.cells #[.int .i64 k,.string ⟨nm.toArray⟩,.int .i64 n,.slice la ls.length lc,.slice aa xs.length ac] 25)).heap[w.heap.size]? = some (.cells #[.int .i64 k,.string ⟨nm.toArray⟩,.int .i64 n,.slice la ls.length lc,.slice aa xs.length ac] 25 (0,0)) := by
  rw [<- hs0];exact heap_alloc_new _ _
 have HA1 := Lib.hid (HA.out.k1 hk1 hpn hB)
 go_simp
 clear hal hs0 n0 f0 HA hcn
 generalize (w.setCell ⟨pn,0,none⟩ (.int .i64 (nd + 1))).alloc (.cells #[.int .i64 k,.string ⟨nm.toArray⟩,.int .i64 n,.slice la ls.length lc,.slice aa xs.length ac] 25) = W3 at *
 have HK3 := Lib.hid hk1
 have HA3 := Lib.hid HA1.out
 have HCT : Hid (CountA W3 pn (nd + 1)) := hN1
 have hxw : w.heap.size < W3.heap.size := (Array.getElem?_eq_some_iff.1 hR1).1
 obtain ⟨c0,c1,c2,c3,c4⟩ := cells5 hR1
 have n3 := cell_of_one hN1
 clear hk1 HA1 hN1 hR1
 by_cases h1 : 40 < nd + 1
 . go_wp2_with fail
   go_ret
   exact ⟨false,nd + 1,rfl,HCT.out,HK3.out,fun h => by cases h⟩
 by_cases h3 : d < 1
 . go_wp2_with fail
   go_ret
   exact ⟨false,nd + 1,rfl,HCT.out,HK3.out,fun h => by cases h⟩
 by_cases h4 : 100 < nm.length
 . go_wp2_with fail
   go_ret
   exact ⟨false,nd + 1,rfl,HCT.out,HK3.out,fun h => by cases h⟩
 by_cases h5 : 400 < ls.length
 . go_wp2_with fail
   go_ret
   exact ⟨false,nd + 1,rfl,HCT.out,HK3.out,fun h => by cases h⟩
 go_wp2_with fail
 have hB3 : B <= W3.heap.size := by omega
 clear c0 c1 c2 c3 c4 n3
 go_loopg [37] xs.length (fun g v wr => RelIn W3 pn (nd + 1) xs v g wr)
 case atStart => exact ⟨0,nd + 1,by omega,rfl,HCT.out,K1.refl _ _,by omega,by simp [sizeL],by simp [bndL]⟩
 case round =>
  obtain ⟨i,nd',hig,rfl,hct,hkr,hnd',hnde,hbnd⟩ := hrel
  have HKR := Lib.hid hkr
  have HAR := Lib.hid (HA3.out.k1 hkr hpn hB3)
  have HCR := Lib.hid hct
  have HNE := Lib.hid hnde
  have HBD := Lib.hid hbnd
  have hBr : B <= wr.heap.size := Nat.le_trans hB3 hkr.2.2.2.1
  clear hkr HA3 hct hnde HCT hbnd
  by_cases hi : i < xs.length
  . obtain ⟨b,o,k',nm',n',la',ll',lc',ab',al',ac',rfl,hrg,hec⟩ := HAR.out.at_ hi
    have HRG := Lib.hid hrg
    have hs1 : sizeL (xs.take (i + 1)) = sizeL (xs.take i) + sizeE (xs[i]'hi) := by rw [qaV (List.getElem?_eq_getElem hi),qeU]
    have hs2 : bndE (xs[i]'hi) -> bndL (xs.take (i + 1)) := fun h => by rw [qaV (List.getElem?_eq_getElem hi)];exact bndL_snoc _ _ HBD.out h
    have HS1 := Lib.hid hs1
    have HS2 := Lib.hid hs2
    have hba : Below wr.heap.size wr (wr.alloc (.cells #[.int .i64 k',.string nm',.int .i64 n',.slice la' ll' lc',.slice ab' al' ac'] 25)) := (Below.refl _ _).alloc (Nat.le_refl _) _
    have hpr : pn < wr.heap.size := (Array.getElem?_eq_some_iff.1 HCR.out).1
    have HC : Hid (Calls Tryz.prog 20 #[.agg #[.int .i64 k',.string nm',.int .i64 n',.slice la' ll' lc',.slice ab' al' ac'],.int .i64 ((d - 1 : Nat) : Int),.pointer (some ⟨pn,0,none⟩)] (wr.alloc (.cells #[.int .i64 k',.string nm',.int .i64 n',.slice la' ll' lc',.slice ab' al' ac'] 25)) (InPost (xs[i]'hi) pn nd' (wr.alloc (.cells #[.int .i64 k',.string nm',.int .i64 n',.slice la' ll' lc',.slice ab' al' ac'] 25)))) :=
     HIH.out i hi _ (d - 1) nd' _ (hec.grow hba) (Nat.le_trans hBr hba.size) ((hba.block _ hpr).trans HCR.out) (by omega) hnd'
    have HBA := Lib.hid hba
    have hdd : ((d - 1 : Nat) : Int) = (d : Int) - 1 := by omega
    rw [hdd] at HC
    have hi0 : (0 : Int) <= (i : Int) := by omega
    have hi1 : (i : Int) < (xs.length : Int) := by omega
    clear hrg hec HAR hs1 hs2 hba hdd HIH
    go_wp2_with (first
     | (refine wpList_load_mid rfl 25 (.tmp 39) rfl b (o + i * 5) rfl [.int .i64 k',.string nm',.int .i64 n',.slice la' ll' lc',.slice ab' al' ac'] _ HRG.out Tryz.underlying25 rfl exprSize ?_)
     | (refine qaC rfl 25 (.tmp 8) (.tmp 40) rfl wr _ #[.int .i64 k',.string nm',.int .i64 n',.slice la' ll' lc',.slice ab' al' ac'] rfl rfl exprSize rfl (by simp [Value.oneCell']) ?_))
    refine HC.out.mono ?_
    rintro e w5 ⟨b5,nd5,rfl,hc5,hk5,ht5⟩
    have HK5 := Lib.hid (HKR.out.trans ((K1.of_below HBA.out).trans hk5))
    have HC5 := Lib.hid hc5
    have HT5 := Lib.hid ht5
    clear hc5 hk5 ht5 HC HKR HBA
    cases b5
    . go_wp2_with fail
      go_ret
      exact ⟨false,nd5,rfl,HC5.out,HK3.out.trans HK5.out,fun h => by cases h⟩
    . go_wp2_with fail
      go_roundg (xs.length - (i + 1))
      case measure => omega
      case rel =>
       obtain ⟨h1,h2,h3⟩ := HT5.out trivial
       have h5 := HS1.out
       have h7 := HNE.out
       exact ⟨i + 1,nd5,by omega,by simp,HC5.out,HK5.out,h1,by omega,HS2.out h3⟩
  . go_wp2_with fail
    go_ret
    have hb := HBD.out
    rw [List.take_of_length_le (by omega)] at hb
    refine ⟨true,nd',rfl,HCR.out,HK3.out.trans HKR.out,fun _ => ⟨hnd',?_,?_⟩⟩
    . have := HNE.out
      rw [List.take_of_length_le (by omega)] at this
      rw [HSZ.out]
      omega
    . unfold bndE
      exact ⟨by omega,by omega,hb⟩
theorem heap2 (w : World) (o1 o2 : Obj) : ((w.alloc o1).alloc o2).heap[w.heap.size]? = some o1 /\ ((w.alloc o1).alloc o2).heap[w.heap.size + 1]? = some o2 := by
 have h1 : (w.alloc o1).heap.size = w.heap.size + 1 := World.size_alloc _ _
 exact ⟨(heap_alloc_old _ _ (by omega)).trans (heap_alloc_new _ _),by rw [<- h1];exact heap_alloc_new _ _⟩
set_option maxHeartbeats 4000000 in
set_option maxRecDepth 100000 in
theorem small_c (x : E) (cs : List Value) (F : Nat -> Prop) (d : Nat) (w : World) (h : ExprC w F x cs) (hok : okE x) (hd : d <= 60) :
 Calls Tryz.prog 6 #[.agg cs.toArray,.int .i64 d] w fun e w' => ∃ b,e = .returned (.bool b) /\ Below w.heap.size w w' /\ (b = true -> sizeE x <= 40 /\ bndE x) := by
 obtain ⟨k,nm,n,la,ll,lc,aa,al,ac,rfl⟩ := h.shape
 have HX := Lib.hid h.all
 have HOK := Lib.hid hok
 clear h hok
 obtain ⟨r0,r1⟩ := heap2 w (.cells #[.int .i64 k,.string nm,.int .i64 n,.slice la ll lc,.slice aa al ac] 25) (.cells #[.int .i64 0] 3)
 have hb : Below w.heap.size w ((w.alloc (.cells #[.int .i64 k,.string nm,.int .i64 n,.slice la ll lc,.slice aa al ac] 25)).alloc (.cells #[.int .i64 0] 3)) :=
  ((Below.refl _ _).alloc (Nat.le_refl _) _).alloc (by simp) _
 obtain ⟨z0,z1,z2,z3,z4⟩ := cells5 r0
 have HC : Hid (CountA ((w.alloc (.cells #[.int .i64 k,.string nm,.int .i64 n,.slice la ll lc,.slice aa al ac] 25)).alloc (.cells #[.int .i64 0] 3)) (w.heap.size + 1) 0) := r1
 have HB := Lib.hid hb
 have HXB := Lib.hid (HX.out.kept hb)
 clear r0 r1 hb
 go_enter Tryz.func6,Tryz.ntmps6
 go_wp2_with fail
 generalize (w.alloc (.cells #[.int .i64 k,.string nm,.int .i64 n,.slice la ll lc,.slice aa al ac] 25)).alloc (.cells #[.int .i64 0] 3) = W at *
 clear z0 z1 z2 z3 z4
 refine (within_c x _ w.heap.size (w.heap.size + 1) d 0 W HXB.out HOK.out HB.out.size (by omega) HC.out hd (by omega)).mono ?_
 rintro e w5 ⟨b,nd,rfl,_,hk,ht⟩
 have HK := Lib.hid (HB.out.trans (hk.below (by omega) HB.out.size))
 have HT := Lib.hid ht
 clear hk ht
 go_wp2_with fail
 go_ret
 refine ⟨b,rfl,HK.out,fun hbt => ?_⟩
 obtain ⟨h1,h2,h3⟩ := HT.out hbt
 exact ⟨by omega,h3⟩
end Go.Proofs.YtaddcadapbpkfaaGreatDoor
