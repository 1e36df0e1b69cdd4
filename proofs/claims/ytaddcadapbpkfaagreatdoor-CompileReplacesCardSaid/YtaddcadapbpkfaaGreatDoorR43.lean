/-
 More of what the texts of the fields of expressions hold: rows of expressions, one more operation of a region, the reference's Same. compile.replace: an expression with names put in their places, copied. The model, what a walk knows of the map.
-/
import Derived.Laws.IdiomRangeMap
import Derived.Great.BuildSlice
import Derived.Test.YtaddcadapbpkfaaGreatDoorR20
import Derived.Test.YtaddcadapbpkfaaGreatDoorR21
import Derived.Test.YtaddcadapbpkfaaGreatDoorR25
import Derived.Test.YtaddcadapbpkfaaGreatDoorR42
import Derived.Test.YtaddcadapbpkfaaGreatDoorR02
import Derived.Test.YtaddcadapbpkfaaGreatDoorR05
namespace Go.Proofs.YtaddcadapbpkfaaGreatDoor
open Go.RowKit
theorem ExprC.one {w : World} {F : Nat -> Prop} {x : E} {cs : List Value} (h : ExprC w F x cs) : ∀ v ∈ cs,v.oneCell' = true := by
 cases x
 unfold ExprC at h
 obtain ⟨la,lc,aa,ac,rfl,_⟩ := h
 intro v hv
 simp at hv
 rcases hv with rfl | rfl | rfl | rfl | rfl <;> rfl
def CellsOf (w : World) (F : Nat -> Prop) : List E -> List Value -> Prop
 | [],xs => xs = []
 | x :: r,xs => ∃ cs ys,xs = cs ++ ys /\ ExprC w F x cs /\ CellsOf w F r ys
theorem CellsOf.len {w : World} {F : Nat -> Prop} : ∀ {az : List E} {xs : List Value},CellsOf w F az xs -> xs.length = az.length * 5
 | [],xs,h => by unfold CellsOf at h;simp [h]
 | x :: r,xs,h => by
   unfold CellsOf at h
   obtain ⟨cs,ys,rfl,h1,h2⟩ := h
   rw [List.length_append,h1.len,CellsOf.len h2,List.length_cons]
   omega
theorem CellsOf.mono {w w' : World} {F F' : Nat -> Prop} (hF : ∀ b,F b -> b < w.heap.size -> F' b /\ w'.heap[b]? = w.heap[b]?) : ∀ {az : List E} {xs : List Value},CellsOf w F az xs -> CellsOf w' F' az xs
 | [],xs,h => h
 | x :: r,xs,h => by
   unfold CellsOf at h ⊢
   obtain ⟨cs,ys,e,h1,h2⟩ := h
   exact ⟨cs,ys,e,ExprC.mono hF x cs h1,CellsOf.mono hF h2⟩
theorem CellsOf.snoc {w : World} {F : Nat -> Prop} {x : E} {cs : List Value} (hx : ExprC w F x cs) : ∀ {az : List E} {xs : List Value},CellsOf w F az xs -> CellsOf w F (az ++ [x]) (xs ++ cs)
 | [],xs,h => by
   unfold CellsOf at h
   subst h
   exact ⟨cs,[],by simp,hx,rfl⟩
 | y :: r,xs,h => by
   unfold CellsOf at h
   obtain ⟨cs',ys,rfl,h1,h2⟩ := h
   exact ⟨cs',ys ++ cs,by simp,h1,CellsOf.snoc hx h2⟩
theorem CellsOf.exprs {w : World} {F : Nat -> Prop} {b : Nat} : ∀ {az : List E} {xs : List Value} (o : Nat),CellsOf w F az xs -> w.rangeAt b o xs -> ExprsC w F b o az
 | [],_,_,_,_ => by unfold ExprsC;trivial
 | x :: r,xs,o,h,hr => by
   unfold CellsOf at h
   obtain ⟨cs,ys,rfl,h1,h2⟩ := h
   unfold ExprsC
   refine ⟨⟨cs,fun j v hv => hr j v ?_,h1⟩,CellsOf.exprs (o + 5) h2 (fun j v hv => ?_)⟩
   . rw [List.getElem?_append_left (List.getElem?_eq_some_iff.1 hv).1];exact hv
   . have := hr (5 + j) v (by rw [List.getElem?_append_right (by rw [h1.len];omega),h1.len];simpa using hv)
     rw [<- Nat.add_assoc] at this
     exact this
theorem Pows.grow {w w' : World} (h : Pows w) (hb : Below w.heap.size w w') : Pows w' := h.keep h.lt hb
section
variable {P : Program} {S : World -> Prop} {K : Act -> World -> Prop} {o : Oper} {r : List (Nat × Oper)} {a : Act} {w : World}
theorem mixf_step {v : Value} {w' : World} (hg : o.guard = none) (hr : (execOp a.eval o).run P w = .ok (.value v) w') (hS : S w')
 (h : wpMixF P S K r (a.put o.dst v) w') : wpMixF P S K ((2,o) :: r) a w := ⟨hg,.inr ⟨v,w',hr,hS,h⟩⟩
end
def SBw (a w : World) : Prop := Below a.heap.size a w
theorem SBw.cell_ {a w : World} (h : SBw a w) {b o : Nat} {v : Value} (hc : a.cell? ⟨b,o,none⟩ = some v) : w.cell? ⟨b,o,none⟩ = some v :=
 (Below.cell h (p := ⟨b,o,none⟩) (World.block_lt_of_cell? a _ hc)).trans hc
def RelS (W : World) (N : Nat) (v : Value) (g : Nat) (wr : World) : Prop := ∃ i,i + g = N /\ v = .int .i64 i /\ Below W.heap.size W wr
set_option maxHeartbeats 4000000 in
set_option maxRecDepth 100000 in
theorem same_c : ∀ (x : E) (cs cs' : List Value) (F G : Nat -> Prop) (w : World),ExprC w F x cs -> ExprC w G x cs' -> sizeE x <= 1000000000 -> entE x <= 1000000000 ->
 Calls Tryz.prog 14 #[.agg cs.toArray,.agg cs'.toArray] w fun e w' => e = .returned (.bool true) /\ Below w.heap.size w w' := by
 refine qaT ?_
 intro k nm n ls xs ih cs cs' F G w h h' hs he
 have hxx := h
 have hyy := h'
 unfold ExprC at h h'
 obtain ⟨la,lc,aa,ac,rfl,hi,ha⟩ := h
 obtain ⟨la',lc',aa',ac',rfl,hi',ha'⟩ := h'
 have hs' : 1 + sizeL xs <= 1000000000 := by unfold sizeE at hs;exact hs
 have he' : ls.length + entL xs <= 1000000000 := by unfold entE at he;exact he
 have hlen : xs.length <= 1000000000 := by have := qbS xs;omega
 have hll : ls.length <= 1000000000 := by omega
 have HIH : Hid (∀ (i : Nat) (h : i < xs.length) (cs cs' : List Value) (w' : World),ExprC w' F xs[i] cs -> ExprC w' G xs[i] cs' -> Calls Tryz.prog 14 #[.agg cs.toArray,.agg cs'.toArray] w' fun e w'' => e = .returned (.bool true) /\ Below w'.heap.size w' w'') := by
  intro i h cs1 cs2 w' he1 he2
  exact ih _ (List.getElem_mem h) cs1 cs2 F G w' he1 he2 (by have := qbW xs _ (List.getElem_mem h);omega) (by have := qdJ xs _ (List.getElem_mem h);omega)
 have HA : Hid (ArgsAt w F aa xs) := ha
 have HA' : Hid (ArgsAt w G aa' xs) := ha'
 have HI := Lib.hid hi
 have HI' := Lib.hid hi'
 clear ih ha hi ha' hi' hs he hs' he' hxx hyy
 have hb0 : Below w.heap.size w ((w.alloc (.cells #[.int .i64 k,.string ⟨nm.toArray⟩,.int .i64 n,.slice la ls.length lc,.slice aa xs.length ac] 25)).alloc (.cells #[.int .i64 k,.string ⟨nm.toArray⟩,.int .i64 n,.slice la' ls.length lc',.slice aa' xs.length ac'] 25)) := ((Below.refl _ _).alloc (Nat.le_refl _) _).alloc (by simp) _
 have s1 : (w.alloc (.cells #[.int .i64 k,.string ⟨nm.toArray⟩,.int .i64 n,.slice la ls.length lc,.slice aa xs.length ac] 25)).heap.size = w.heap.size + 1 := World.size_alloc _ _
 have hR1 : ((w.alloc (.cells #[.int .i64 k,.string ⟨nm.toArray⟩,.int .i64 n,.slice la ls.length lc,.slice aa xs.length ac] 25)).alloc (.cells #[.int .i64 k,.string ⟨nm.toArray⟩,.int .i64 n,.slice la' ls.length lc',.slice aa' xs.length ac'] 25)).heap[w.heap.size]? = some (.cells #[.int .i64 k,.string ⟨nm.toArray⟩,.int .i64 n,.slice la ls.length lc,.slice aa xs.length ac] 25 (0,0)) := by
  rw [Lib.alloc_old _ _ _ (by rw [s1];omega)];exact heap_alloc_new _ _
 have hR2 : ((w.alloc (.cells #[.int .i64 k,.string ⟨nm.toArray⟩,.int .i64 n,.slice la ls.length lc,.slice aa xs.length ac] 25)).alloc (.cells #[.int .i64 k,.string ⟨nm.toArray⟩,.int .i64 n,.slice la' ls.length lc',.slice aa' xs.length ac'] 25)).heap[w.heap.size + 1]? = some (.cells #[.int .i64 k,.string ⟨nm.toArray⟩,.int .i64 n,.slice la' ls.length lc',.slice aa' xs.length ac'] 25 (0,0)) := by
  rw [<- s1];exact heap_alloc_new _ _
 have HI1 := Lib.hid (HI.out.mono (fun b hF hlt => ⟨hF,hb0.block b hlt⟩))
 have HI2 := Lib.hid (HI'.out.mono (fun b hF hlt => ⟨hF,hb0.block b hlt⟩))
 have HA1 := Lib.hid (HA.out.grow hb0)
 have HA2 := Lib.hid (HA'.out.grow hb0)
 have HB0 := Lib.hid hb0
 have HR1 := Lib.hid hR1
 have HR2 := Lib.hid hR2
 clear hb0 HI HI' HA HA' s1
 obtain ⟨c0,c1,c2,c3,c4⟩ := cells5 hR1
 obtain ⟨d0,d1,d2,d3,d4⟩ := cells5 hR2
 clear hR1 hR2
 go_enter Tryz.func14,Tryz.ntmps14
 go_upto_region 1 with fail
 go_simp
 generalize (w.alloc (.cells #[.int .i64 k,.string ⟨nm.toArray⟩,.int .i64 n,.slice la ls.length lc,.slice aa xs.length ac] 25)).alloc (.cells #[.int .i64 k,.string ⟨nm.toArray⟩,.int .i64 n,.slice la' ls.length lc',.slice aa' xs.length ac'] 25) = W at *
 have hxb : w.heap.size < W.heap.size := (Array.getElem?_eq_some_iff.1 HR1.out).1
 have hyb : w.heap.size + 1 < W.heap.size := (Array.getElem?_eq_some_iff.1 HR2.out).1
 go_wp2_with fail
 clear c0 c1 c2 c3 c4 d0 d1 d2 d3 d4
 go_loopg [5] ls.length (fun g v wr => RelS W ls.length v g wr)
 case atStart => exact ⟨0,by omega,rfl,Below.refl _ _⟩
 case round =>
  obtain ⟨i,hig,rfl,hbr⟩ := hrel
  have HBR := Lib.hid hbr
  obtain ⟨_,_,_,c3,c4⟩ := cells5 ((hbr.block _ hxb).trans HR1.out)
  obtain ⟨_,_,_,d3,d4⟩ := cells5 ((hbr.block _ hyb).trans HR2.out)
  by_cases hi : i < ls.length
  . obtain ⟨b,o,rfl,_,hc1⟩ := (HI1.out.mono (fun b hF hlt => ⟨hF,hbr.block b hlt⟩)) (by omega)
    obtain ⟨b',o',rfl,_,hc2⟩ := (HI2.out.mono (fun b hF hlt => ⟨hF,hbr.block b hlt⟩)) (by omega)
    have p1 := hc1 i hi
    have p2 := hc2 i hi
    have hi0 : (0 : Int) <= (i : Int) := by omega
    have hi1 : (i : Int) < (ls.length : Int) := by omega
    generalize ls.getD i 0 = z at *
    have HFC : Hid (∀ w',SBw wr w' -> w'.cell? ⟨w.heap.size,3,none⟩ = some (.slice (some ⟨b,o,none⟩) ls.length lc) /\ w'.cell? ⟨w.heap.size + 1,3,none⟩ = some (.slice (some ⟨b',o',none⟩) ls.length lc') /\ w'.cell? ⟨b,o + i,none⟩ = some (.int .i64 z) /\ w'.cell? ⟨b',o' + i,none⟩ = some (.int .i64 z)) := by
     intro w' hw'
     exact ⟨hw'.cell_ c3,hw'.cell_ d3,hw'.cell_ p1,hw'.cell_ p2⟩
    clear hc1 hc2 hbr HI1 HI2 HA1 HA2 HIH c4 d4
    go_upto_region 6 with fail
    refine qbR (SBw wr) (by kernel_rfl) (by kernel_rfl) ((Below.refl _ _).drew) ?_
    repeat (apply qbK rfl
            . intro W' hS
              obtain ⟨e0,e1,e2,e3⟩ := HFC.out W' hS
              go_simp
              try rfl
            go_simp)
    refine qbD ?_
    intro w5 hS5
    have HB5 := Lib.hid (HBR.out.trans (Below.mono hS5 HBR.out.size))
    clear hS5
    go_wp2_with fail
    go_roundg (ls.length - (i + 1))
    case measure => omega
    case rel => exact ⟨i + 1,by omega,by simp,HB5.out⟩
  . have HA1r := Lib.hid (HA1.out.grow hbr)
    have HA2r := Lib.hid (HA2.out.grow hbr)
    have HR1r := Lib.hid ((hbr.block _ hxb).trans HR1.out)
    have HR2r := Lib.hid ((hbr.block _ hyb).trans HR2.out)
    have hxr : w.heap.size < wr.heap.size := Nat.lt_of_lt_of_le hxb hbr.size
    have hyr : w.heap.size + 1 < wr.heap.size := Nat.lt_of_lt_of_le hyb hbr.size
    have HB1 := Lib.hid (HB0.out.trans (hbr.mono HB0.out.size))
    clear hbr HBR HA1 HA2 HI1 HI2 HR1 HR2 hxb hyb HB0
    go_wp2_with fail
    clear c3 c4 d3 d4
    generalize hV : wr = V at *
    clear hV hig
    go_loopg [6] xs.length (fun g v wr => RelS V xs.length v g wr)
    case atStart => exact ⟨0,by omega,rfl,Below.refl _ _⟩
    case round =>
     obtain ⟨j,hjg,rfl,hbr⟩ := hrel
     have HBR := Lib.hid hbr
     obtain ⟨_,_,_,_,c4⟩ := cells5 ((hbr.block _ hxr).trans HR1r.out)
     obtain ⟨_,_,_,_,d4⟩ := cells5 ((hbr.block _ hyr).trans HR2r.out)
     by_cases hj : j < xs.length
     . obtain ⟨b1,o1,k1,nm1,n1,la1,ll1,lc1,ab1,al1,ac1,rfl,hrg1,hec1⟩ := (HA1r.out.grow hbr).at_ hj
       obtain ⟨b2,o2,k2,nm2,n2,la2,ll2,lc2,ab2,al2,ac2,rfl,hrg2,hec2⟩ := (HA2r.out.grow hbr).at_ hj
       have HC : Hid (∀ w',SBw wr w' -> Calls Tryz.prog 14 #[.agg #[.int .i64 k1,.string nm1,.int .i64 n1,.slice la1 ll1 lc1,.slice ab1 al1 ac1],.agg #[.int .i64 k2,.string nm2,.int .i64 n2,.slice la2 ll2 lc2,.slice ab2 al2 ac2]] w' fun e w'' => e = .returned (.bool true) /\ Below w'.heap.size w' w'') :=
        fun w' hw' => HIH.out j hj _ _ w' (hec1.grow hw') (hec2.grow hw')
       have HFC : Hid (∀ w',SBw wr w' -> w'.cell? ⟨w.heap.size,4,none⟩ = some (.slice (some ⟨b1,o1,none⟩) xs.length ac) /\ w'.cell? ⟨w.heap.size + 1,4,none⟩ = some (.slice (some ⟨b2,o2,none⟩) xs.length ac')) := by
        intro w' hw'
        exact ⟨hw'.cell_ c4,hw'.cell_ d4⟩
       have hb1 : b1 < wr.heap.size := qcX hrg1 (by simp)
       have hb2 : b2 < wr.heap.size := qcX hrg2 (by simp)
       have HG1 := Lib.hid hrg1
       have HG2 := Lib.hid hrg2
       have hj0 : (0 : Int) <= (j : Int) := by omega
       have hj1 : (j : Int) < (xs.length : Int) := by omega
       clear hbr hrg1 hrg2 hec1 hec2 HA1r HA2r HIH
       go_upto_region 11 with fail
       refine qbR (SBw wr) (by kernel_rfl) (by kernel_rfl) ((Below.refl _ _).drew) ?_
       repeat (first
        | (refine qdM rfl 25 (.tmp 72) rfl b1 (o1 + j * 5) rfl [.int .i64 k1,.string nm1,.int .i64 n1,.slice la1 ll1 lc1,.slice ab1 al1 ac1] _ (fun w' hS => qeM HG1.out hS hb1) Tryz.underlying25 rfl exprSize ?_
           go_simp)
        | (refine qdM rfl 25 (.tmp 77) rfl b2 (o2 + j * 5) rfl [.int .i64 k2,.string nm2,.int .i64 n2,.slice la2 ll2 lc2,.slice ab2 al2 ac2] _ (fun w' hS => qeM HG2.out hS hb2) Tryz.underlying25 rfl exprSize ?_
           go_simp)
        | (apply qbK rfl
           . intro W' hS
             obtain ⟨e0,e1⟩ := HFC.out W' hS
             go_simp
             try rfl
           go_simp)
        | (apply qcE rfl
           . intro W' hS
             go_simp
             exact ⟨rfl,rfl⟩
           . intro W' hS
             exact (HC.out W' hS).mono (by rintro e w' ⟨rfl,hbw⟩;exact ⟨rfl,Below.trans hS (hbw.mono (Below.size hS))⟩)
           go_simp))
       refine qbD ?_
       intro w5 hS5
       have HB5 := Lib.hid (HBR.out.trans (Below.mono hS5 HBR.out.size))
       clear hS5
       go_wp2_with fail
       go_roundg (xs.length - (j + 1))
       case measure => omega
       case rel => exact ⟨j + 1,by omega,by simp,HB5.out⟩
     . clear hbr
       go_wp2_with fail
       go_ret
       exact ⟨rfl,HB1.out.trans (HBR.out.mono HB1.out.size)⟩
theorem qcF {P : Program} {fn : Func} {p : Tmp} {ty : TypeId} (h : fn.results = #[.cell p ty]) (tmps : Array Value) (w : World) (g : Nat) (t : TypeId) (cs : Array Value) (fr : Nat × Nat) (d : TypeDesc)
 (hp : tmps.getD p undef = .pointer (some ⟨g,0,none⟩)) (hg : w.heap[g]? = some (.cells cs t fr))
 (hu : P.underlying ty = some d) (hd : (match d with | .struct _ | .array _ _ => true | _ => false) = true) (hi : (P.info? ty).map (·.size) = some cs.size) :
 (results fn tmps).run P w = .ok (.agg cs) w := by
 have hp' : tmps[p]?.getD undef = .pointer (some ⟨g,0,none⟩) := by simpa using hp
 simp [results,h,hp',asAddr,run_loadVar_row w g t ty cs fr d hg hu hd hi]
theorem qeG {P : Program} {o : Oper} {a : Act} {w : World} (t e : TypeId) (len : Nat) (parts : Array (Nat × Operand)) (ho : o.op = .buildSlice t len parts)
 (cells : Array Value) (ie : TypeInfo) (z : Value)
 (hu : P.underlying t = some (.slice e)) (hie : P.info? e = some ie) (hz : ie.zero = some z) (hsmall : ¬ len * ie.size > 2 ^ 24) (hpos : ¬ len * ie.size = 0)
 (hf : Instr.fill (fun i => some (i * ie.size,ie.size)) ((Array.range (len * ie.size)).map (z.cells[· % z.cells.size]!)) (parts.map fun (i,x) => (i,a.eval x)).toList = some cells) :
 (execOp a.eval o).run P w = .ok (.value (.slice (some ⟨w.heap.size,0,none⟩) len len)) (w.alloc (.cells cells e)) := by
 unfold execOp
 simp only [ho,Sem.run_bind,run_buildSlice w t e len _ cells ie z hu hie hz hsmall hpos hf,Result.andThen_ok,Sem.run_pure]
theorem infoExprE : (Tryz.prog.info? 25).map (fun i => (i.zero,i.size,i.bytes)) = some (some (.agg #[.int .i64 0,.string ⟨#[]⟩,.int .i64 0,.slice none 0 0,.slice none 0 0]),5,80) := by kernel_rfl
end Go.Proofs.YtaddcadapbpkfaaGreatDoor
namespace Go.Proofs.YtaddcadapbpkfaaGreatDoor
open Go.RowKit Pln Go.MapKept
mutual
def repE (f : List UInt8 -> Option E) : E -> E
 | .mk k nm n ls xs => if k = 4 /\ (f nm).isSome = true then (f nm).getD (.mk k nm n ls []) else .mk k nm n ls (repL f xs)
def repL (f : List UInt8 -> Option E) : List E -> List E
 | [] => []
 | x :: r => repE f x :: repL f r
end
theorem repL_len (f : List UInt8 -> Option E) : ∀ xs,(repL f xs).length = xs.length
 | [] => rfl
 | x :: r => by unfold repL;rw [List.length_cons,List.length_cons,repL_len f r]
theorem repL_map (f : List UInt8 -> Option E) : ∀ xs,repL f xs = xs.map (repE f)
 | [] => rfl
 | x :: r => by unfold repL;rw [List.map_cons,repL_map f r]
theorem repE_none : ∀ x,repE (fun _ => none) x = x := by
 refine qaT ?_
 intro k nm n ls xs ih
 unfold repE
 rw [if_neg (by simp),repL_map,List.map_congr_left (g := id) (fun a ha => ih a ha),List.map_id]
def MapE (w : World) (F : Nat -> Prop) (m : Option Nat) (f : List UInt8 -> Option E) : Prop :=
 ∃ M,(match m with | none => M = [] | some b => F b /\ MapL w b M) /\ ∀ nm,match f nm with | none => lookL M ⟨nm.toArray⟩ = none | some y => ∃ cs,lookL M ⟨nm.toArray⟩ = some (.agg cs.toArray) /\ ExprC w F y cs
theorem MapE.keep {w w' : World} {F F' : Nat -> Prop} {m : Option Nat} {f : List UInt8 -> Option E} (h : MapE w F m f) (hF : ∀ b,F b -> b < w.heap.size -> F' b /\ w'.heap[b]? = w.heap[b]?) : MapE w' F' m f := by
 obtain ⟨M,h1,h2⟩ := h
 refine ⟨M,?_,fun nm => ?_⟩
 . cases m with
   | none => exact h1
   | some b =>
     obtain ⟨h3,h4⟩ := h1
     obtain ⟨h5,h6⟩ := hF b h3 h4.lt
     exact ⟨h5,h4.keep h6⟩
 . have := h2 nm
   revert this
   cases f nm with
   | none => exact id
   | some y => exact fun ⟨cs,h3,h4⟩ => ⟨cs,h3,ExprC.mono hF _ _ h4⟩
theorem MapE.none_ (w : World) (F : Nat -> Prop) : MapE w F none fun _ => none := ⟨[],rfl,fun _ => rfl⟩
theorem zero_expr (W : World) : (zeroValue 25).run Tryz.prog W = .ok (.agg #[.int .i64 0,.string ⟨#[]⟩,.int .i64 0,.slice none 0 0,.slice none 0 0]) W := by
 obtain ⟨i0,hi,hz0,hz1,hz2⟩ := info_parts infoExprE
 unfold zeroValue typeInfo
 simp [hi,hz0,Result.andThen]
section
variable {P : Program} {w : World} {b : Nat} {M : List (ByteArray × Value)} {t kt et : TypeId}
theorem MapL.lookup2 (h : MapL w b M) (hm : P.underlying t = some (.map kt et)) (hk : P.underlying kt = some .string) (k : ByteArray) (z : Value) (hz : (zeroValue et).run P w = .ok z w) :
 (Instr.lookup t (.map (some b)) (.string k) true).run P w = .ok (.tuple #[(lookL M k).getD z,.bool (lookL M k).isSome]) w := by
 obtain ⟨es,clock,hb,hs,he⟩ := h
 have hn := mapL_nodup hs he
 rcases mapL_find he k with ⟨h1,h2⟩ | ⟨j,e,h1,h2,h3,h4⟩
 . simp [Instr.lookup,run_underlying hm,Go.MapKept.run_getObj_map hb,run_checkKey hk (show IsKey .string (.string k) from trivial),run_findKey hk h1,hz,Result.andThen,h2]
 . have : lookL M k = some e.val := by
    have hm2 : (e.key,e.val) ∈ M.map fun kv => (Value.string kv.1,kv.2) := by
     rw [<- he]
     exact List.mem_map.2 ⟨e,List.mem_of_getElem? h2,rfl⟩
    obtain ⟨kv,hkv,e'⟩ := List.mem_map.1 hm2
    injection e' with e1 e2
    rw [h3] at e1
    injection e1 with e1
    rw [<- e1,lookL_mem hn hkv,e2]
   simp [Instr.lookup,run_underlying hm,Go.MapKept.run_getObj_map hb,run_checkKey hk (show IsKey .string (.string k) from trivial),run_findKey hk h1,Result.andThen,this]
theorem lookup2_nil (hm : P.underlying t = some (.map kt et)) (hk : P.underlying kt = some .string) (k : ByteArray) (z : Value) (hz : (zeroValue et).run P w = .ok z w) :
 (Instr.lookup t (.map none) (.string k) true).run P w = .ok (.tuple #[z,.bool false]) w := by
 simp [Instr.lookup,run_underlying hm,run_checkKey hk (show IsKey .string (.string k) from trivial),Instr.findKey,Instr.findNow,run_underlying hk,hz,Result.andThen]
theorem qdL {ops : Array Oper} {rest : List Oper} {o : Oper} {a : Act} {Q : Exit -> Act -> World -> Prop} (hgd : o.guard = none) (t : TypeId) (m k : Operand) (ho : o.op = .lookup t m k true) (vm vk v : Value) (e1 : a.eval m = vm) (e2 : a.eval k = vk)
 (hr : (Instr.lookup t vm vk true).run P w = .ok v w) (h : wpList P ops Q rest (a.put o.dst v) w) : wpList P ops Q (o :: rest) a w :=
 wpList_plain hgd fun _ hK => by
  unfold Oper.wp execOp
  simp only [ho,e1,e2,Sem.run_bind,Sem.run_pure,hr,Result.andThen_ok]
  exact hK _ _ h
end
theorem MapE.look {w : World} {F : Nat -> Prop} {m : Option Nat} {f : List UInt8 -> Option E} (h : MapE w F m f) (nm : List UInt8) :
 ∃ k' nm' n' la ll lc aa al ac,(Instr.lookup 63 (.map m) (.string ⟨nm.toArray⟩) true).run Tryz.prog w = .ok (.tuple #[.agg #[.int .i64 k',.string nm',.int .i64 n',.slice la ll lc,.slice aa al ac],.bool (f nm).isSome]) w /\
  ∀ y,f nm = some y -> ExprC w F y [.int .i64 k',.string nm',.int .i64 n',.slice la ll lc,.slice aa al ac] := by
 obtain ⟨M,h1,h2⟩ := h
 have h3 := h2 nm
 have hl : (Instr.lookup 63 (.map m) (.string ⟨nm.toArray⟩) true).run Tryz.prog w = .ok (.tuple #[(lookL M ⟨nm.toArray⟩).getD (.agg #[.int .i64 0,.string ⟨#[]⟩,.int .i64 0,.slice none 0 0,.slice none 0 0]),.bool (lookL M ⟨nm.toArray⟩).isSome]) w := by
  cases m with
  | none =>
    subst h1
    exact lookup2_nil Tryz.underlying63 Tryz.underlying9 _ _ (zero_expr w)
  | some b => exact h1.2.lookup2 Tryz.underlying63 Tryz.underlying9 _ _ (zero_expr w)
 cases hf : f nm with
 | none =>
   rw [hf] at h3
   rw [h3] at hl
   exact ⟨_,_,_,_,_,_,_,_,_,hl,fun y hy => by cases hy⟩
 | some y =>
   rw [hf] at h3
   obtain ⟨cs,h4,h5⟩ := h3
   rw [h4] at hl
   obtain ⟨k',nm',n',la,ll,lc,aa,al,ac,rfl⟩ := h5.shape
   refine ⟨_,_,_,_,_,_,_,_,_,hl,fun y' hy => ?_⟩
   injection hy with hy
   subst hy
   exact h5
theorem sizeL_many : ∀ xs : List E,xs.length <= sizeL xs
 | [] => Nat.zero_le _
 | x :: r => by
   unfold sizeL
   have h1 := sizeL_many r
   have h2 : 1 <= sizeE x := by cases x;unfold sizeE;omega
   rw [List.length_cons]
   omega
def OkE (x : E) : Prop := bndE x /\ sizeE x <= 1000000
theorem OkE.arg {k : Int} {nm : List UInt8} {n : Int} {ls : List Int} {xs : List E} (h : OkE (.mk k nm n ls xs)) {x : E} (hx : x ∈ xs) : OkE x := by
 obtain ⟨h1,h2⟩ := h
 unfold bndE at h1
 unfold sizeE at h2
 have := qbW _ _ hx
 exact ⟨bndL_mem _ _ h1.2.2 hx,by omega⟩
theorem OkE.lens {k : Int} {nm : List UInt8} {n : Int} {ls : List Int} {xs : List E} (h : OkE (.mk k nm n ls xs)) : ls.length <= 1000000 /\ xs.length <= 1000000 := by
 obtain ⟨h1,h2⟩ := h
 unfold bndE at h1
 unfold sizeE at h2
 have := sizeL_many xs
 exact ⟨by omega,by omega⟩
end Go.Proofs.YtaddcadapbpkfaaGreatDoor
