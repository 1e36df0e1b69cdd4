/-
 Small laws of the walk that the library lacks: a whole struct stored into the block that was made last; byte strings; worlds. Contracts of strings.Builder's methods (copyCheck, WriteString, Len, WriteByte) over this seat's translation, turned from the shelf's own worked proofs (the shelf's table does not fit this copyCheck: its last branch is refused by the loader here). DERIVED: THE SHELF's CONTRACTS AT THIS DUMP, IN PLAIN WORDS (tools/lay-plain.mjs out of 'TryzShelf.lean', which tools/lay-shelf.mjs wrote): THE SAME DECLARATIONS UNDER THE SAME NAMES: 'import', 'namespace', 'open', 'def', 'theorem' AND NOTHING ELSE: no command of the shelf's: FOR A HAND-IN. Each laying: the table of numbers ('.._ren') and one theorem, a field a fact of the dump's own or the kernel's comparison; each contract: ONE APPLICATION. What stands in a world stands in every world that has only grown since: builders, tables; and strconv.Itoa's contract with that frame. What every card of this seat needs: the row's last step, the tables, the world that lays them.
-/
import Derived.WalkKit
import Derived.Deep.MidRow
import Derived.Deep.WholeRow
import Derived.Deep.Draws
import Derived.Below
import Derived.Test.YtaddcadapbpkfaaGreatDoorProg
import Derived.Shelf.Strings.BuilderX
import Derived.Lib.Strings
import Derived.Lib.Slices
import Derived.Lib.Walk
import Derived.Lib.Builder
import Derived.Lib.AppendStr
import Derived.Lib.UnsafeStr
import Derived.Lib.MakeNoZero
import Derived.Lib.OthersKept
import Derived.Laws.Externs
import Derived.Laws.IdiomCopy
import Derived.Laws.BitsLemmas
import Derived.KernelRfl
import Derived.Shelf.Strings.Builder1
import Derived.Shelf.Strings.BuilderF
import Derived.Shelf.Strings.BuilderK
import Derived.Shelf.Strconv.Itoa0
import Derived.Shelf.Strconv.Itoa1
import Derived.Shelf.LaysM
import Derived.Shelf.Strconv.Itoa2
import Derived.Shelf.Strconv.Itoa3
import Derived.Shelf.Bits.Mul64
import Derived.Lib.LaidTab
import Derived.Lib.ItoaMem
import Derived.Lib.ItoaLen
import Derived.Sort.Grow
import Derived.Test.YtaddcadapbpkfaaGreatDoorCards
import Derived.Test.YtaddcadapbpkfaaGreatDoorTie
import Derived.ProofKit
import Derived.OpenShut
import Derived.Deep.DeepHandedRow
namespace Go.Proofs.YtaddcadapbpkfaaGreatDoor
open Go.RowKit
section
variable {P : Program}
theorem qaC {ops : Array Oper} {rest : List Oper} {o : Oper} {a : Act} {Q : Exit -> Act -> World -> Prop} (hgd : o.guard = none) (ty : TypeId) (x y : Operand) (ho : o.op = .store ty x y)
 (w : World) (c c' : Array Value) (hx : a.eval x = .pointer (some ⟨w.heap.size,0,none⟩)) (hy : a.eval y = .agg c')
 (hi : (P.info? ty).map (·.size) = some c'.size) (hs : c.size = c'.size) (h1 : c'.all (·.oneCell') = true)
 (h : wpList P ops Q rest (a.put o.dst undef) (w.alloc (.cells c' ty))) : wpList P ops Q (o :: rest) a (w.alloc (.cells c ty)) :=
 wpList_plain hgd fun _ hK => by
  unfold Oper.wp execOp
  simp only [ho,hx,hy,Sem.run_bind,run_storeAt_new w ty c c' hi hs h1,Result.andThen_ok,Sem.run_pure]
  exact hK _ _ h
end
theorem qbV (l m : List UInt8) : (⟨l.toArray⟩ : ByteArray) ++ ⟨m.toArray⟩ = ⟨(l ++ m).toArray⟩ := by
 apply ByteArray.ext
 simp
theorem ret_str {a b : ByteArray} (h : a = b) : Ending.returned (.string a) = .returned (.string b) := by rw [h]
theorem qaM {k : IntKind} {a b : Int} (h : a = b) : Ending.returned (.int k a) = .returned (.int k b) := by rw [h]
theorem qaG {a b : Bool} (h : a = b) : Ending.returned (.bool a) = .returned (.bool b) := by rw [h]
theorem qaK {B : Nat} {a w : World} (h : Below B a w) (n : Nat) : Below B a (w.drewN n) := ⟨h.os,h.tape,h.output,h.size,h.block⟩
theorem qaD {B : Nat} {a w : World} (h : Below B a w) {g : Nat} (hg : B <= g) (cs : Array Value) : Below B a (w.setRow g cs) :=
 h.trans ⟨rfl,rfl,rfl,by simp,fun k hk => setRow_other w g k cs (by omega)⟩
end Go.Proofs.YtaddcadapbpkfaaGreatDoor
namespace Go.Proofs.YtaddcadapbpkfaaGreatDoor
open Go.RowKit
theorem sizeBuilder : (Tryz.prog.info? 81).map (·.size) = some 2 := by kernel_rfl
theorem liesBuilder : liesAt Tryz.prog Tryz.prog.depth 81 (2 / Tryz.prog.cellsOf 81) 0 81 1 = true := by kernel_rfl
theorem infoByte : (Tryz.prog.info? 5).map (fun i => (i.zero,i.size,i.bytes)) = some (some (.int .u8 0),1,1) := by kernel_rfl
set_option maxHeartbeats 1000000 in
set_option maxRecDepth 100000 in
theorem copyCheck_used (b : Nat) (w : World) (h0 : w.cell? ⟨b,0,none⟩ = some (.pointer (some ⟨b,0,none⟩))) :
 Calls Tryz.prog 177 #[.pointer (some ⟨b,0,none⟩)] w fun e w' => e = .returned (.tuple #[]) /\ w' = w := by
 obtain ⟨j,hj,_⟩ := Option.map_eq_some_iff.1 sizeBuilder
 go_enter Tryz.func177,Tryz.ntmps177
 go_wp2
 rw [Lib.run_neq_ptr_same w _ Tryz.underlying78 hj]
 go_wp2
 go_end0
 exact ⟨rfl,rfl⟩
set_option maxHeartbeats 1000000 in
set_option maxRecDepth 100000 in
theorem copyCheck_fresh (b : Nat) (w : World) (h0 : w.cell? ⟨b,0,none⟩ = some (.pointer none)) (hsh : w.shape? b = some (81,2)) (hfz : w.frozen? ⟨b,0,none⟩ = false) :
 Calls Tryz.prog 177 #[.pointer (some ⟨b,0,none⟩)] w fun e w' => e = .returned (.tuple #[]) /\ w' = w.setCell ⟨b,0,none⟩ (.pointer (some ⟨b,0,none⟩)) := by
 obtain ⟨j,hj,hjs⟩ := Option.map_eq_some_iff.1 sizeBuilder
 go_enter Tryz.func177,Tryz.ntmps177
 go_wp2
 rw [Lib.run_to_unsafe w ⟨b,0,none⟩ Tryz.underlying78 Tryz.underlying247 hj (by rw [hjs];decide) hsh (Nat.zero_lt_succ 1)]
 simp only [Result.andThen]
 rw [Oper.upon_value]
 go_wp2
 rw [run_callFunc_extern Tryz.func251 (by kernel_rfl) (by kernel_rfl) (by kernel_rfl) (e := Extern.AbiNoEscape.same) (by kernel_rfl)]
 rw [Lib.run_noEscape]
 simp only [Result.andThen]
 rw [Oper.upon_value]
 go_wp2
 rw [Lib.run_from_unsafe w ⟨b,0,none⟩ Tryz.underlying247 Tryz.underlying78 hj hsh liesBuilder]
 simp only [Result.andThen]
 rw [Oper.upon_value]
 go_wp2
 go_end0
 exact ⟨rfl,rfl⟩
theorem copyCheck_any (B b : Nat) (bs : List Value) (w : World) (h : Lib.IsBuilderF 81 5 B b bs w) :
 Calls Tryz.prog 177 #[.pointer (some ⟨b,0,none⟩)] w fun e w' => e = .returned (.tuple #[]) /\ (Lib.BuilderAtF 81 5 B b (.pointer (some ⟨b,0,none⟩)) bs w' /\ Below B w w' /\ Lib.OthersKept 5 (some b) w w') := by
 rcases h with h | h
 . refine (copyCheck_fresh b w h.cell0 h.shape h.frozen0).mono ?_
   rintro e w' ⟨rfl,rfl⟩
   exact ⟨rfl,h.used _,(Below.refl B w).setCell (p := ⟨b,0,none⟩) h.1 _,(Lib.OthersKept.refl _ _ w).setCell ⟨b,0,none⟩ rfl _⟩
 . refine (copyCheck_used b w h.cell0).mono ?_
   rintro e w' ⟨rfl,rfl⟩
   exact ⟨rfl,h,Below.refl B _,Lib.OthersKept.refl _ _ _⟩
set_option maxHeartbeats 2000000 in
set_option maxRecDepth 100000 in
theorem writeString_any (B b : Nat) (bs : List Value) (s : ByteArray) (w : World) (h : Lib.IsBuilderF 81 5 B b bs w) (hlen : bs.length + s.size <= 140737488355328) (hBw : B <= w.heap.size) :
 Calls Tryz.prog 74 #[.pointer (some ⟨b,0,none⟩),.string s] w fun e w' => e = .returned (.tuple #[.int .i64 s.size,.nilIface]) /\ (Lib.BuilderAtF 81 5 B b (.pointer (some ⟨b,0,none⟩)) (bs ++ Lib.strCells s) w' /\ Below B w w' /\ Lib.OthersKept 5 (some b) w w') := by
 obtain ⟨i0,hi,hz0,hz1,hz2⟩ := info_parts infoByte
 go_enter Tryz.func74,Tryz.ntmps74
 go_wp2_with (go_at_call 177;refine (copyCheck_any B b bs _ h).mono ?_)
 rintro e w1 ⟨rfl,h1,hb1,hk1⟩
 obtain ⟨hB,v,hbk,hown,hne⟩ := h1
 have c0 : w1.cell? ⟨b,0,none⟩ = some (.pointer (some ⟨b,0,none⟩)) := by rw [Lib.cell_of_heap hbk];rfl
 have c1 : w1.cell? ⟨b,1,none⟩ = some v := by rw [Lib.cell_of_heap hbk];rfl
 go_wp2_with (at_builtin;refine Lib.wpList_append_own_stringF _ rfl _ _ 79 9 rfl B 5 i0 Tryz.underlying79 Tryz.underlying9 hi hz0 hz1 hz2 _ _ _ rfl hown s rfl ?c3 ?c4 ?c5 ?_)
 case c3 => unfold maxLen;omega
 case c4 => omega
 case c5 => have := hb1.size;omega
 intro v' w2 hown' hgrow _
 have hlt : b < w1.heap.size := by
  rcases Nat.lt_or_ge b w1.heap.size with h' | h'
  . exact h'
  . simp [Array.getElem?_eq_none h'] at hbk
 have hb2 : w2.heap[b]? = some (.cells #[.pointer (some ⟨b,0,none⟩),v] 81 (0,0)) := by
  rw [hgrow.block b hlt (fun e => hne e.symm)]
  exact hbk
 have d0 : w2.cell? ⟨b,0,none⟩ = some (.pointer (some ⟨b,0,none⟩)) := by rw [Lib.cell_of_heap hb2];rfl
 have d1 : w2.cell? ⟨b,1,none⟩ = some v := by rw [Lib.cell_of_heap hb2];rfl
 have f1 : w2.frozen? ⟨b,1,none⟩ = false := Lib.frozen_of_heap hb2 1
 obtain ⟨ao,n',cap,rfl⟩ : ∃ ao n' cap,v' = .slice ao n' cap := by
  rcases hown'.2 with ⟨hv,_⟩ | ⟨g,cap,cur,fz,hv,_⟩
  . exact ⟨_,_,_,hv⟩
  . exact ⟨_,_,_,hv⟩
 go_wp2
 go_ret2
 refine ⟨rfl,?_,?_,(hk1.grown hgrow (Lib.ownsRowF_kind hown)).setCell ⟨b,1,none⟩ rfl _⟩
 . exact Lib.BuilderAtF.put (T := 81) (e := 5) hB hb2 (bs' := bs ++ Lib.strCells s) (by simpa [Lib.strCells_length] using hown') (by decide)
 . exact (hb1.grown hgrow (by have := hb1.size;omega) (fun k hk => (hown.lt k hk).1)).setCell (p := ⟨b,1,none⟩) hB _
end Go.Proofs.YtaddcadapbpkfaaGreatDoor
namespace Go.Proofs
open Go.Shelf
def Tryz.lays170_ren : Go.Shelf.Ren := ⟨fun | 170 => 41 | n => n,fun | 70 => 78 | 3 => 3 | 0 => 0 | 72 => 81 | 37 => 79 | 5 => 5 | n => n,fun | n => n⟩
theorem Tryz.lays170 : Go.Proofs.Lays.n170 Tryz.prog Tryz.lays170_ren := {
 mixed := by kernel_rfl
 f170 := Tryz.func41.trans (congrArg some (by kernel_rfl))
 t0 := Tryz.underlying0
 a0 := Tryz.isAgg0
 z0 := Tryz.sizeOf0
 v0 := Tryz.zeroValue0
 t3 := Tryz.underlying3
 a3 := Tryz.isAgg3
 z3 := Tryz.sizeOf3
 v3 := Tryz.zeroValue3
 t37 := Tryz.underlying79
 a37 := Tryz.isAgg79
 z37 := Tryz.sizeOf79
 v37 := Tryz.zeroValue79
 t70 := Tryz.underlying78
 a70 := Tryz.isAgg78
 z70 := Tryz.sizeOf78
 v70 := Tryz.zeroValue78
 t72 := Tryz.underlying81
 a72 := Tryz.isAgg81
 z72 := Tryz.sizeOf81
 v72 := Tryz.zeroValue81 }
open Go.RowKit in
theorem Tryz.Builder_Len_f (B b : Nat) (bs : List Value) (w : World) (h : Lib.IsBuilderF 81 5 B b bs w) :
 Calls Tryz.prog 41 #[.pointer (some ⟨b,0,none⟩)] w fun e w' => e = .returned (.int .i64 bs.length) /\ w' = w := Any.Builder_Len_f Tryz.lays170 B b bs w h
def Tryz.laysM171_ren : Go.Shelf.Ren := ⟨fun | 171 => 75 | 243 => 178 | 246 => 252 | 283 => 298 | 284 => 299 | 285 => 300 | 286 => 301 | 129 => 325 | 317 => 324 | 318 => 326 | 319 => 327 | 320 => 328 | 337 => 344 | 338 => 345 | n => n,fun | 3 => 3 | 9 => 9 | 2 => 2 | 4 => 4 | 171 => 291 | 0 => 0 | 53 => 274 | 37 => 79 | 5 => 5 | 173 => 294 | 212 => 312 | 51 => 271 | 20 => 20 | 213 => 313 | 46 => 138 | 232 => 328 | 233 => 329 | n => n,fun | 17 => 0 | 18 => 1 | 19 => 2 | n => n⟩
theorem Tryz.laysM171 : Go.Proofs.LaysM.n171 Tryz.prog Tryz.laysM171_ren := {
 mixed := by kernel_rfl
 f129 := Tryz.func325.trans (congrArg some (by kernel_rfl))
 f171 := Tryz.func75.trans (congrArg some (by kernel_rfl))
 f243 := Tryz.func178.trans (congrArg some (by kernel_rfl))
 f246 := Tryz.func252.trans (congrArg some (by kernel_rfl))
 f283 := Tryz.func298.trans (congrArg some (by kernel_rfl))
 f284 := Tryz.func299.trans (congrArg some (by kernel_rfl))
 f285 := Tryz.func300.trans (congrArg some (by kernel_rfl))
 f286 := Tryz.func301.trans (congrArg some (by kernel_rfl))
 f317 := Tryz.func324.trans (congrArg some (by kernel_rfl))
 f318 := Tryz.func326.trans (congrArg some (by kernel_rfl))
 f319 := Tryz.func327.trans (congrArg some (by kernel_rfl))
 f320 := Tryz.func328.trans (congrArg some (by kernel_rfl))
 f337 := Tryz.func344.trans (congrArg some (by kernel_rfl))
 f338 := Tryz.func345.trans (congrArg some (by kernel_rfl))
 t0 := Tryz.underlying0
 a0 := Tryz.isAgg0
 z0 := Tryz.sizeOf0
 v0 := Tryz.zeroValue0
 t2 := Tryz.underlying2
 a2 := Tryz.isAgg2
 z2 := Tryz.sizeOf2
 v2 := Tryz.zeroValue2
 t3 := Tryz.underlying3
 a3 := Tryz.isAgg3
 z3 := Tryz.sizeOf3
 v3 := Tryz.zeroValue3
 t4 := Tryz.underlying4
 a4 := Tryz.isAgg4
 z4 := Tryz.sizeOf4
 v4 := Tryz.zeroValue4
 t5 := Tryz.underlying5
 a5 := Tryz.isAgg5
 z5 := Tryz.sizeOf5
 v5 := Tryz.zeroValue5
 t9 := Tryz.underlying9
 a9 := Tryz.isAgg9
 z9 := Tryz.sizeOf9
 v9 := Tryz.zeroValue9
 t20 := Tryz.underlying20
 a20 := Tryz.isAgg20
 z20 := Tryz.sizeOf20
 v20 := Tryz.zeroValue20
 t37 := Tryz.underlying79
 a37 := Tryz.isAgg79
 z37 := Tryz.sizeOf79
 v37 := Tryz.zeroValue79
 t46 := Tryz.underlying138
 a46 := Tryz.isAgg138
 z46 := Tryz.sizeOf138
 v46 := Tryz.zeroValue138
 t51 := Tryz.underlying271
 a51 := Tryz.isAgg271
 z51 := Tryz.sizeOf271
 v51 := Tryz.zeroValue271
 t53 := Tryz.underlying274
 a53 := Tryz.isAgg274
 z53 := Tryz.sizeOf274
 v53 := Tryz.zeroValue274
 t171 := Tryz.underlying291
 a171 := Tryz.isAgg291
 z171 := Tryz.sizeOf291
 v171 := Tryz.zeroValue291
 t173 := Tryz.underlying294
 a173 := Tryz.isAgg294
 z173 := Tryz.sizeOf294
 v173 := Tryz.zeroValue294
 t212 := Tryz.underlying312
 a212 := Tryz.isAgg312
 z212 := Tryz.sizeOf312
 v212 := Tryz.zeroValue312
 t213 := Tryz.underlying313
 a213 := Tryz.isAgg313
 z213 := Tryz.sizeOf313
 t232 := Tryz.underlying328
 a232 := Tryz.isAgg328
 z232 := Tryz.sizeOf328
 v232 := Tryz.zeroValue328
 t233 := Tryz.underlying329
 a233 := Tryz.isAgg329
 z233 := Tryz.sizeOf329
 v233 := Tryz.zeroValue329
 g17 := by kernel_rfl
 g18 := by kernel_rfl
 g19 := by kernel_rfl
 i0 := by kernel_rfl
 i2 := by kernel_rfl
 i3 := by kernel_rfl
 i4 := by kernel_rfl
 i5 := by kernel_rfl
 i9 := by kernel_rfl
 i20 := by kernel_rfl
 i37 := by kernel_rfl
 i46 := by kernel_rfl
 i51 := by kernel_rfl
 i53 := by kernel_rfl
 i171 := by kernel_rfl
 i173 := by kernel_rfl
 i212 := by kernel_rfl
 i232 := by kernel_rfl
 i233 := by kernel_rfl
 m17 := by kernel_rfl
 m18 := by kernel_rfl
 m19 := by kernel_rfl }
open Go.RowKit Go.Sort Go.Lib in
theorem Tryz.strconv_Itoa (n : Int) (h0 : -9223372036854775808 <= n) (h1 : n <= 9223372036854775807) (w : World) (htab : Lib.TabIs Tryz.prog w "internal/strconv.uint64pow10" .u64 Lib.pow10Tab) :
 Calls Tryz.prog 75 #[.int .i64 n] w fun e w' => e = .returned (.string ⟨(Lib.itoa n).toArray⟩) /\ ∃ k os,w' = grow (w.drewN k) os := Any.strconv_Itoa Tryz.laysM171 n h0 h1 w htab
end Go.Proofs
namespace Go.Proofs.YtaddcadapbpkfaaGreatDoor
open Go.RowKit
theorem only_of_below {a w : World} (h : Below a.heap.size a w) (row : Option Nat) : a.grownBy w row := ⟨h.os,h.tape,h.output,h.size,fun i hi _ => h.block i hi⟩
theorem qfA {T e : TypeId} {B b : Nat} {p : Value} {bs : List Value} {w w' : World} (h : Lib.BuilderAtF T e B b p bs w) (hb : Below w.heap.size w w') : Lib.BuilderAtF T e B b p bs w' := by
 have hlt := h.lt
 obtain ⟨hB,v,hk,hown,hne⟩ := h
 refine ⟨hB,v,(hb.block b hlt).trans hk,hown.kept (only_of_below hb none) ?_,hne⟩
 cases hv : v.ownBlock <;> simp
theorem qfB {T e : TypeId} {B b : Nat} {bs : List Value} {w w' : World} (h : Lib.IsBuilderF T e B b bs w) (hb : Below w.heap.size w w') : Lib.IsBuilderF T e B b bs w' :=
 h.elim (fun x => .inl (qfA x hb)) (fun x => .inr (qfA x hb))
theorem isBuilder_lt {T e : TypeId} {B b : Nat} {bs : List Value} {w : World} (h : Lib.IsBuilderF T e B b bs w) : b < w.heap.size := h.elim (fun x => x.lt) (fun x => x.lt)
theorem isBuilder_fresh (T e : TypeId) (w : World) : Lib.IsBuilderF T e w.heap.size w.heap.size [] (w.alloc (.cells #[.pointer none,.slice none 0 0] T)) := Lib.IsBuilderF.of (Lib.fresh_isBuilder T e w)
def Pows (w : World) : Prop := Lib.TabIs Tryz.prog w "internal/strconv.uint64pow10" .u64 Lib.pow10Tab
theorem gPows : Tryz.prog.globalNamed "internal/strconv.uint64pow10" = some 0 := by kernel_rfl
theorem Pows.lt {w : World} (h : Pows w) : 0 < w.heap.size := by
 unfold Pows Lib.TabIs World.var? at h
 rw [gPows] at h
 rcases Nat.lt_or_ge 0 w.heap.size with h' | h'
 . exact h'
 . simp [Array.getElem?_eq_none h'] at h
theorem Pows.keep {w w' : World} {B : Nat} (h : Pows w) (hB : 0 < B) (hb : Below B w w') : Pows w' := by
 unfold Pows Lib.TabIs World.var? at h ⊢
 rw [gPows] at h ⊢
 simp only [Option.bind_some] at h ⊢
 rw [hb.block _ hB]
 exact h
theorem below_of_grow (w : World) (k : Nat) (os : Array Obj) : Below w.heap.size w (Sort.grow (w.drewN k) os) :=
 ⟨rfl,rfl,rfl,by simp [World.drewN],fun i hi => Sort.heap_grow_old (w.drewN k) os hi⟩
theorem itoa_c (n : Int) (w : World) (h0 : -9223372036854775808 <= n) (h1 : n <= 9223372036854775807) (ht : Pows w) :
 Calls Tryz.prog 75 #[.int .i64 n] w fun e w' => e = .returned (.string ⟨(Lib.itoa n).toArray⟩) /\ Below w.heap.size w w' :=
 (Tryz.strconv_Itoa n h0 h1 w ht).mono fun _ _ ⟨he,k,os,hw⟩ => ⟨he,by rw [hw];exact below_of_grow w k os⟩
end Go.Proofs.YtaddcadapbpkfaaGreatDoor
namespace Go.Proofs.YtaddcadapbpkfaaGreatDoor
open Go.ChangeShapes Go.WideShapes Go.ChangeAt Go.RowKit
section
variable {H : Type} {enc : TypeId × Value -> H} {P : Program}
theorem post_of_below {f : Func} {s : ChangeSpec} {apart fresh handsOn again : Bool} {W W' : World} {args : Array Value} {v : Value} {ds gs : List (DataW H)} {before pa pv : List MemPlace}
 (hW : DataW.Whole enc P f.params.toList s.vars apart W args.toList ds gs before)
 (hres : ∀ (b : Nat) (sp : Nat -> Bool) (hd : Bool),DataW.TrodAll enc P W' b sp hd f.resultTypes.toList (v.resultList f.resultTypes.size) (s.fn H (ds ++ gs)).results [])
 (hargs : ∀ sp : Nat -> Bool,(∀ p ∈ before,sp p.block = true) -> DataW.TrodAll enc P W' 0 sp true f.params.toList args.toList (s.fn H (ds ++ gs)).args pa)
 (hvars : ∀ sp : Nat -> Bool,(∀ p ∈ before,sp p.block = true) -> DataW.TrodVars enc P W' sp s.vars (s.fn H (ds ++ gs)).vars pv)
 (hps : before = pa ++ pv) (hb : Below W.heap.size W W')
 (hok : ∀ (j : Nat) (t : TypeId) (r : Value),f.resultTypes[j]? = some t -> (v.resultList f.resultTypes.size)[j]? = some r -> Value.okWide P W' .any 0 t r) :
 s.post enc P f apart fresh handsOn again W args v W' := by
 have hlt : ∀ p ∈ before,p.block < W.heap.size := fun p hp => hW.lt p hp
 have hold : ∀ p ∈ before,(fun b => decide (b < W.heap.size)) p.block = true := fun p hp => by simpa using hlt p hp
 refine ⟨ds,gs,before,[],pa,pv,hW,hres _ _ _,hargs _ hold,hvars _ hold,World.keptBut_mono (fun p hp => ⟨hp,?_⟩) (hb.frame (· ∈ before)),fun _ => ?_⟩
 . rw [hps,List.mem_append] at hp
   exact Or.inr hp
 . obtain ⟨_,_,_,_,_,hz,hn⟩ := hW
   refine ⟨hok,_,_,([] ++ pa) ++ pv,⟨[] ++ pa,pv,trodAll_append (hargs _ (fun _ _ => rfl)) (hres _ _ _),hvars _ (fun _ _ => rfl),rfl,?_,?_⟩,?_⟩
   . intro b off hp
     have hin : MemPlace.cell b off ∈ before := by rw [hps];simpa using hp
     rw [hb.frozen (hlt _ hin)]
     exact hz b off hin
   . intro ha
     have := hn ha
     rw [hps] at this
     simpa using this
   . intro p hp _
     rw [hps]
     simpa using hp
end
theorem own : ownKnob Tryz.prog.godebug = none := by kernel_rfl
theorem laidOut : laidOutB Tryz.prog = true := by kernel_rfl
theorem gPowsType : (Tryz.prog.globals[0]?).map (·.type) = some 312 := by kernel_rfl
theorem cellsU64 : Tryz.prog.cellsOf 274 = 1 := by kernel_rfl
theorem cellsTab : Tryz.prog.cellsOf 312 = 20 := by kernel_rfl
theorem laidPows : (Rows.laid_internal_strconv_uint64pow10 : DataW Unit) = Lib.tabData .u64 Lib.pow10Tab := by kernel_rfl
abbrev theLaid : List (String × DataW Unit) := [("math/bits.deBruijn32tab",Rows.laid_math_bits_deBruijn32tab),("math/bits.deBruijn64tab",Rows.laid_math_bits_deBruijn64tab),("internal/strconv.uint64pow10",Rows.laid_internal_strconv_uint64pow10)]
theorem pows_of {W : World} (h : laidMet Tryz.prog theLaid W) : Pows W := by
 have h1 : laidMet Tryz.prog [("internal/strconv.uint64pow10",Lib.tabData .u64 Lib.pow10Tab)] W := by
  have := laidMet.filter (fun x => x.1 == "internal/strconv.uint64pow10") h
  rw [<- laidPows]
  exact this
 exact Lib.tabIs_of_head (rest := []) gPows gPowsType Tryz.underlying312 Tryz.underlying274 cellsU64 cellsTab h1
def cellsOfDatum : DataW Unit -> Array Value
 | .agg ps => (ps.map fun | .lit (.int k n) => Value.int k n | .lit (.string l) => Value.string ⟨l.toArray⟩ | _ => Value.nilFunc).toArray
 | _ => #[]
def setVar (g : Nat) (d : DataW Unit) (w : World) : World :=
 { w with heap := w.heap.modify g fun
  | .cells _ t frozen => .cells (cellsOfDatum d) t frozen
  | o => o }
noncomputable def laidWorld (os : Os) : World :=
 setVar 0 Rows.laid_internal_strconv_uint64pow10 (setVar 1 Rows.laid_math_bits_deBruijn32tab (setVar 2 Rows.laid_math_bits_deBruijn64tab (World.holding Tryz.prog os ⟨#[],#[],[]⟩)))
end Go.Proofs.YtaddcadapbpkfaaGreatDoor
