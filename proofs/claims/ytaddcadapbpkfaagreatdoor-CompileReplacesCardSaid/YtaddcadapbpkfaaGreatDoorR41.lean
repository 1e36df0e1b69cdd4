/-
 The law: alive. The reference's field: Same.
-/
import Derived.Laws.IdiomRangeMap
import Derived.Test.YtaddcadapbpkfaaGreatDoorR40
namespace Go.Proofs.YtaddcadapbpkfaaGreatDoor
open Go.RowKit Pln
theorem qeO {P : Program} {o : Oper} {a : Act} {w : World} (t e : TypeId) (len : Nat) (parts : Array (Nat × Operand)) (ho : o.op = .buildSlice t len parts)
 (cells : Array Value) (ie : TypeInfo) (z : Value)
 (hu : P.underlying t = some (.slice e)) (hie : P.info? e = some ie) (hz : ie.zero = some z) (hsmall : ¬ len * ie.size > 2 ^ 24) (hpos : ¬ len * ie.size = 0)
 (hf : Instr.fill (fun i => some (i * ie.size,ie.size)) ((Array.range (len * ie.size)).map (z.cells[· % z.cells.size]!)) (parts.map fun (i,x) => (i,a.eval x)).toList = some cells) :
 (execOp a.eval o).run P w = .ok (.value (.slice (some ⟨w.heap.size,0,none⟩) len len)) (w.alloc (.cells cells e)) := by
 unfold execOp
 simp only [ho,Sem.run_bind,run_buildSlice w t e len _ cells ie z hu hie hz hsmall hpos hf,Result.andThen_ok,Sem.run_pure]
theorem exprs2F {w : World} {F : Nat -> Prop} {x y : E} {cs ds : List Value} (h : ExprC w F x cs) (k : ExprC w F y ds) : ExprsC (w.alloc (.cells (cs ++ ds).toArray 25)) F w.heap.size 0 [x,y] := by
 have hb := heap_alloc_new w (.cells (cs ++ ds).toArray 25)
 have hg := (Below.refl w.heap.size w).alloc (Nat.le_refl _) (.cells (cs ++ ds).toArray 25)
 have hl := h.len
 unfold ExprsC ExprsC ExprsC
 refine ⟨⟨cs,qdQ hb 0 cs fun j u hj => ?_,h.grow hg⟩,⟨ds,qdQ hb 5 ds fun j u hj => ?_,k.grow hg⟩,trivial⟩
 . rw [Nat.zero_add,List.getElem?_append_left (List.getElem?_eq_some_iff.1 hj).1]
   exact hj
 . have := app_at cs ds j u hj
   rw [hl] at this
   exact this
theorem exprC_callF {w : World} {F : Nat -> Prop} {nm : List UInt8} {b : Nat} {xs : List E} (h : ExprsC w F b 0 xs) (hb : F b) : ExprC w F (.mk 3 nm 0 [] xs) [.int .i64 3,.string ⟨nm.toArray⟩,.int .i64 0,.slice none 0 0,.slice (some ⟨b,0,none⟩) xs.length xs.length] := by
 unfold ExprC
 exact ⟨none,0,some ⟨b,0,none⟩,xs.length,rfl,fun h => absurd h (by decide),fun _ => ⟨b,0,rfl,hb,h⟩⟩
theorem exprC_list {w : World} {F : Nat -> Prop} {b : Nat} (h : w.heap[b]? = some (.cells #[.int .i64 0] 3 (0,0))) (hb : F b) : ExprC w F (.mk 2 [] 0 [0] []) [.int .i64 2,.string ⟨#[]⟩,.int .i64 0,.slice (some ⟨b,0,none⟩) 1 1,.slice none 0 0] := by
 unfold ExprC
 refine ⟨some ⟨b,0,none⟩,1,none,0,rfl,fun _ => ⟨b,0,rfl,hb,fun j hj => ?_⟩,fun h => absurd h (by decide)⟩
 obtain rfl : j = 0 := by simpa using hj
 exact cell_of_one h
set_option maxHeartbeats 8000000 in
set_option maxRecDepth 100000 in
theorem alive_c (w : World) (hp : Pows w) : Calls Tryz.prog 5 #[] w fun e w' => e = .returned (.bool true) /\ Below w.heap.size w w' := by
 obtain ⟨i0,hi,hz0,hz1,hz2⟩ := info_parts infoExpr
 have HI := Lib.hid hi
 have HZ0 := Lib.hid hz0
 have HZ1 := Lib.hid hz1
 obtain ⟨j0,hj,hy0,hy1,hy2⟩ := info_parts infoInt
 have HJ := Lib.hid hj
 have HY0 := Lib.hid hy0
 have HY1 := Lib.hid hy1
 clear hj hy0 hy1 hy2
 have HP := Lib.hid hp
 clear hi hz0 hz1 hz2 hp
 go_enter Tryz.func5,Tryz.ntmps5
 go_wp2_with fail
 refine (number_c 8 w).mono ?_
 rintro e w1 ⟨rfl,hb1⟩
 have HE1 : Hid (ExprsC (w1.alloc (.cells #[.int .i64 1,.string ⟨#[]⟩,.int .i64 8,.slice none 0 0,.slice none 0 0] 25)) Any w1.heap.size 0 [numE 8]) := exprs1 (exprC_num w1 8)
 have HB1 : Hid (Below w.heap.size w (w1.alloc (.cells #[.int .i64 1,.string ⟨#[]⟩,.int .i64 8,.slice none 0 0,.slice none 0 0] 25))) := hb1.alloc hb1.size _
 clear hb1
 go_wp2_with (refine wpList_buildSlice rfl 23 25 1 _ rfl #[.int .i64 1,.string ⟨#[]⟩,.int .i64 8,.slice none 0 0,.slice none 0 0] i0 _ Tryz.underlying23 HI.out HZ0.out (by rw [HZ1.out];decide) (by rw [HZ1.out];decide) (by rw [HZ1.out];rfl) ?_)
 generalize (w1.alloc (.cells #[.int .i64 1,.string ⟨#[]⟩,.int .i64 8,.slice none 0 0,.slice none 0 0] 25)) = W1 at *
 generalize w1.heap.size = bA at *
 refine (callE_c ⟨#[103,102]⟩ (some ⟨bA,0,none⟩) 1 1 W1).mono ?_
 rintro e w2 ⟨rfl,hb2⟩
 have HG2 : Hid (ExprC w2 Any gfE [.int .i64 3,.string ⟨#[103,102]⟩,.int .i64 0,.slice none 0 0,.slice (some ⟨bA,0,none⟩) 1 1]) := (exprC_call (nm := gfN) HE1.out).grow hb2
 have HB2 : Hid (Below w.heap.size w w2) := HB1.out.trans (hb2.mono HB1.out.size)
 clear hb2 HE1 HB1
 go_wp2_with fail
 refine (number_c 7 w2).mono ?_
 rintro e w3 ⟨rfl,hb3⟩
 have HG3 : Hid (ExprC w3 Any gfE [.int .i64 3,.string ⟨#[103,102]⟩,.int .i64 0,.slice none 0 0,.slice (some ⟨bA,0,none⟩) 1 1]) := HG2.out.grow hb3
 have HB3 : Hid (Below w.heap.size w w3) := HB2.out.trans (hb3.mono HB2.out.size)
 clear hb3 HG2 HB2
 go_wp2_with fail
 refine (number_c 3 w3).mono ?_
 rintro e w4 ⟨rfl,hb4⟩
 have HG4 : Hid (ExprC w4 Any gfE [.int .i64 3,.string ⟨#[103,102]⟩,.int .i64 0,.slice none 0 0,.slice (some ⟨bA,0,none⟩) 1 1]) := HG3.out.grow hb4
 have HB4 : Hid (Below w.heap.size w w4) := HB3.out.trans (hb4.mono HB3.out.size)
 have HE5 : Hid (ExprsC (w4.alloc (.cells #[.int .i64 3,.string ⟨#[103,102]⟩,.int .i64 0,.slice none 0 0,.slice (some ⟨bA,0,none⟩) 1 1,.int .i64 1,.string ⟨#[]⟩,.int .i64 7,.slice none 0 0,.slice none 0 0,.int .i64 1,.string ⟨#[]⟩,.int .i64 3,.slice none 0 0,.slice none 0 0] 25)) Any w4.heap.size 0 [gfE,numE 7,numE 3]) := exprs3 HG4.out (exprC_num w4 7) (exprC_num w4 3)
 have HB5 : Hid (Below w.heap.size w (w4.alloc (.cells #[.int .i64 3,.string ⟨#[103,102]⟩,.int .i64 0,.slice none 0 0,.slice (some ⟨bA,0,none⟩) 1 1,.int .i64 1,.string ⟨#[]⟩,.int .i64 7,.slice none 0 0,.slice none 0 0,.int .i64 1,.string ⟨#[]⟩,.int .i64 3,.slice none 0 0,.slice none 0 0] 25))) := HB4.out.alloc HB4.out.size _
 clear hb4 HG3 HB3 HG4 HB4
 go_wp2_with (refine wpList_buildSlice rfl 23 25 3 _ rfl #[.int .i64 3,.string ⟨#[103,102]⟩,.int .i64 0,.slice none 0 0,.slice (some ⟨bA,0,none⟩) 1 1,.int .i64 1,.string ⟨#[]⟩,.int .i64 7,.slice none 0 0,.slice none 0 0,.int .i64 1,.string ⟨#[]⟩,.int .i64 3,.slice none 0 0,.slice none 0 0] i0 _ Tryz.underlying23 HI.out HZ0.out (by rw [HZ1.out];decide) (by rw [HZ1.out];decide) (by rw [HZ1.out];rfl) ?_)
 generalize (w4.alloc (.cells #[.int .i64 3,.string ⟨#[103,102]⟩,.int .i64 0,.slice none 0 0,.slice (some ⟨bA,0,none⟩) 1 1,.int .i64 1,.string ⟨#[]⟩,.int .i64 7,.slice none 0 0,.slice none 0 0,.int .i64 1,.string ⟨#[]⟩,.int .i64 3,.slice none 0 0,.slice none 0 0] 25)) = W5 at *
 generalize w4.heap.size = bB at *
 refine (callE_c ⟨#[114,115]⟩ (some ⟨bB,0,none⟩) 3 3 W5).mono ?_
 rintro e w6 ⟨rfl,hb6⟩
 have HG6 : Hid (ExprC w6 Any rsE [.int .i64 3,.string ⟨#[114,115]⟩,.int .i64 0,.slice none 0 0,.slice (some ⟨bB,0,none⟩) 3 3]) := (exprC_call (nm := rsN) HE5.out).grow hb6
 have HB6 : Hid (Below w.heap.size w w6) := HB5.out.trans (hb6.mono HB5.out.size)
 have HG7 : Hid (ExprC (w6.alloc (.cells #[.int .i64 3,.string ⟨#[114,115]⟩,.int .i64 0,.slice none 0 0,.slice (some ⟨bB,0,none⟩) 3 3] 25)) Any rsE [.int .i64 3,.string ⟨#[114,115]⟩,.int .i64 0,.slice none 0 0,.slice (some ⟨bB,0,none⟩) 3 3]) := HG6.out.grow ((Below.refl _ _).alloc (Nat.le_refl _) _)
 have HB7 : Hid (Below w.heap.size w (w6.alloc (.cells #[.int .i64 3,.string ⟨#[114,115]⟩,.int .i64 0,.slice none 0 0,.slice (some ⟨bB,0,none⟩) 3 3] 25))) := HB6.out.alloc HB6.out.size _
 have HR7 : Hid ((w6.alloc (.cells #[.int .i64 3,.string ⟨#[114,115]⟩,.int .i64 0,.slice none 0 0,.slice (some ⟨bB,0,none⟩) 3 3] 25)).rangeAt w6.heap.size 0 [.int .i64 3,.string ⟨#[114,115]⟩,.int .i64 0,.slice none 0 0,.slice (some ⟨bB,0,none⟩) 3 3]) := qaB (heap_alloc_new _ _)
 have hl7 : w6.heap.size < (w6.alloc (.cells #[.int .i64 3,.string ⟨#[114,115]⟩,.int .i64 0,.slice none 0 0,.slice (some ⟨bB,0,none⟩) 3 3] 25)).heap.size := by simp
 clear hb6 HE5 HB5 HG6 HB6
 go_upto_region 2 with (refine qaC rfl 25 (.tmp 1) (.tmp 15) rfl w6 _ #[.int .i64 3,.string ⟨#[114,115]⟩,.int .i64 0,.slice none 0 0,.slice (some ⟨bB,0,none⟩) 3 3] rfl rfl exprSize rfl (by simp [Value.oneCell']) ?_)
 generalize (w6.alloc (.cells #[.int .i64 3,.string ⟨#[114,115]⟩,.int .i64 0,.slice none 0 0,.slice (some ⟨bB,0,none⟩) 3 3] 25)) = W7 at *
 generalize w6.heap.size = bR at *
 have HRX : Hid (∀ W,LSs W7 W -> W.rangeAt bR 0 [.int .i64 3,.string ⟨#[114,115]⟩,.int .i64 0,.slice none 0 0,.slice (some ⟨bB,0,none⟩) 3 3]) := fun W hW => qaJ HR7.out (Below.block hW _ hl7)
 have HS0 : Hid (LSs W7 W7.drew) := (Below.refl _ _).drew
 refine qbU 6 6 5 (LSs W7) [(0,0),(2,1),(2,2),(2,3),(2,4)] [] default _ (.cells #[.int .i64 0,.string ⟨#[]⟩,.int .i64 0,.slice none 0 0,.slice none 0 0] 25) (by kernel_rfl) (by kernel_rfl) (fun _ _ d _ _ h => by cases d <;> exact h) rfl rfl ?_ (fun W h => Below.alloc h (Below.size h) _) HS0.out ?_
 . intro a w
   unfold ptrTo
   go_simp
 simp only [List.map_cons,List.map_nil,List.getD_cons_zero,List.getD_cons_succ]
 refine qeT rfl 25 (.tmp 1) rfl bR 0 rfl [.int .i64 3,.string ⟨#[114,115]⟩,.int .i64 0,.slice none 0 0,.slice (some ⟨bB,0,none⟩) 3 3] _ HRX.out Tryz.underlying25 rfl exprSize ?_
 go_simp
 apply x_step rfl
 intro V1 hV1 hS1
 refine ⟨.slice (some ⟨V1.heap.size,0,none⟩) 1 1,V1.alloc (.cells #[.int .i64 0] 3),qeO 22 3 1 _ rfl #[.int .i64 0] j0 _ Tryz.underlying22 HJ.out HY0.out (by rw [HY1.out];decide) (by rw [HY1.out];decide) (by rw [HY1.out];kernel_rfl),Below.alloc hS1 (Below.size hS1) _,(Below.refl _ _).alloc (Nat.le_refl _) _,?_⟩
 go_simp
 have HC1 : Hid ((V1.alloc (.cells #[.int .i64 0] 3)).heap[V1.heap.size]? = some (.cells #[.int .i64 0] 3 (0,0))) := heap_alloc_new _ _
 have HT1 : Hid (LSs W7 (V1.alloc (.cells #[.int .i64 0] 3))) := Below.alloc hS1 (Below.size hS1) _
 have hz1 : (V1.alloc (.cells #[.int .i64 0] 3)).heap.size = V1.heap.size + 1 := by simp
 have hz7 : W7.heap.size <= V1.heap.size := Below.size hS1
 have HZ1' := Lib.hid hz1
 clear hV1 hS1 hz1
 generalize (V1.alloc (.cells #[.int .i64 0] 3)) = V2 at *
 generalize V1.heap.size = bC at *
 apply x_call rfl
 . intro W
   go_simp
   exact ⟨rfl,rfl⟩
 intro V3 hV3 hS3
 have hc3 : V3.heap[bC]? = some (.cells #[.int .i64 0] 3 (0,0)) := (hV3.block _ (by have := HZ1'.out;omega)).trans HC1.out
 have h23 := hV3.size
 with_reducible refine (list_c (some ⟨bC,0,none⟩) 1 1 V3).mono ?_
 rintro e V4 ⟨rfl,hb4⟩
 refine ⟨_,rfl,Below.trans hS3 (hb4.mono (Below.size hS3)),hb4,?_⟩
 go_simp
 have HC4 : Hid (V4.heap[bC]? = some (.cells #[.int .i64 0] 3 (0,0))) := (hb4.block _ (by have := HZ1'.out;omega)).trans hc3
 have HT4 : Hid (LSs W7 V4) := Below.trans hS3 (hb4.mono (Below.size hS3))
 have hz4 : bC < V4.heap.size := by have := hb4.size;have := HZ1'.out;omega
 clear hV3 hS3 hc3 hb4
 apply x_step rfl
 intro V5 hV5 hS5
 have hz5 : bC < V5.heap.size := by have := hV5.size;omega
 have hLE : ExprC V5 (fun k => k < W7.heap.size \/ k = bC \/ k = V5.heap.size) (.mk 2 [] 0 [0] []) [.int .i64 2,.string ⟨#[]⟩,.int .i64 0,.slice (some ⟨bC,0,none⟩) 1 1,.slice none 0 0] := exprC_list ((hV5.block _ hz4).trans HC4.out) (.inr (.inl rfl))
 have hRE : ExprC V5 (fun k => k < W7.heap.size \/ k = bC \/ k = V5.heap.size) rsE [.int .i64 3,.string ⟨#[114,115]⟩,.int .i64 0,.slice none 0 0,.slice (some ⟨bB,0,none⟩) 3 3] := ExprC.mono (fun b hb hlt => ⟨.inl hb,Below.block hS5 b hlt⟩) _ _ HG7.out.all
 have HED : Hid (ExprsC (V5.alloc (.cells #[.int .i64 3,.string ⟨#[114,115]⟩,.int .i64 0,.slice none 0 0,.slice (some ⟨bB,0,none⟩) 3 3,.int .i64 2,.string ⟨#[]⟩,.int .i64 0,.slice (some ⟨bC,0,none⟩) 1 1,.slice none 0 0] 25)) (fun k => k < W7.heap.size \/ k = bC \/ k = V5.heap.size) V5.heap.size 0 [rsE,.mk 2 [] 0 [0] []]) := exprs2F hRE hLE
 refine ⟨.slice (some ⟨V5.heap.size,0,none⟩) 2 2,V5.alloc (.cells #[.int .i64 3,.string ⟨#[114,115]⟩,.int .i64 0,.slice none 0 0,.slice (some ⟨bB,0,none⟩) 3 3,.int .i64 2,.string ⟨#[]⟩,.int .i64 0,.slice (some ⟨bC,0,none⟩) 1 1,.slice none 0 0] 25),qeO 23 25 2 _ rfl #[.int .i64 3,.string ⟨#[114,115]⟩,.int .i64 0,.slice none 0 0,.slice (some ⟨bB,0,none⟩) 3 3,.int .i64 2,.string ⟨#[]⟩,.int .i64 0,.slice (some ⟨bC,0,none⟩) 1 1,.slice none 0 0] i0 _ Tryz.underlying23 HI.out HZ0.out (by rw [HZ1.out];decide) (by rw [HZ1.out];decide) (by rw [HZ1.out];kernel_rfl),Below.alloc hS5 (Below.size hS5) _,(Below.refl _ _).alloc (Nat.le_refl _) _,?_⟩
 go_simp
 have HT6 : Hid (LSs W7 (V5.alloc (.cells #[.int .i64 3,.string ⟨#[114,115]⟩,.int .i64 0,.slice none 0 0,.slice (some ⟨bB,0,none⟩) 3 3,.int .i64 2,.string ⟨#[]⟩,.int .i64 0,.slice (some ⟨bC,0,none⟩) 1 1,.slice none 0 0] 25))) := Below.alloc hS5 (Below.size hS5) _
 have HZ6 : Hid ((V5.alloc (.cells #[.int .i64 3,.string ⟨#[114,115]⟩,.int .i64 0,.slice none 0 0,.slice (some ⟨bB,0,none⟩) 3 3,.int .i64 2,.string ⟨#[]⟩,.int .i64 0,.slice (some ⟨bC,0,none⟩) 1 1,.slice none 0 0] 25)).heap.size = V5.heap.size + 1) := by show _ = _;simp
 have hz75 : W7.heap.size <= V5.heap.size := Below.size hS5
 clear hV5 hS5 hLE hRE
 generalize (V5.alloc (.cells #[.int .i64 3,.string ⟨#[114,115]⟩,.int .i64 0,.slice none 0 0,.slice (some ⟨bB,0,none⟩) 3 3,.int .i64 2,.string ⟨#[]⟩,.int .i64 0,.slice (some ⟨bC,0,none⟩) 1 1,.slice none 0 0] 25)) = V6 at *
 generalize V5.heap.size = bD at *
 apply x_call rfl
 . intro W
   go_simp
   exact ⟨rfl,rfl⟩
 intro V7 hV7 hS7
 with_reducible refine (callE_c ⟨#[115,104,111,114,116,101,110]⟩ (some ⟨bD,0,none⟩) 2 2 V7).mono ?_
 rintro e V8 ⟨rfl,hb8⟩
 have hE8 : ExprC V8 (fun k => k < W7.heap.size \/ k = bC \/ k = bD) shE [.int .i64 3,.string ⟨#[115,104,111,114,116,101,110]⟩,.int .i64 0,.slice none 0 0,.slice (some ⟨bD,0,none⟩) 2 2] := ((exprC_callF (nm := shN) HED.out (.inr (.inr rfl))).grow hV7).grow hb8
 have HE8 := Lib.hid hE8
 refine ⟨_,rfl,Below.trans hS7 (hb8.mono (Below.size hS7)),hb8,?_⟩
 go_simp
 clear hE8
 refine x_nil ?_
 intro W8 b hW8 hS8 hlo hF hb
 have hF' : ¬ (((bC <= b /\ b < bC + 1 \/ V3.heap.size <= b /\ b < V4.heap.size) \/ bD <= b /\ b < bD + 1) \/ V7.heap.size <= b /\ b < V8.heap.size) := hF
 have hbC : b ≠ bC := fun e => hF' (.inl (.inl (.inl ⟨by omega,by omega⟩)))
 have hbD : b ≠ bD := fun e => hF' (.inl (.inr ⟨by omega,by omega⟩))
 have HBB := Lib.hid hb
 have HE9 : Hid (ExprC (W8.setRow b #[.int .i64 3,.string ⟨#[115,104,111,114,116,101,110]⟩,.int .i64 0,.slice none 0 0,.slice (some ⟨bD,0,none⟩) 2 2]) Any shE [.int .i64 3,.string ⟨#[115,104,111,114,116,101,110]⟩,.int .i64 0,.slice none 0 0,.slice (some ⟨bD,0,none⟩) 2 2]) := ExprC.mono (fun k hk hlt => ⟨trivial,(setRow_other _ _ _ _ (by rcases hk with h | h | h <;> omega)).trans (hW8.block k hlt)⟩) _ _ HE8.out
 have HB9 : Hid (Below w.heap.size w (W8.setRow b #[.int .i64 3,.string ⟨#[115,104,111,114,116,101,110]⟩,.int .i64 0,.slice none 0 0,.slice (some ⟨bD,0,none⟩) 2 2])) := qaD (HB7.out.trans (Below.mono hS8 HB7.out.size)) (by have := HB7.out.size;omega) _
 have HR9 : Hid ((W8.setRow b #[.int .i64 3,.string ⟨#[115,104,111,114,116,101,110]⟩,.int .i64 0,.slice none 0 0,.slice (some ⟨bD,0,none⟩) 2 2]).rangeAt b 0 [.int .i64 3,.string ⟨#[115,104,111,114,116,101,110]⟩,.int .i64 0,.slice none 0 0,.slice (some ⟨bD,0,none⟩) 2 2]) := qaB (qaF _ _ _ _ _ hb)
 have hl9 : b < (W8.setRow b #[.int .i64 3,.string ⟨#[115,104,111,114,116,101,110]⟩,.int .i64 0,.slice none 0 0,.slice (some ⟨bD,0,none⟩) 2 2]).heap.size := by have := (Array.getElem?_eq_some_iff.1 hb).1;simpa using this
 show wpList _ _ _ _ _ _
 go_simp
 clear hV7 hS7 hb8 HE8 hW8 hS8 hlo hF hF' hb HRX HS0 HED HT6 HT4 HC4 HT1 HC1 HR7 HG7
 go_wp2_with (first
  | (refine qaA rfl 25 (.tmp 2) (.tmp 20) rfl W8 b 25 #[.int .i64 0,.string ⟨#[]⟩,.int .i64 0,.slice none 0 0,.slice none 0 0] #[.int .i64 3,.string ⟨#[115,104,111,114,116,101,110]⟩,.int .i64 0,.slice none 0 0,.slice (some ⟨bD,0,none⟩) 2 2] rfl rfl HBB.out exprSize rfl (by simp [Value.oneCell']) ?_)
  | (refine wpList_load_mid rfl 25 (.tmp 2) rfl b 0 rfl [.int .i64 3,.string ⟨#[115,104,111,114,116,101,110]⟩,.int .i64 0,.slice none 0 0,.slice (some ⟨bD,0,none⟩) 2 2] _ HR9.out Tryz.underlying25 rfl exprSize ?_))
 generalize (W8.setRow b #[.int .i64 3,.string ⟨#[115,104,111,114,116,101,110]⟩,.int .i64 0,.slice none 0 0,.slice (some ⟨bD,0,none⟩) 2 2]) = W9 at *
 refine (code_sh [.int .i64 3,.string ⟨#[115,104,111,114,116,101,110]⟩,.int .i64 0,.slice none 0 0,.slice (some ⟨bD,0,none⟩) 2 2] W9 HE9.out (HP.out.keep HP.out.lt HB9.out)).mono ?_
 rintro e w10 ⟨⟨v0,v1,v2,R,kk,rfl,hone⟩,hb10⟩
 have HB11 : Hid (Below W9.heap.size W9 (w10.alloc (.cells #[v0,v1,v2,.int .i64 6,.slice R 2 kk] 35))) := hb10.alloc hb10.size _
 have HK11 : Hid ((w10.alloc (.cells #[v0,v1,v2,.int .i64 6,.slice R 2 kk] 35)).heap[w10.heap.size]? = some (.cells #[v0,v1,v2,.int .i64 6,.slice R 2 kk] 35 (0,0))) := heap_alloc_new _ _
 have HR11 : Hid ((w10.alloc (.cells #[v0,v1,v2,.int .i64 6,.slice R 2 kk] 35)).rangeAt b 0 [.int .i64 3,.string ⟨#[115,104,111,114,116,101,110]⟩,.int .i64 0,.slice none 0 0,.slice (some ⟨bD,0,none⟩) 2 2]) := qaJ HR9.out (HB11.out.block _ hl9)
 have HE11 : Hid (ExprC (w10.alloc (.cells #[v0,v1,v2,.int .i64 6,.slice R 2 kk] 35)) Any shE [.int .i64 3,.string ⟨#[115,104,111,114,116,101,110]⟩,.int .i64 0,.slice none 0 0,.slice (some ⟨bD,0,none⟩) 2 2]) := HE9.out.grow HB11.out
 have HB12 : Hid (Below w.heap.size w (w10.alloc (.cells #[v0,v1,v2,.int .i64 6,.slice R 2 kk] 35))) := HB9.out.trans (HB11.out.mono HB9.out.size)
 have hl11 : w10.heap.size < (w10.alloc (.cells #[v0,v1,v2,.int .i64 6,.slice R 2 kk] 35)).heap.size := by simp
 clear hb10 HR9 HE9 HBB HB9 HB11
 go_wp2_with (first
  | (refine qaC rfl 35 (.tmp 3) (.tmp 24) rfl w10 _ #[v0,v1,v2,.int .i64 6,.slice R 2 kk] rfl rfl codeSize rfl hone ?_)
  | (refine wpList_load_mid rfl 25 (.tmp 2) rfl b 0 rfl [.int .i64 3,.string ⟨#[115,104,111,114,116,101,110]⟩,.int .i64 0,.slice none 0 0,.slice (some ⟨bD,0,none⟩) 2 2] _ HR11.out Tryz.underlying25 rfl exprSize ?_))
 generalize (w10.alloc (.cells #[v0,v1,v2,.int .i64 6,.slice R 2 kk] 35)) = W11 at *
 generalize w10.heap.size = bK at *
 refine (lower_sh [.int .i64 3,.string ⟨#[115,104,111,114,116,101,110]⟩,.int .i64 0,.slice none 0 0,.slice (some ⟨bD,0,none⟩) 2 2] W11 HE11.out (HP.out.keep HP.out.lt HB12.out)).mono ?_
 rintro e w13 ⟨rfl,hb13⟩
 have HK13 := Lib.hid ((hb13.block _ hl11).trans HK11.out)
 have HB13 := Lib.hid (HB12.out.trans (hb13.mono HB12.out.size))
 have hl13 : bK < w13.heap.size := Nat.lt_of_lt_of_le hl11 hb13.size
 clear hb13 HR11 HE11 HB12 HK11
 go_wp2_with fail
 refine (callE_c ⟨#[100,117,97,108]⟩ none 0 0 w13).mono ?_
 rintro e w14 ⟨rfl,hb14⟩
 have HK14 := Lib.hid ((hb14.block _ hl13).trans HK13.out)
 have HB14 := Lib.hid (HB13.out.trans (hb14.mono HB13.out.size))
 have hl14 : bK < w14.heap.size := Nat.lt_of_lt_of_le hl13 hb14.size
 clear hb14 HB13 HK13
 go_wp2_with fail
 refine (code_du w14 (HP.out.keep HP.out.lt HB14.out)).mono ?_
 rintro e w15 ⟨rfl,hb15⟩
 have HK16 : Hid ((w15.alloc (.cells #[.int .i64 0,.int .i64 0,.slice none 0 0,.int .i64 0,.slice none 0 0] 35)).heap[bK]? = some (.cells #[v0,v1,v2,.int .i64 6,.slice R 2 kk] 35 (0,0))) := (heap_alloc_old _ _ _ (by have := hb15.size;omega)).trans ((hb15.block _ hl14).trans HK14.out)
 have HB16 : Hid (Below w.heap.size w (w15.alloc (.cells #[.int .i64 0,.int .i64 0,.slice none 0 0,.int .i64 0,.slice none 0 0] 35))) := (HB14.out.trans (hb15.mono HB14.out.size)).alloc (Nat.le_trans HB14.out.size hb15.size) _
 have y3 : (w15.alloc (.cells #[.int .i64 0,.int .i64 0,.slice none 0 0,.int .i64 0,.slice none 0 0] 35)).cell? ⟨bK,3,none⟩ = some (.int .i64 6) := cell_of_row _ _ 3 _ _ _ HK16.out
 have y4 : (w15.alloc (.cells #[.int .i64 0,.int .i64 0,.slice none 0 0,.int .i64 0,.slice none 0 0] 35)).cell? ⟨bK,4,none⟩ = some (.slice R 2 kk) := cell_of_row _ _ 4 _ _ _ HK16.out
 clear hb15 HB14 HK14 HK16
 go_wp2_with (refine qaC rfl 35 (.tmp 7) (.tmp 34) rfl w15 _ #[.int .i64 0,.int .i64 0,.slice none 0 0,.int .i64 0,.slice none 0 0] rfl rfl codeSize rfl (by simp [Value.oneCell']) ?_)
 go_ret
 exact ⟨rfl,HB16.out⟩
end Go.Proofs.YtaddcadapbpkfaaGreatDoor
namespace Go.Proofs.YtaddcadapbpkfaaGreatDoor
open Go.RowKit Pln
section
variable {w : World} {cs ds : List Value} {t : TypeId} {W W' : World}
end
end Go.Proofs.YtaddcadapbpkfaaGreatDoor
