/-
 compile.table: the rows of each name. field.Standard, by the plain search (stdM).
-/
import Derived.Great.BuildSlice
import Derived.Deep.AppendLies
import Derived.Test.YtaddcadapbpkfaaGreatDoorR18
import Derived.Test.YtaddcadapbpkfaaGreatDoorR17
import Derived.Test.YtaddcadapbpkfaaGreatDoorR03
import Derived.Test.YtaddcadapbpkfaaGreatDoorR16
namespace Go.Proofs.YtaddcadapbpkfaaGreatDoor
open Go.RowKit
open Go.ChangeMaps (setBlock)
def bas (l : List (List UInt8)) : List ByteArray := l.map fun l => ⟨l.toArray⟩
def inBs (l : List ByteArray) (k : ByteArray) : Bool := l.any fun x => decide (x = k)
theorem inBs_mem {l : List ByteArray} {k : ByteArray} : inBs l k = true ↔ k ∈ l := by
 unfold inBs
 rw [List.any_eq_true]
 constructor
 . rintro ⟨x,hx,h⟩
   have := of_decide_eq_true h
   subst this
   exact hx
 . intro h
   exact ⟨k,h,by simp⟩
def gfB : ByteArray := ⟨#[103,102]⟩
def nmN (i : Nat) : List (List UInt8) := [famN,algN,modN,comN].getD i []
def upN (i : Nat) : List (List UInt8) := (([famN,algN,modN,comN].take i).flatten)
theorem up_apart : ∀ i,i < 4 -> ∀ k ∈ bas (nmN i),inBs (bas (upN i)) k = false /\ k ≠ gfB := by decide +kernel
theorem up_succ : ∀ i,i < 4 -> bas (upN (i + 1)) = bas (upN i) ++ bas (nmN i) := by decide +kernel
theorem inBs_app (a b : List ByteArray) (k : ByteArray) : inBs (a ++ b) k = (inBs a k || inBs b k) := by simp [inBs]
def RowAt (w : World) (v : Value) (n : Nat) (cells : List Value) : Prop := ∃ b c,v = .slice (some ⟨b,0,none⟩) n c /\ b < w.heap.size /\ w.rangeAt b 0 cells
theorem RowAt.turn {w w' : World} {v : Value} {n : Nat} {cells : List Value} (h : RowAt w v n cells) (hs : w.heap.size <= w'.heap.size) (hb : ∀ b j u,w.cell? ⟨b,j,none⟩ = some u -> w'.cell? ⟨b,j,none⟩ = some u) : RowAt w' v n cells := by
 obtain ⟨b,c,e,h1,h2⟩ := h
 exact ⟨b,c,e,by omega,fun j u hu => hb _ _ _ (h2 j u hu)⟩
theorem RowAt.keep {w w' : World} {v : Value} {n : Nat} {cells : List Value} (h : RowAt w v n cells) (hb : Below w.heap.size w w') : RowAt w' v n cells := by
 obtain ⟨b,c,e,h1,h2⟩ := h
 exact ⟨b,c,e,Nat.lt_of_lt_of_le h1 hb.size,fun j u hu => (World.cell?_of_block (a := ⟨b,0 + j,none⟩) (hb.block b h1)).trans (h2 j u hu)⟩
def GfRow (w : World) (v : Value) : Prop := ∃ b1 b2,RowAt w v 2 [.string ⟨#[78]⟩,.func (.func 81) #[] #[.pointer (some ⟨b1,0,none⟩)],.nilFunc,.string ⟨#[78,78,76]⟩,.func (.func 81) #[] #[.pointer (some ⟨b2,0,none⟩)],.nilFunc] /\
 Cap w b1 (.func (.func 46) #[] #[]) 94 /\ Cap w b2 (.func (.func 48) #[] #[]) 94
theorem GfRow.keep {w w' : World} {v : Value} (h : GfRow w v) (hb : Below w.heap.size w w') : GfRow w' v := by
 obtain ⟨b1,b2,h1,h2,h3⟩ := h
 exact ⟨b1,b2,h1.keep hb,h2.keep hb,h3.keep hb⟩
def NoCells (w : World) (b : Nat) : Prop := ∀ cs t fr,w.heap[b]? ≠ some (.cells cs t fr)
theorem noCells_cell {w : World} {b : Nat} (h : NoCells w b) {b' j : Nat} {u : Value} (hc : w.cell? ⟨b',j,none⟩ = some u) : b' ≠ b := by
 rintro rfl
 unfold World.cell? at hc
 split at hc
 . rename_i c t fr heq
   exact h _ _ _ heq
 . cases hc
theorem noCells_cap {w : World} {b : Nat} (h : NoCells w b) {b' : Nat} {x : Value} {t : TypeId} (hc : Cap w b' x t) : b' ≠ b := by
 rintro rfl
 exact h _ _ _ hc
theorem MapL.noCells {w : World} {b : Nat} {M : List (ByteArray × Value)} (h : MapL w b M) : NoCells w b := by
 obtain ⟨es,clock,hb,_⟩ := h
 intro cs t fr e
 rw [hb] at e
 cases e
theorem IterK.noCells {w : World} {r b : Nat} {M : List (ByteArray × Value)} {L : ByteArray -> Bool} (h : IterK w r b M L) : NoCells w r := by
 obtain ⟨es,clock,since,seen,c0,h1,_⟩ := h
 intro cs t fr e
 rw [h1] at e
 cases e
structure But (r : Nat) (w w' : World) : Prop where
 size : w.heap.size = w'.heap.size
 heap : ∀ k,k ≠ r -> w'.heap[k]? = w.heap[k]?
 os : w'.os = w.os
 tape : w'.tape = w.tape
 output : w'.output = w.output
theorem But.set (w : World) (r : Nat) (o' : Obj) : But r w (setBlock w r o') := ⟨(size_setBlock w r o').symm,fun k hk => qcD w r o' k hk,rfl,rfl,rfl⟩
theorem But.below {r B : Nat} {w w' : World} (h : But r w w') (hB : B <= r) : Below B w w' := ⟨h.os,h.tape,h.output,Nat.le_of_eq h.size,fun k hk => h.heap k (by omega)⟩
theorem But.cell {r : Nat} {w w' : World} (h : But r w w') (hn : NoCells w r) {b j : Nat} {u : Value} (hc : w.cell? ⟨b,j,none⟩ = some u) : w'.cell? ⟨b,j,none⟩ = some u :=
 (World.cell?_of_block (a := ⟨b,j,none⟩) (h.heap b (noCells_cell hn hc))).trans hc
theorem But.cap {r : Nat} {w w' : World} (h : But r w w') (hn : NoCells w r) (b : Nat) (x : Value) (t : TypeId) (hc : Cap w b x t) : Cap w' b x t := (h.heap b (noCells_cap hn hc)).trans hc
theorem RowAt.but {r : Nat} {w w' : World} {v : Value} {n : Nat} {cells : List Value} (h : RowAt w v n cells) (hb : But r w w') (hn : NoCells w r) : RowAt w' v n cells := h.turn (Nat.le_of_eq hb.size) fun _ _ _ hc => hb.cell hn hc
theorem RowV.but {r : Nat} {w w' : World} {k : ByteArray} {v : Value} (h : RowV w k v) (hb : But r w w') (hn : NoCells w r) : RowV w' k v := h.turn fun b x t hc => hb.cap hn b x t hc
theorem GfRow.but {r : Nat} {w w' : World} {v : Value} (h : GfRow w v) (hb : But r w w') (hn : NoCells w r) : GfRow w' v := by
 obtain ⟨b1,b2,h1,h2,h3⟩ := h
 exact ⟨b1,b2,h1.but hb hn,hb.cap hn _ _ _ h2,hb.cap hn _ _ _ h3⟩
theorem MR.but {r : Nat} {w w' : World} {mb : Nat} {ks : List ByteArray} (h : MR w mb ks) (hb : But r w w') (hn : NoCells w r) (hne : mb ≠ r) : MR w' mb ks := by
 obtain ⟨M,h1,h2,h3⟩ := h
 exact ⟨M,h1.keep (hb.heap _ hne),h2,fun kv hkv => (h3 kv hkv).but hb hn⟩
structure TbM (w : World) (M : List (ByteArray × Value)) (D : ByteArray -> Bool) : Prop where
 gf : ∃ v,lookL M gfB = some v /\ GfRow w v
 row : ∀ k,k ≠ gfB -> D k = true -> ∃ v r,lookL M k = some v /\ RowAt w v 1 r /\ r.length = 3 /\ RowV w k (.agg r.toArray)
 no : ∀ k,k ≠ gfB -> D k = false -> lookL M k = none
theorem TbM.keep {w w' : World} {M : List (ByteArray × Value)} {D : ByteArray -> Bool} (h : TbM w M D) (hb : Below w.heap.size w w') : TbM w' M D := by
 obtain ⟨⟨v,h2,h3⟩,h4,h5⟩ := h
 refine ⟨⟨v,h2,h3.keep hb⟩,fun k hk hD => ?_,h5⟩
 obtain ⟨v,r,e1,e2,e3,e4⟩ := h4 k hk hD
 exact ⟨v,r,e1,e2.keep hb,e3,e4.keep hb⟩
theorem TbM.but {r : Nat} {w w' : World} {M : List (ByteArray × Value)} {D : ByteArray -> Bool} (h : TbM w M D) (hb : But r w w') (hn : NoCells w r) : TbM w' M D := by
 obtain ⟨⟨v,h2,h3⟩,h4,h5⟩ := h
 refine ⟨⟨v,h2,h3.but hb hn⟩,fun k hk hD => ?_,h5⟩
 obtain ⟨v,r,e1,e2,e3,e4⟩ := h4 k hk hD
 exact ⟨v,r,e1,e2.but hb hn,e3,e4.but hb hn⟩
theorem TbM.put {w : World} {M : List (ByteArray × Value)} {D : ByteArray -> Bool} (h : TbM w M D) {k : ByteArray} {v : Value} {r : List Value} (hk : k ≠ gfB) (hv : RowAt w v 1 r) (hr : r.length = 3) (hrv : RowV w k (.agg r.toArray)) : TbM w (putL M k v) (fun x => D x || decide (x = k)) := by
 obtain ⟨⟨v0,h2,h3⟩,h4,h5⟩ := h
 refine ⟨⟨v0,by rw [qdE,if_neg (Ne.symm hk)];exact h2,h3⟩,fun x hx hD => ?_,fun x hx hD => ?_⟩
 . by_cases e : x = k
   . subst e
     exact ⟨v,r,by rw [qdE,if_pos rfl],hv,hr,hrv⟩
   . rw [qdE,if_neg e]
     exact h4 x hx (by simpa [e] using hD)
 . have e : x ≠ k := fun e => by simp [e] at hD
   rw [qdE,if_neg e]
   exact h5 x hx (by simpa [e] using hD)
theorem TbM.congr {w : World} {M : List (ByteArray × Value)} {D D' : ByteArray -> Bool} (h : TbM w M D) (hD : ∀ k,D' k = D k) : TbM w M D' := by
 have : D' = D := funext hD
 rw [this]
 exact h
def Tb (w : World) (tb : Nat) (D : ByteArray -> Bool) : Prop := ∃ M,MapL w tb M /\ TbM w M D
theorem Tb.keep {w w' : World} {tb : Nat} {D : ByteArray -> Bool} (h : Tb w tb D) (hb : Below w.heap.size w w') : Tb w' tb D := by
 obtain ⟨M,h1,h2⟩ := h
 exact ⟨M,h1.keep (hb.block _ h1.lt),h2.keep hb⟩
theorem Tb.but {r : Nat} {w w' : World} {tb : Nat} {D : ByteArray -> Bool} (h : Tb w tb D) (hb : But r w w') (hn : NoCells w r) (hne : tb ≠ r) : Tb w' tb D := by
 obtain ⟨M,h1,h2⟩ := h
 exact ⟨M,h1.keep (hb.heap _ hne),h2.but hb hn⟩
theorem Tb.congr {w : World} {tb : Nat} {D D' : ByteArray -> Bool} (h : Tb w tb D) (hD : ∀ k,D' k = D k) : Tb w tb D' := by
 obtain ⟨M,h1,h2⟩ := h
 exact ⟨M,h1,h2.congr hD⟩
theorem underRows : Tryz.prog.underlying 68 = some (.map 9 96) := Tryz.underlying68
theorem zeroRows (w : World) : (zeroValue 96).run Tryz.prog w = .ok (.slice none 0 0) w := by kernel_rfl
theorem infoCall : (Tryz.prog.info? 90).map (fun i => (i.zero,i.size,i.bytes)) = some (some (.agg #[.string ⟨#[]⟩,.nilFunc,.nilFunc]),3,32) := by kernel_rfl
section
variable {P : Program} {ops : Array Oper} {rest : List Oper} {o : Oper} {a : Act} {w : World} {Q : Exit -> Act -> World -> Prop}
theorem wpList_nextS (hgd : o.guard = none) (it : Operand) (ho : o.op = .next it false) (r b : Nat) (M : List (ByteArray × Value)) (L : ByteArray -> Bool) (e1 : a.eval it = .pointer (some ⟨r,0,none⟩)) (hI : IterK w r b M L)
 (hD : (∀ kv ∈ M,L kv.1 = false) -> wpList P ops Q rest (a.put o.dst (.tuple #[.bool false])) w)
 (hM : ∀ kv,kv ∈ M -> L kv.1 = true -> ∀ w',IterE w' r b M (fun k => L k && !decide (k = kv.1)) kv -> But r w w' -> wpList P ops Q rest (a.put o.dst (.tuple #[.bool true,.string kv.1,kv.2])) w') : wpList P ops Q (o :: rest) a w :=
 wpList_plain hgd fun _ hK => by
  unfold Oper.wp execOp
  rcases hI.next (P := P) o.type with ⟨h0,hr⟩ | ⟨kv,hkv,hL,w1,o',hw,hr,hE⟩
  . simp only [ho,e1,Sem.run_bind,Sem.run_pure,hr,Result.andThen_ok]
    exact hK _ _ (hD h0)
  . simp only [ho,e1,Sem.run_bind,Sem.run_pure,hr,Result.andThen_ok]
    refine hK _ _ (hM kv hkv hL _ hE ?_)
    rcases hw with rfl | rfl
    . exact But.set _ _ _
    . have := But.set w.drew r o'
      exact ⟨this.size,this.heap,this.os,this.tape,this.output⟩
end
structure TW (w : World) (tb gs : Nat) (mb : Nat -> Nat) (D : ByteArray -> Bool) (wr : World) : Prop where
 below : Below w.heap.size w wr
 lo : w.heap.size <= tb
 tab : Tb wr tb D
 ne : ∀ j,j < 4 -> mb j ≠ tb
 maps : ∀ j,j < 4 -> MR wr (mb j) (bas (nmN j))
 cell : ∀ j,j < 4 -> wr.cell? ⟨gs,j,none⟩ = some (.map (some (mb j)))
theorem TW.keep {w : World} {tb gs : Nat} {mb : Nat -> Nat} {D : ByteArray -> Bool} {wr w' : World} (h : TW w tb gs mb D wr) (hb : Below wr.heap.size wr w') : TW w tb gs mb D w' :=
 ⟨h.below.trans (hb.mono h.below.size),h.lo,h.tab.keep hb,h.ne,fun j hj => (h.maps j hj).keep hb,fun j hj => (hb.cell (p := ⟨gs,j,none⟩) (World.block_lt_of_cell? wr _ (h.cell j hj))).trans (h.cell j hj)⟩
theorem TW.but {w : World} {tb gs r : Nat} {mb : Nat -> Nat} {D : ByteArray -> Bool} {wr w' : World} (h : TW w tb gs mb D wr) (hb : But r wr w') (hn : NoCells wr r) (hr : w.heap.size <= r) (hne : tb ≠ r) (hm : ∀ j,j < 4 -> mb j ≠ r) : TW w tb gs mb D w' :=
 ⟨h.below.trans (hb.below hr),h.lo,h.tab.but hb hn hne,h.ne,fun j hj => (h.maps j hj).but hb hn (hm j hj),fun j hj => hb.cell hn (h.cell j hj)⟩
def RelTo (w : World) (tb gs : Nat) (mb : Nat -> Nat) (v17 : Value) (g : Nat) (wr : World) : Prop := ∃ i : Nat,i + g = 4 /\ v17 = .int .i64 i /\ TW w tb gs mb (inBs (bas (upN i))) wr
def RelTi (w : World) (tb gs : Nat) (mb : Nat -> Nat) (i r : Nat) (M : List (ByteArray × Value)) (g : Nat) (wr : World) : Prop :=
 ∃ L,g = toCome M L /\ IterK wr r (mb i) M L /\ w.heap.size <= r /\ (∀ j,j < 4 -> mb j ≠ r) /\ tb ≠ r /\ (∀ kv ∈ M,RowV wr kv.1 kv.2) /\ TW w tb gs mb (fun k => inBs (bas (upN i)) k || (inBs (bas (nmN i)) k && !L k)) wr
theorem RowV.three {w : World} {k : ByteArray} {v : Value} (h : RowV w k v) : ∃ x y z,v = .agg #[x,y,z] /\ x.oneCell' = true /\ y.oneCell' = true /\ z.oneCell' = true := by
 obtain ⟨i,d,_,_,b,cs,rfl,_,_⟩ := h
 exact ⟨_,_,_,rfl,rfl,rfl,rfl⟩
set_option maxHeartbeats 4000000 in
set_option maxRecDepth 100000 in
theorem table_c (w : World) : Calls Tryz.prog 30 #[] w fun e w' => (∃ tb,e = .returned (.map (some tb)) /\ Tb w' tb (inBs (bas (upN 4)))) /\ Below w.heap.size w w' := by
 have hmf : ∀ (fn : Fn) (first cap : Array Value) (w : World),(Instr.makeFunc fn first cap).run Tryz.prog w = .ok (.func fn first cap) w := fun _ _ _ _ => rfl
 have hmm := @run_makeMap Tryz.prog
 obtain ⟨i0,hi,hz0,hz1,hz2⟩ := info_parts infoCall
 have HI := Lib.hid hi
 have HZ0 := Lib.hid hz0
 have HZ1 := Lib.hid hz1
 have HZ2 := Lib.hid hz2
 clear hi hz0 hz1 hz2
 have HB0 : Hid (Below w.heap.size w (w.alloc (.map #[] 0))) := (Below.refl _ _).alloc (Nat.le_refl _) _
 have HM0 := Lib.hid (MapL.new w 0)
 go_enter Tryz.func30,Tryz.ntmps30
 go_wp2_with fail
 generalize w.alloc (.map #[] 0) = W0 at *
 refine (fieldRow_c ⟨#[78]⟩ (.func 46) #[] #[] W0).mono ?_
 rintro e w1 ⟨⟨b1,rfl,hc1⟩,hb1⟩
 have HM1 := Lib.hid (HM0.out.keep (hb1.block _ HM0.out.lt))
 have HB1 := Lib.hid (HB0.out.trans (hb1.mono HB0.out.size))
 have HC1 := Lib.hid hc1
 clear hb1 hc1 HM0 HB0
 go_wp2_with fail
 refine (fieldRow_c ⟨#[78,78,76]⟩ (.func 48) #[] #[] w1).mono ?_
 rintro e w2 ⟨⟨b2,rfl,hc2⟩,hb2⟩
 have HM2 := Lib.hid (HM1.out.keep (hb2.block _ HM1.out.lt))
 have HB2 := Lib.hid (HB1.out.trans (hb2.mono HB1.out.size))
 have HC12 := Lib.hid (HC1.out.keep hb2)
 have HC2 := Lib.hid hc2
 clear hb2 hc2 HM1 HB1 HC1
 have HBA : Hid (Below w2.heap.size w2 (w2.alloc (.cells #[.string ⟨#[78]⟩,.func (.func 81) #[] #[.pointer (some ⟨b1,0,none⟩)],.nilFunc,.string ⟨#[78,78,76]⟩,.func (.func 81) #[] #[.pointer (some ⟨b2,0,none⟩)],.nilFunc] 90))) := (Below.refl _ _).alloc (Nat.le_refl _) _
 have HRA : Hid (RowAt (w2.alloc (.cells #[.string ⟨#[78]⟩,.func (.func 81) #[] #[.pointer (some ⟨b1,0,none⟩)],.nilFunc,.string ⟨#[78,78,76]⟩,.func (.func 81) #[] #[.pointer (some ⟨b2,0,none⟩)],.nilFunc] 90)) (.slice (some ⟨w2.heap.size,0,none⟩) 2 2) 2 [.string ⟨#[78]⟩,.func (.func 81) #[] #[.pointer (some ⟨b1,0,none⟩)],.nilFunc,.string ⟨#[78,78,76]⟩,.func (.func 81) #[] #[.pointer (some ⟨b2,0,none⟩)],.nilFunc]) :=
  ⟨_,2,rfl,by simp,qaB (heap_alloc_new w2 _)⟩
 have HMA := Lib.hid (HM2.out.keep (HBA.out.block _ HM2.out.lt))
 have HGR : Hid (GfRow (w2.alloc (.cells #[.string ⟨#[78]⟩,.func (.func 81) #[] #[.pointer (some ⟨b1,0,none⟩)],.nilFunc,.string ⟨#[78,78,76]⟩,.func (.func 81) #[] #[.pointer (some ⟨b2,0,none⟩)],.nilFunc] 90)) (.slice (some ⟨w2.heap.size,0,none⟩) 2 2)) := ⟨b1,b2,HRA.out,HC12.out.keep HBA.out,HC2.out.keep HBA.out⟩
 have HB3 := Lib.hid (HB2.out.trans (HBA.out.mono HB2.out.size))
 clear HM2 HRA HC12 HC2 HB2 HBA
 go_wp2_with (first
  | (refine wpList_buildSlice rfl 96 90 2 _ rfl #[.string ⟨#[78]⟩,.func (.func 81) #[] #[.pointer (some ⟨b1,0,none⟩)],.nilFunc,.string ⟨#[78,78,76]⟩,.func (.func 81) #[] #[.pointer (some ⟨b2,0,none⟩)],.nilFunc] i0 _ Tryz.underlying96 HI.out HZ0.out (by rw [HZ1.out];decide) (by rw [HZ1.out];decide) (by rw [HZ1.out];rfl) ?_)
  | (refine qcV rfl 68 _ _ (.tmp 6) (.const (.string ⟨#[103,102]⟩)) (.tmp 9) (.inl rfl) underRows underStr w.heap.size gfB (.slice (some ⟨w2.heap.size,0,none⟩) 2 2) [] rfl rfl rfl HMA.out ?_;intro o' hM4))
 have HBU := But.set (w2.alloc (.cells #[.string ⟨#[78]⟩,.func (.func 81) #[] #[.pointer (some ⟨b1,0,none⟩)],.nilFunc,.string ⟨#[78,78,76]⟩,.func (.func 81) #[] #[.pointer (some ⟨b2,0,none⟩)],.nilFunc] 90)) w.heap.size o'
 have HNC := HMA.out.noCells
 have HT4 : Hid (Tb (setBlock (w2.alloc (.cells #[.string ⟨#[78]⟩,.func (.func 81) #[] #[.pointer (some ⟨b1,0,none⟩)],.nilFunc,.string ⟨#[78,78,76]⟩,.func (.func 81) #[] #[.pointer (some ⟨b2,0,none⟩)],.nilFunc] 90)) w.heap.size o') w.heap.size (inBs (bas (upN 0)))) :=
  ⟨_,hM4,⟨_,by rw [qdE,if_pos rfl],HGR.out.but HBU HNC⟩,fun k hk hD => (by cases hD),fun k hk _ => (by rw [qdE,if_neg hk];rfl)⟩
 have HB4 := Lib.hid (HB3.out.trans (HBU.below (Nat.le_refl _)))
 clear HBU HNC hM4 HMA HGR HB3
 generalize setBlock (w2.alloc (.cells #[.string ⟨#[78]⟩,.func (.func 81) #[] #[.pointer (some ⟨b1,0,none⟩)],.nilFunc,.string ⟨#[78,78,76]⟩,.func (.func 81) #[] #[.pointer (some ⟨b2,0,none⟩)],.nilFunc] 90)) w.heap.size o' = W4 at *
 have htl : w.heap.size < W4.heap.size := by obtain ⟨M,h1,_⟩ := HT4.out;exact h1.lt
 refine (families_c W4).mono ?_
 rintro e w5 ⟨⟨m0,rfl,hm0,hr0⟩,hb⟩
 have HT5 := Lib.hid (HT4.out.keep hb)
 have HB5 := Lib.hid (HB4.out.trans (hb.mono HB4.out.size))
 have HR05 := Lib.hid hr0
 have hs5 := hb.size
 clear hb hr0 HT4 HB4
 go_wp2_with fail
 refine (algebraic_c w5).mono ?_
 rintro e w6 ⟨⟨m1,rfl,hm1,hr1⟩,hb⟩
 have HT6 := Lib.hid (HT5.out.keep hb)
 have HB6 := Lib.hid (HB5.out.trans (hb.mono HB5.out.size))
 have HR06 := Lib.hid (HR05.out.keep hb)
 have HR16 := Lib.hid hr1
 have hs6 := hb.size
 clear hb hr1 HT5 HB5 HR05
 go_wp2_with fail
 refine (modified_c w6).mono ?_
 rintro e w7 ⟨⟨m2,rfl,hm2,hr2⟩,hb⟩
 have HT7 := Lib.hid (HT6.out.keep hb)
 have HB7 := Lib.hid (HB6.out.trans (hb.mono HB6.out.size))
 have HR07 := Lib.hid (HR06.out.keep hb)
 have HR17 := Lib.hid (HR16.out.keep hb)
 have HR27 := Lib.hid hr2
 have hs7 := hb.size
 clear hb hr2 HT6 HB6 HR06 HR16
 go_wp2_with fail
 refine (combined_c w7).mono ?_
 rintro e w8 ⟨⟨m3,rfl,hm3,hr3⟩,hb⟩
 have HBM : Hid (Below w8.heap.size w8 (w8.alloc (.cells #[.map (some m0),.map (some m1),.map (some m2),.map (some m3)] 97))) := (Below.refl _ _).alloc (Nat.le_refl _) _
 have hb9 := hb.trans (HBM.out.mono hb.size)
 have HROW : Hid ((w8.alloc (.cells #[.map (some m0),.map (some m1),.map (some m2),.map (some m3)] 97)).heap[w8.heap.size]? = some (.cells #[.map (some m0),.map (some m1),.map (some m2),.map (some m3)] 97 (0,0))) := heap_alloc_new _ _
 have HTW : Hid (TW w w.heap.size w8.heap.size (fun j => [m0,m1,m2,m3].getD j 0) (inBs (bas (upN 0))) (w8.alloc (.cells #[.map (some m0),.map (some m1),.map (some m2),.map (some m3)] 97))) := by
  refine ⟨HB7.out.trans (hb9.mono HB7.out.size),Nat.le_refl _,HT7.out.keep hb9,fun j hj => ?_,fun j hj => ?_,fun j hj => ?_⟩
  . match j,hj with
    | 0,_ => show m0 ≠ _;omega
    | 1,_ => show m1 ≠ _;omega
    | 2,_ => show m2 ≠ _;omega
    | 3,_ => show m3 ≠ _;omega
  . match j,hj with
    | 0,_ => exact HR07.out.keep hb9
    | 1,_ => exact HR17.out.keep hb9
    | 2,_ => exact HR27.out.keep hb9
    | 3,_ => exact hr3.keep HBM.out
  . rw [cell_of_row _ _ j _ _ _ HROW.out]
    match j,hj with
    | 0,_ => rfl
    | 1,_ => rfl
    | 2,_ => rfl
    | 3,_ => rfl
 clear hb hr3 hb9 HBM HROW HT7 HB7 HR07 HR17 HR27 hm0 hm1 hm2 hm3 hs5 hs6 hs7 htl
 go_wp2_with fail
 generalize w8.alloc (.cells #[.map (some m0),.map (some m1),.map (some m2),.map (some m3)] 97) = W9 at *
 generalize w8.heap.size = gs at *
 generalize (fun j => [m0,m1,m2,m3].getD j 0) = mb at *
 go_loopg [17] 4 (fun g v wr => RelTo w w.heap.size gs mb v g wr)
 case atStart => exact ⟨0,rfl,rfl,HTW.out⟩
 case round =>
  obtain ⟨i,hig,rfl,ht⟩ := hrel
  obtain ⟨w4,rfl⟩ : ∃ w',w' = wr := ⟨wr,rfl⟩
  by_cases hi : i < 4
  . have c0 := ht.cell i hi
    obtain ⟨M,hM,hks,hrv⟩ := ht.maps i hi
    have k0 : (0 : Int) <= (i : Int) := by omega
    have k1 : (i : Int) < 4 := by omega
    have HT := Lib.hid ht
    have HKS := Lib.hid hks
    have HRV := Lib.hid hrv
    have HM := Lib.hid hM
    clear ht hks hrv hM HTW
    go_wp2_with (refine wpList_range rfl 97 _ _ (.tmp 21) rfl underCall (mb i) M rfl HM.out ?_;intro o1 hI)
    go_frame
    have HBR : Hid (Below w4.heap.size w4 (w4.alloc o1)) := (Below.refl _ _).alloc (Nat.le_refl _) _
    have HI1 := Lib.hid hI
    have HT1 := Lib.hid (HT.out.keep HBR.out)
    have HRV1 : Hid (∀ kv ∈ M,RowV (w4.alloc o1) kv.1 kv.2) := fun kv hkv => (HRV.out kv hkv).keep HBR.out
    have HRLO : Hid (w.heap.size <= w4.heap.size /\ (∀ j,j < 4 -> mb j ≠ w4.heap.size) /\ w.heap.size ≠ w4.heap.size) := by
     refine ⟨HT.out.below.size,fun j hj e => ?_,fun e => ?_⟩
     . have := (HT.out.maps j hj).lt
       omega
     . obtain ⟨M',h1,_⟩ := HT.out.tab
       have := h1.lt
       omega
    clear hI c0 HT HRV HBR HM
    generalize w4.alloc o1 = Wa at *
    generalize w4.heap.size = r at *
    go_loopg [23] (toCome M (fun _ => true)) (fun g v wx => RelTi w w.heap.size gs mb i r M g wx)
    case atStart => exact ⟨_,rfl,HI1.out,HRLO.out.1,HRLO.out.2.1,HRLO.out.2.2,HRV1.out,⟨HT1.out.below,HT1.out.lo,HT1.out.tab.congr (fun k => by simp),HT1.out.ne,HT1.out.maps,HT1.out.cell⟩⟩
    case round =>
     obtain ⟨L,hg,hI,_,_,_,hrv,ht⟩ := hrel
     have HG := Lib.hid hg
     have HI2 := Lib.hid hI
     have HRV2 := Lib.hid hrv
     have HT2 := Lib.hid ht
     clear hg hI hrv ht HI1 HT1 HRV1
     go_wp2_with (refine wpList_nextS rfl (.tmp 22) rfl r (mb i) M L rfl HI2.out ?_ ?_)
     . intro h0
       have HT3 : Hid (TW w w.heap.size gs mb (inBs (bas (upN (i + 1)))) wr) := by
        refine ⟨HT2.out.below,HT2.out.lo,HT2.out.tab.congr (fun k => ?_),HT2.out.ne,HT2.out.maps,HT2.out.cell⟩
        rw [up_succ i hi,inBs_app]
        cases hk : inBs (bas (nmN i)) k
        . simp
        . have hm := inBs_mem.1 hk
          rw [<- HKS.out] at hm
          obtain ⟨kv,hkv,rfl⟩ := List.mem_map.1 hm
          rw [h0 kv.1 kv.2 hkv]
          simp
       clear h0 HI2 HRV2 HT2
       go_wp2_with fail
       go_roundg (4 - (i + 1))
       case measure => omega
       case rel => exact ⟨i + 1,by omega,by go_num,HT3.out⟩
     . intro kb vb hkv hL w' hE hbu
       have hnr := HI2.out.noCells
       have HT3 := Lib.hid (HT2.out.but hbu hnr HRLO.out.1 HRLO.out.2.2 HRLO.out.2.1)
       have HRV3 : Hid (∀ kv ∈ M,RowV w' kv.1 kv.2) := fun kv hkv => (HRV2.out kv hkv).but hbu hnr
       have hen : (Instr.entry (.pointer (some ⟨r,0,none⟩))).run Tryz.prog w' = .ok (.tuple #[.string kb,vb]) w' := hE.entry
       have HE := Lib.hid hE
       have hrk := HRV3.out _ hkv
       obtain ⟨x,y,z,hxyz,o1,o2,o3⟩ := hrk.three
       have hxyz : vb = .agg #[x,y,z] := hxyz
       subst hxyz
       have HRK := Lib.hid hrk
       have HLT := Lib.hid (toCome_lt hkv hL)
       have HKM : Hid (inBs (bas (nmN i)) kb = true) := inBs_mem.2 (by rw [<- HKS.out];exact List.mem_map.2 ⟨_,hkv,rfl⟩)
       have HL := Lib.hid hL
       obtain ⟨hap,hgf⟩ := up_apart i hi kb (inBs_mem.1 HKM.out)
       obtain ⟨Mt,hMt,hTM⟩ := HT3.out.tab
       have hLK : lookL Mt kb = none := hTM.no kb hgf (by rw [hap,HKM.out];show (false || (true && !L kb)) = false;rw [show L kb = true from hL];rfl)
       have HLK := Lib.hid hLK
       have HTM := Lib.hid hTM
       have HGF := Lib.hid hgf
       have HB5 : Hid (Below w'.heap.size w' (w'.alloc (.cells #[x,y,z] 90))) := (Below.refl _ _).alloc (Nat.le_refl _) _
       have HRG5 : Hid ((w'.alloc (.cells #[x,y,z] 90)).rangeAt w'.heap.size 0 [x,y,z]) := qaB (heap_alloc_new w' _)
       have HMt5 := Lib.hid (hMt.keep (HB5.out.block _ hMt.lt))
       have HMt0 := Lib.hid hMt
       have hone : (#[x,y,z].all fun v => v.oneCell') = true := by simp [o1,o2,o3]
       clear hkv hbu hnr hE hrk hL hap hgf hMt hTM hLK HI2 HRV2 HT2
       have HB6 : Hid (Below w'.heap.size w' ((w'.alloc (.cells #[x,y,z] 90)).alloc (.cells #[x,y,z] 90))) := HB5.out.alloc HB5.out.size _
       have HRG6 : Hid (((w'.alloc (.cells #[x,y,z] 90)).alloc (.cells #[x,y,z] 90)).rangeAt (w'.alloc (.cells #[x,y,z] 90)).heap.size 0 [x,y,z]) := qaB (heap_alloc_new _ _)
       have HNW : Hid (∀ j u,[x,y,z][j]? = some u -> ((w'.alloc (.cells #[x,y,z] 90)).alloc (.cells #[x,y,z] 90)).cell? ((⟨w'.heap.size + 1,0,none⟩ : Addr).add j) = some u) := by
        have := World.news_of_block (cs := #[x,y,z]) (t := 90) (fr := (0,0)) (heap_alloc_new (w'.alloc (.cells #[x,y,z] 90)) (.cells #[x,y,z] 90))
        rw [World.size_alloc] at this
        exact this
       have HON : Hid (∀ u ∈ [x,y,z],u.oneCell' = true) := fun u hu => by
        simp at hu
        rcases hu with rfl | rfl | rfl <;> assumption
       have HMt6 : Hid (∀ w7,((w'.alloc (.cells #[x,y,z] 90)).alloc (.cells #[x,y,z] 90)).grownBy w7 none -> MapL w7 w.heap.size Mt /\ Below w'.heap.size w' w7) := fun w7 hg => by
        have hb : Below w'.heap.size w' w7 := HB6.out.grown hg HB6.out.size (fun k hk => by cases hk)
        exact ⟨HMt0.out.keep (hb.block _ HMt0.out.lt),hb⟩
       go_wp2_with (first
        | (refine qaC rfl 90 (.tmp 5) (.tmp 27) rfl w' _ #[x,y,z] rfl rfl callSize rfl hone ?_)
        | (refine qbM rfl 68 _ _ (.tmp 30) (.tmp 31) rfl underRows underStr w.heap.size kb Mt (.slice none 0 0) rfl rfl HMt5.out (zeroRows _) ?_;rw [HLK.out,Option.getD_none])
        | (refine wpList_load_mid rfl 90 (.tmp 5) rfl w'.heap.size 0 rfl [x,y,z] _ HRG5.out Tryz.underlying90 rfl callSize ?_)
        | (refine wpList_buildSlice rfl 96 90 1 _ rfl #[x,y,z] i0 _ Tryz.underlying96 HI.out HZ0.out (by rw [HZ1.out];decide) (by rw [HZ1.out];decide) (by rw [HZ1.out];rfl) ?_)
        | (at_builtin;go_loud (refine wpList_append_lies _ rfl (.tmp 32) (.tmp 34) 96 rfl w'.heap.size 90 i0 _ 3 32 Tryz.underlying96 HI.out HZ0.out HZ1.out HZ2.out rfl (by decide) (.slice none 0 0) 0 [] rfl ⟨rfl,.inl ⟨rfl,rfl⟩⟩ ⟨w'.heap.size + 1,0,none⟩ 1 1 [x,y,z] rfl rfl HNW.out HON.out (by decide) (by unfold maxLen;omega) (by decide) HB6.out.size (w'.heap.size + 1 + 1) (by simp) ?_;intro g cap w7 hown hgrow hat hlt;have HM7 := Lib.hid (HMt6.out w7 hgrow)))
        | (refine qcV rfl 68 _ _ (.tmp 28) (.tmp 29) (.tmp 35) (.inr rfl) underRows underStr w.heap.size kb (.slice (some ⟨g,0,none⟩) (0 + 1) cap) Mt rfl rfl rfl HM7.out.1 ?_;intro o' hM8))
       have hb7 := HM7.out.2
       have HT7 := Lib.hid (HT3.out.keep hb7)
       have HBU := Lib.hid (But.set w7 w.heap.size o')
       have HNC := Lib.hid HM7.out.1.noCells
       have HIT := Lib.hid HE.out.iter
       have HRO : Hid (RowAt w7 (.slice (some ⟨g,0,none⟩) (0 + 1) cap) 1 [x,y,z]) := ⟨g,cap,rfl,hlt,fun j u hu => by rw [<- Addr.add_mid];exact hown.cells (g := g) rfl j u hu⟩
       have HT8 : Hid (TW w w.heap.size gs mb (fun k => inBs (bas (upN i)) k || (inBs (bas (nmN i)) k && !(L k && !decide (k = kb)))) (setBlock w7 w.heap.size o')) := by
        refine ⟨HT7.out.below.trans (HBU.out.below (Nat.le_refl _)),Nat.le_refl _,⟨_,hM8,(((HTM.out.keep hb7).put HGF.out HRO.out rfl (HRK.out.keep hb7)).but HBU.out HNC.out).congr fun k => ?_⟩,HT7.out.ne,fun j hj => (HT7.out.maps j hj).but HBU.out HNC.out (HT7.out.ne j hj),fun j hj => HBU.out.cell HNC.out (HT7.out.cell j hj)⟩
        by_cases hk : k = kb
        . subst hk
          rw [HKM.out]
          simp
        . simp [hk]
       have hrlt := HIT.out.lt
       have HI8 : Hid (IterK (setBlock w7 w.heap.size o') r (mb i) M (fun k => L k && !decide (k = kb))) :=
        (HIT.out.keep (hb7.block _ hrlt.1) (hb7.block _ hrlt.2.1)).keep (HBU.out.heap _ (Ne.symm HRLO.out.2.2)) (HBU.out.heap _ (HT7.out.ne i hi))
       have HRV8 : Hid (∀ kv ∈ M,RowV (setBlock w7 w.heap.size o') kv.1 kv.2) := fun kv hkv => ((HRV3.out kv hkv).keep hb7).but HBU.out HNC.out
       clear hown hgrow hat hlt hM8 hb7 hrlt
       go_roundg (toCome M (fun k => L k && !decide (k = kb)))
       case measure => exact Nat.lt_of_lt_of_eq HLT.out HG.out.symm
       case rel => exact ⟨_,rfl,HI8.out,HRLO.out.1,HRLO.out.2.1,HRLO.out.2.2,HRV8.out,HT8.out⟩
  . go_wp2_with fail
    go_ret
    obtain rfl : i = 4 := by omega
    exact ⟨⟨_,rfl,ht.tab⟩,ht.below⟩
end Go.Proofs.YtaddcadapbpkfaaGreatDoor
namespace Go.Proofs.YtaddcadapbpkfaaGreatDoor
open Go.RowKit Pln
def FldPost (w : World) (r : FR) (e : Ending) (w' : World) : Prop :=
 (∃ (A : Option Addr) (c : Nat),e = .returned (.tuple #[.agg #[.int .i64 r.p,.int .i64 r.m,.slice A r.mod.length c],.int .i64 r.e]) /\ IntsUp w' w.heap.size A r.mod) /\ Below w.heap.size w w'
theorem qdC (w : World) (B : Nat) (A : Option Addr) : IntsUp w B A [] := fun h => by simp at h
def RelP1 (q : Nat) (v : Value) : Prop := ∃ p : Nat,2 <= p /\ p <= q /\ v = .int .i64 p /\ pGo q p (258 - p) = pM q
def RelM1 (q p : Nat) (v : Value) : Prop := ∃ m : Nat,1 <= m /\ m <= 8 /\ v = .int .i64 m /\ mGo q p m (9 - m) = mM q p
def RelV1 (w : World) (q p m : Nat) (v : Value) (g : Nat) (wr : World) : Prop :=
 ∃ i : Nat,i + g = q /\ v = .int .i64 i /\ vGo p m i (q - i) = vGo p m 0 q /\ Bx w [([.int .i64 0,.int .i64 0,.slice none 0 0],29)] wr
set_option maxHeartbeats 4000000 in
set_option maxRecDepth 100000 in
theorem std_c (q : Int) (w : World) : Calls Tryz.prog 47 #[.int .i64 q] w (FldPost w (stdM q)) := by
 have HX := Lib.hid (bx1 w #[.int .i64 0,.int .i64 0,.slice none 0 0] 29)
 by_cases hq : q < 2 \/ 256 < q
 . have HS : Hid (stdM q = .err 6) := stdM_out hq
   go_enter Tryz.func47,Tryz.ntmps47
   go_upto_region 1 with fail
   generalize w.alloc (.cells #[.int .i64 0,.int .i64 0,.slice none 0 0] 29) = W at *
   have k0 := HX.out.at_ (i := 0) rfl
   have HK0 := Lib.hid k0
   have HKY : Hid ((W.setRow w.heap.size #[.int .i64 0,.int .i64 0,.slice none 0 0]).heap[w.heap.size]? = some (.cells #[.int .i64 0,.int .i64 0,.slice none 0 0] 29 (0,0))) := qaF _ _ _ _ _ k0
   clear k0
   rcases hq with hq | hq
   . go_wp2_with (refine qaA rfl 29 (.tmp 2) (.tmp 14) rfl W w.heap.size 29 #[.int .i64 0,.int .i64 0,.slice none 0 0] #[.int .i64 0,.int .i64 0,.slice none 0 0] rfl rfl HK0.out fieldSize rfl (by simp [Value.oneCell']) ?_)
     refine bodyPost_ret (qaE (P := Tryz.prog) rfl _ _ w.heap.size 29 #[.int .i64 0,.int .i64 0,.slice none 0 0] (0,0) _ _ rfl rfl HKY.out Tryz.underlying29 rfl fieldSize) rfl ?_
     rw [HS.out]
     exact ⟨⟨none,0,rfl,qdC _ _ _⟩,qaD HX.out.below (Nat.le_refl _) _⟩
   . have h2 : ¬ q < 2 := by omega
     go_wp2_with (refine qaA rfl 29 (.tmp 2) (.tmp 14) rfl W w.heap.size 29 #[.int .i64 0,.int .i64 0,.slice none 0 0] #[.int .i64 0,.int .i64 0,.slice none 0 0] rfl rfl HK0.out fieldSize rfl (by simp [Value.oneCell']) ?_)
     refine bodyPost_ret (qaE (P := Tryz.prog) rfl _ _ w.heap.size 29 #[.int .i64 0,.int .i64 0,.slice none 0 0] (0,0) _ _ rfl rfl HKY.out Tryz.underlying29 rfl fieldSize) rfl ?_
     rw [HS.out]
     exact ⟨⟨none,0,rfl,qdC _ _ _⟩,qaD HX.out.below (Nat.le_refl _) _⟩
 obtain ⟨n,rfl⟩ : ∃ n : Nat,q = n := ⟨q.toNat,by omega⟩
 have hq1 : 2 <= n := by omega
 have hq2 : n <= 256 := by omega
 have HS : Hid (stdM (n : Int) = stdN n) := stdM_in hq1 hq2
 clear hq
 go_enter Tryz.func47,Tryz.ntmps47
 go_upto_region 1 with fail
 generalize w.alloc (.cells #[.int .i64 0,.int .i64 0,.slice none 0 0] 29) = W at *
 go_wp2_with fail
 go_loop [4] (fun v => RelP1 n v) (fun v => 300 - (intOf v).toNat)
 case atStart => exact ⟨2,by omega,hq1,rfl,rfl⟩
 case round =>
  obtain ⟨p,hp1,hp2,rfl,hp⟩ := hrel
  have HP := Lib.hid hp
  clear hp
  by_cases hd : n % p = 0
  . have HPE : Hid (pM n = p) := by show _ = _;rw [<- HP.out,pGo_stop hd]
    have hdi : (n : Int) % (p : Int) = 0 := by omega
    have hp0 : ¬ (p : Int) = 0 := by omega
    have hp256 : p <= 256 := by omega
    clear hd HP
    go_wp2_with fail
    clear hdi hp0
    go_loop [5] (fun v => RelM1 n p v) (fun v => 20 - (intOf v).toNat)
    case atStart => exact ⟨1,by omega,by omega,rfl,rfl⟩
    case round =>
     obtain ⟨m,hm1,hm2,rfl,hm⟩ := hrel
     have HM := Lib.hid hm
     clear hm
     by_cases hc : orderM (p : Int) (m : Int) < (n : Int) /\ m < 8
     . have HMN : Hid (mGo n p (m + 1) (9 - (m + 1)) = mM n p) := by
        show _ = _
        rw [<- HM.out,show 9 - m = (9 - (m + 1)) + 1 by omega,mGo_step hc]
       obtain ⟨hc1,hc2⟩ := hc
       have hc3 : (m : Int) < 8 := by omega
       clear HM
       go_wp2_with (go_at_call 82;refine (qcP (p : Int) (m : Int) _).mono ?_;rintro e w' ⟨rfl,rfl⟩)
       go_round
       case rel => exact ⟨m + 1,by omega,by omega,by go_num,HMN.out⟩
       case measure => simp [intOf];omega
     . have HME : Hid (mM n p = m) := by show _ = _;rw [<- HM.out,mGo_stop hc]
       have HSN : Hid (stdN n = if orderM (p : Int) (m : Int) = (n : Int) then (if m = 1 then ⟨0,p,1,[]⟩ else vGo p m 0 n) else .err 6) := by
        show _ = _
        unfold stdN
        rw [HPE.out,HME.out]
       clear HM
       have hex : (orderM (p : Int) (m : Int) < (n : Int) /\ ¬ (m : Int) < 8) \/ ¬ orderM (p : Int) (m : Int) < (n : Int) := by omega
       clear hc
       have HCO : Hid (∀ W : World,Calls Tryz.prog 82 #[.int .i64 p,.int .i64 m] W fun e w' => e = .returned (.int .i64 (orderM (p : Int) (m : Int))) /\ W = w') := fun W => qcP _ _ W
       generalize orderM (p : Int) (m : Int) = om at *
       by_cases he : om = (n : Int)
       . have h1 : ¬ om < (n : Int) := by omega
         have HS2 : Hid (stdN n = if m = 1 then ⟨0,p,1,[]⟩ else vGo p m 0 n) := by
          show _ = _
          rw [HSN.out,if_pos he]
         subst he
         clear hex h1 HSN
         by_cases h1m : m = 1
         . have HS3 : Hid (stdN n = ⟨0,p,1,[]⟩) := by
            show _ = _
            rw [HS2.out,if_pos h1m]
           have H1M := Lib.hid h1m
           clear h1m
           go_upto_region 11 with (go_at_call 82;refine (HCO.out _).mono ?_;rintro e w' ⟨rfl,rfl⟩)
           have h1i : (m : Int) = 1 := by have := H1M.out;omega
           clear HS2
           have k0 := HX.out.at_ (i := 0) rfl
           have HK0 := Lib.hid k0
           have HKY : Hid ((W.setRow w.heap.size #[.int .i64 p,.int .i64 1,.slice none 0 0]).heap[w.heap.size]? = some (.cells #[.int .i64 p,.int .i64 1,.slice none 0 0] 29 (0,0))) := qaF _ _ _ _ _ k0
           clear k0
           go_wp2_with (first
            | (go_at_call 82;refine (HCO.out _).mono ?_;rintro e w' ⟨rfl,rfl⟩)
            | (refine qaA rfl 29 (.tmp 2) (.tmp 41) rfl W w.heap.size 29 #[.int .i64 0,.int .i64 0,.slice none 0 0] #[.int .i64 p,.int .i64 1,.slice none 0 0] rfl rfl HK0.out fieldSize rfl (by simp [Value.oneCell']) ?_))
           refine bodyPost_ret (qaE (P := Tryz.prog) rfl _ _ w.heap.size 29 #[.int .i64 p,.int .i64 1,.slice none 0 0] (0,0) _ _ rfl rfl HKY.out Tryz.underlying29 rfl fieldSize) rfl ?_
           rw [HS.out,HS3.out]
           exact ⟨⟨none,0,rfl,qdC _ _ _⟩,qaD HX.out.below (Nat.le_refl _) _⟩
         . have HS3 : Hid (stdN n = vGo p m 0 n) := by
            show _ = _
            rw [HS2.out,if_neg h1m]
           have H1M := Lib.hid h1m
           clear h1m
           go_upto_region 11 with (go_at_call 82;refine (HCO.out _).mono ?_;rintro e w' ⟨rfl,rfl⟩)
           have h1i : ((m : Int) == 1) = false := by have := H1M.out;simp;omega
           clear HS2
           go_wp2_with fail
           go_loopg [43] n (fun g v wr => RelV1 w n p m v g wr)
           case atStart => exact ⟨0,by omega,rfl,rfl,HX.out⟩
           case round =>
            obtain ⟨i,hig,rfl,hv,hx⟩ := hrel
            have HV := Lib.hid hv
            have HXR := Lib.hid hx
            clear hv hx HX
            by_cases hi : i < n
            . have hii : (i : Int) < (n : Int) := by omega
              go_wp2_with fail
              refine (qdR i p m wr (by omega) (by omega) (by omega) (by omega)).mono ?_
              rintro e w1 ⟨rfl,hrow,hb1⟩
              have hl1 := hrow.lt
              have hbn : Below w1.heap.size w1 (w1.alloc (.cells #[.int .i64 p,.int .i64 m,.slice (some ⟨wr.heap.size,0,none⟩) m m] 29)) := (Below.refl _ _).alloc (Nat.le_refl _) _
              have HX1 := Lib.hid ((HXR.out.keep hb1).keep hbn)
              have hlen : (nz (digs p m i)).length = m := by rw [qaI,qbB]
              have HLEN := Lib.hid hlen
              have hfc := fcheck_c (p : Int) (m : Int) (nz (digs p m i)) (some ⟨wr.heap.size,0,none⟩) m (w1.alloc (.cells #[.int .i64 p,.int .i64 m,.slice (some ⟨wr.heap.size,0,none⟩) m m] 29)) (((hrow.ints hl1.2).keep hbn).more hbn.size) (by rw [hlen];omega)
              rw [hlen] at hfc
              have HR1 := Lib.hid (((hrow.ints hl1.2).keep hbn).more hbn.size)
              have HW1 : Hid ((w1.alloc (.cells #[.int .i64 p,.int .i64 m,.slice (some ⟨wr.heap.size,0,none⟩) m m] 29)).heap[w1.heap.size]? = some (.cells #[.int .i64 p,.int .i64 m,.slice (some ⟨wr.heap.size,0,none⟩) m m] 29 (0,0))) := heap_alloc_new _ _
              have hsz : w1.heap.size < (w1.alloc (.cells #[.int .i64 p,.int .i64 m,.slice (some ⟨wr.heap.size,0,none⟩) m m] 29)).heap.size := by simp
              have hwr : w.heap.size < wr.heap.size := HXR.out.2.1
              have hw1 : w.heap.size < w1.heap.size := Nat.lt_of_lt_of_le hwr hb1.size
              clear hlen hrow hbn hb1 HXR
              cases hf : fieldOK (p : Int) (m : Int) (nz (digs p m i))
              . have HVN : Hid (vGo p m (i + 1) (n - (i + 1)) = vGo p m 0 n) := by
                 show _ = _
                 rw [<- HV.out,show n - i = (n - (i + 1)) + 1 by omega,vGo_step hf]
                rw [hf] at hfc
                have HFC := Lib.hid hfc
                clear hfc hf HV
                go_wp2_with (first
                 | (refine qaC rfl 29 (.tmp 7) (.tmp 52) rfl w1 _ #[.int .i64 p,.int .i64 m,.slice (some ⟨wr.heap.size,0,none⟩) m m] rfl rfl fieldSize rfl (by simp [Value.oneCell']) ?_;generalize w1.alloc (.cells #[.int .i64 p,.int .i64 m,.slice (some ⟨wr.heap.size,0,none⟩) m m] 29) = w2 at *)
                 | (refine wpList_load_mid rfl 29 (.tmp 7) rfl w1.heap.size 0 rfl [.int .i64 p,.int .i64 m,.slice (some ⟨wr.heap.size,0,none⟩) m m] _ (qaB HW1.out) Tryz.underlying29 rfl fieldSize ?_))
                refine HFC.out.mono ?_
                rintro e w3 ⟨rfl,hb3⟩
                have HX3 := Lib.hid (HX1.out.keep hb3)
                clear hb3 HX1
                rw [show errF false = 1 from rfl]
                go_wp2_with fail
                go_roundg (n - (i + 1))
                case measure => omega
                case rel => exact ⟨i + 1,by omega,by go_num,HVN.out,HX3.out⟩
              . have HVE : Hid (vGo p m 0 n = ⟨0,p,m,nz (digs p m i)⟩) := by
                 show _ = _
                 rw [<- HV.out,show n - i = (n - (i + 1)) + 1 by omega,vGo_stop hf]
                rw [hf] at hfc
                have HFC := Lib.hid hfc
                clear hfc hf HV
                go_wp2_with (first
                 | (refine qaC rfl 29 (.tmp 7) (.tmp 52) rfl w1 _ #[.int .i64 p,.int .i64 m,.slice (some ⟨wr.heap.size,0,none⟩) m m] rfl rfl fieldSize rfl (by simp [Value.oneCell']) ?_;generalize w1.alloc (.cells #[.int .i64 p,.int .i64 m,.slice (some ⟨wr.heap.size,0,none⟩) m m] 29) = w2 at *)
                 | (refine wpList_load_mid rfl 29 (.tmp 7) rfl w1.heap.size 0 rfl [.int .i64 p,.int .i64 m,.slice (some ⟨wr.heap.size,0,none⟩) m m] _ (qaB HW1.out) Tryz.underlying29 rfl fieldSize ?_))
                refine HFC.out.mono ?_
                rintro e w3 ⟨rfl,hb3⟩
                have HX3 := Lib.hid (HX1.out.keep hb3)
                have HR3 := Lib.hid ((HR1.out.keep hb3).more hb3.size)
                have HW3 := Lib.hid ((hb3.block _ hsz).trans HW1.out)
                clear hb3 HX1 HR1 HW1
                rw [show errF true = 0 from rfl]
                have k0 := HX3.out.at_ (i := 0) rfl
                have HK0 := Lib.hid k0
                have HKY : Hid ((w3.setRow w.heap.size #[.int .i64 p,.int .i64 m,.slice (some ⟨wr.heap.size,0,none⟩) m m]).heap[w.heap.size]? = some (.cells #[.int .i64 p,.int .i64 m,.slice (some ⟨wr.heap.size,0,none⟩) m m] 29 (0,0))) := qaF _ _ _ _ _ k0
                clear k0
                go_wp2_with (first
                 | (refine wpList_load_mid rfl 29 (.tmp 7) rfl w1.heap.size 0 rfl [.int .i64 p,.int .i64 m,.slice (some ⟨wr.heap.size,0,none⟩) m m] _ (qaB HW3.out) Tryz.underlying29 rfl fieldSize ?_)
                 | (refine qaA rfl 29 (.tmp 2) (.tmp 56) rfl w3 w.heap.size 29 #[.int .i64 0,.int .i64 0,.slice none 0 0] #[.int .i64 p,.int .i64 m,.slice (some ⟨wr.heap.size,0,none⟩) m m] rfl rfl HK0.out fieldSize rfl (by simp [Value.oneCell']) ?_))
                refine bodyPost_ret (qaE (P := Tryz.prog) rfl _ _ w.heap.size 29 #[.int .i64 p,.int .i64 m,.slice (some ⟨wr.heap.size,0,none⟩) m m] (0,0) _ _ rfl rfl HKY.out Tryz.underlying29 rfl fieldSize) rfl ?_
                rw [HS.out,HS3.out,HVE.out]
                refine ⟨⟨some ⟨wr.heap.size,0,none⟩,m,by show _ = Ending.returned (.tuple #[.agg #[.int .i64 (p : Int),.int .i64 (m : Int),.slice (some ⟨wr.heap.size,0,none⟩) (nz (digs p m i)).length m],.int .i64 0]);rw [HLEN.out];rfl,?_⟩,qaD HX3.out.below (Nat.le_refl _) _⟩
                intro hz
                obtain ⟨b,o,e,hlt,hc⟩ := HR3.out hz
                have hbe : b = wr.heap.size := by
                 injection e with e
                 injection e with e
                 exact e.symm
                have hne : b ≠ w.heap.size := by omega
                refine ⟨b,o,e,by omega,by simpa using hlt,fun j hj => ?_⟩
                have := hc j hj
                unfold World.cell? at this ⊢
                rw [setRow_other _ _ _ _ hne]
                exact this
            . have hii : ¬ (i : Int) < (n : Int) := by omega
              have HVE : Hid (vGo p m 0 n = .err 6) := by
               show _ = _
               rw [<- HV.out,show n - i = 0 by omega]
               rfl
              clear HV
              have k0 := HXR.out.at_ (i := 0) rfl
              have HK0 := Lib.hid k0
              have HKY : Hid ((wr.setRow w.heap.size #[.int .i64 0,.int .i64 0,.slice none 0 0]).heap[w.heap.size]? = some (.cells #[.int .i64 0,.int .i64 0,.slice none 0 0] 29 (0,0))) := qaF _ _ _ _ _ k0
              clear k0
              go_wp2_with (refine qaA rfl 29 (.tmp 2) (.tmp 58) rfl wr w.heap.size 29 #[.int .i64 0,.int .i64 0,.slice none 0 0] #[.int .i64 0,.int .i64 0,.slice none 0 0] rfl rfl HK0.out fieldSize rfl (by simp [Value.oneCell']) ?_)
              refine bodyPost_ret (qaE (P := Tryz.prog) rfl _ _ w.heap.size 29 #[.int .i64 0,.int .i64 0,.slice none 0 0] (0,0) _ _ rfl rfl HKY.out Tryz.underlying29 rfl fieldSize) rfl ?_
              rw [HS.out,HS3.out,HVE.out]
              exact ⟨⟨none,0,rfl,qdC _ _ _⟩,qaD HXR.out.below (Nat.le_refl _) _⟩
       . have HS3 : Hid (stdN n = .err 6) := by
          show _ = _
          rw [HSN.out,if_neg he]
         clear HSN
         rcases hex with ⟨h1,h2⟩ | h1
         . have k0 := HX.out.at_ (i := 0) rfl
           have HK0 := Lib.hid k0
           have HKY : Hid ((W.setRow w.heap.size #[.int .i64 0,.int .i64 0,.slice none 0 0]).heap[w.heap.size]? = some (.cells #[.int .i64 0,.int .i64 0,.slice none 0 0] 29 (0,0))) := qaF _ _ _ _ _ k0
           clear k0
           go_wp2_with (first
            | (go_at_call 82;refine (HCO.out _).mono ?_;rintro e w' ⟨rfl,rfl⟩)
            | (refine qaA rfl 29 (.tmp 2) (.tmp 37) rfl W w.heap.size 29 #[.int .i64 0,.int .i64 0,.slice none 0 0] #[.int .i64 0,.int .i64 0,.slice none 0 0] rfl rfl HK0.out fieldSize rfl (by simp [Value.oneCell']) ?_))
           refine bodyPost_ret (qaE (P := Tryz.prog) rfl _ _ w.heap.size 29 #[.int .i64 0,.int .i64 0,.slice none 0 0] (0,0) _ _ rfl rfl HKY.out Tryz.underlying29 rfl fieldSize) rfl ?_
           rw [HS.out,HS3.out]
           exact ⟨⟨none,0,rfl,qdC _ _ _⟩,qaD HX.out.below (Nat.le_refl _) _⟩
         . have k0 := HX.out.at_ (i := 0) rfl
           have HK0 := Lib.hid k0
           have HKY : Hid ((W.setRow w.heap.size #[.int .i64 0,.int .i64 0,.slice none 0 0]).heap[w.heap.size]? = some (.cells #[.int .i64 0,.int .i64 0,.slice none 0 0] 29 (0,0))) := qaF _ _ _ _ _ k0
           clear k0
           go_wp2_with (first
            | (go_at_call 82;refine (HCO.out _).mono ?_;rintro e w' ⟨rfl,rfl⟩)
            | (refine qaA rfl 29 (.tmp 2) (.tmp 37) rfl W w.heap.size 29 #[.int .i64 0,.int .i64 0,.slice none 0 0] #[.int .i64 0,.int .i64 0,.slice none 0 0] rfl rfl HK0.out fieldSize rfl (by simp [Value.oneCell']) ?_))
           refine bodyPost_ret (qaE (P := Tryz.prog) rfl _ _ w.heap.size 29 #[.int .i64 0,.int .i64 0,.slice none 0 0] (0,0) _ _ rfl rfl HKY.out Tryz.underlying29 rfl fieldSize) rfl ?_
           rw [HS.out,HS3.out]
           exact ⟨⟨none,0,rfl,qdC _ _ _⟩,qaD HX.out.below (Nat.le_refl _) _⟩
  . have HPN : Hid (pGo n (p + 1) (258 - (p + 1)) = pM n) := by
     show _ = _
     rw [<- HP.out,show 258 - p = (258 - (p + 1)) + 1 by omega,pGo_step hd]
    have hdi : ¬ (n : Int) % (p : Int) = 0 := by omega
    have hp0 : ¬ (p : Int) = 0 := by omega
    have hlt : p < n := by
     rcases Nat.lt_or_ge p n with h | h
     . exact h
     . have : p = n := by omega
       subst this
       simp at hd
    clear hd HP
    go_wp2_with fail
    go_round
    case rel => exact ⟨p + 1,by omega,by omega,by go_num,HPN.out⟩
    case measure => simp [intOf];omega
end Go.Proofs.YtaddcadapbpkfaaGreatDoor
