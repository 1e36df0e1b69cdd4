/-
 compile: the four maps of rows.
-/
import Derived.Test.YtaddcadapbpkfaaGreatDoorR17
namespace Go.Proofs.YtaddcadapbpkfaaGreatDoor
open Go.RowKit
open Go.ChangeMaps (setBlock)
theorem underCall : Tryz.prog.underlying 97 = some (.map 9 90) := Tryz.underlying97
theorem underStr : Tryz.prog.underlying 9 = some .string := Tryz.underlying9
structure RowD where
 k : ByteArray
 a : ByteArray
 mid : Nat
 inn : Option (Nat × TypeId)
 low : Nat
 lc : Bool
def rowT : List RowD := [
 ⟨⟨#[122,101,114,111]⟩,⟨#[70,78]⟩,182,some (88,106),89,false⟩,
 ⟨⟨#[119,104,111,108,101]⟩,⟨#[70,78]⟩,182,some (57,106),89,false⟩,
 ⟨⟨#[109,97,116,114,105,120]⟩,⟨#[70,78,76]⟩,91,none,89,false⟩,
 ⟨⟨#[114,101,112]⟩,⟨#[70,78]⟩,182,some (58,106),86,false⟩,
 ⟨⟨#[112,97,114,105,116,121]⟩,⟨#[70,78]⟩,182,some (59,106),92,false⟩,
 ⟨⟨#[104,97,109,109,105,110,103]⟩,⟨#[70,78]⟩,182,some (60,106),93,false⟩,
 ⟨⟨#[115,105,109,112,108,101,120]⟩,⟨#[70,78]⟩,182,some (61,106),94,false⟩,
 ⟨⟨#[114,109]⟩,⟨#[78,78]⟩,97,none,98,false⟩,
 ⟨⟨#[114,101,115,105,100,117,101]⟩,⟨#[78]⟩,99,none,89,false⟩,
 ⟨⟨#[103,111,108,97,121]⟩,⟨#[78]⟩,100,none,89,false⟩,
 ⟨⟨#[99,121,99,108,105,99]⟩,⟨#[70,78,76]⟩,102,none,89,false⟩,
 ⟨⟨#[98,99,104]⟩,⟨#[70,70,78,78,78]⟩,103,none,104,false⟩,
 ⟨⟨#[114,115]⟩,⟨#[70,78,78]⟩,105,none,106,false⟩,
 ⟨⟨#[103,114,115]⟩,⟨#[70,78,76,76]⟩,107,none,108,false⟩,
 ⟨⟨#[97,108,116,101,114,110,97,110,116]⟩,⟨#[70,70,78,76,76]⟩,109,none,110,false⟩,
 ⟨⟨#[103,111,112,112,97]⟩,⟨#[70,70,76,76]⟩,111,some (101,139),112,true⟩,
 ⟨⟨#[100,117,97,108]⟩,⟨#[67]⟩,185,some (115,142),89,false⟩,
 ⟨⟨#[104,117,108,108]⟩,⟨#[67]⟩,185,some (116,142),117,false⟩,
 ⟨⟨#[112,117,110,99,116,117,114,101]⟩,⟨#[67,76]⟩,189,some (119,144),120,false⟩,
 ⟨⟨#[115,104,111,114,116,101,110]⟩,⟨#[67,76]⟩,189,some (121,144),117,false⟩,
 ⟨⟨#[115,117,98,99,111,100,101]⟩,⟨#[67,76]⟩,189,some (122,144),117,false⟩,
 ⟨⟨#[112,101,114,109,117,116,101]⟩,⟨#[67,76]⟩,189,some (123,144),117,false⟩,
 ⟨⟨#[101,120,112,117,114,103,97,116,101]⟩,⟨#[67]⟩,185,some (124,142),117,false⟩,
 ⟨⟨#[97,117,103,109,101,110,116]⟩,⟨#[67]⟩,185,some (125,142),89,false⟩,
 ⟨⟨#[101,120,116,101,110,100]⟩,⟨#[67]⟩,185,some (126,142),127,false⟩,
 ⟨⟨#[115,117,98,102,105,101,108,100]⟩,⟨#[67,70]⟩,202,some (129,146),117,false⟩,
 ⟨⟨#[116,114,97,99,101]⟩,⟨#[67,70]⟩,202,some (130,146),89,false⟩,
 ⟨⟨#[108,105,102,116]⟩,⟨#[67,70]⟩,202,some (131,146),117,false⟩,
 ⟨⟨#[105,110,116,101,114,108,101,97,118,101]⟩,⟨#[67,78]⟩,132,none,117,false⟩,
 ⟨⟨#[106,111,105,110]⟩,⟨#[67,67]⟩,206,some (136,149),89,false⟩,
 ⟨⟨#[109,101,101,116]⟩,⟨#[67,67]⟩,206,some (137,149),138,false⟩,
 ⟨⟨#[115,117,109]⟩,⟨#[67,67]⟩,206,some (139,149),140,false⟩,
 ⟨⟨#[112,108,111,116,107,105,110]⟩,⟨#[67,67]⟩,206,some (142,149),143,false⟩,
 ⟨⟨#[106,117,120,116,97,112,111,115,101]⟩,⟨#[67,67]⟩,206,some (144,149),89,false⟩,
 ⟨⟨#[112,114,111,100,117,99,116]⟩,⟨#[67,67]⟩,206,some (145,149),134,false⟩,
 ⟨⟨#[99,111,110,99,97,116]⟩,⟨#[67,67,76]⟩,146,none,134,false⟩,
 ⟨⟨#[120]⟩,⟨#[67,67,67]⟩,148,none,89,false⟩]
def CapOf (w : World) (cs : Array Value) : Option (Nat × TypeId) -> Prop
 | none => cs = #[]
 | some (f,t) => ∃ b1,cs = #[.pointer (some ⟨b1,0,none⟩)] /\ Cap w b1 (.func (.func f) #[] #[]) t
def RowAs (w : World) (d : RowD) (v : Value) : Prop :=
 ∃ (b : Nat) (cs : Array Value),v = .agg #[.string d.a,.func (.func 183) #[] #[.pointer (some ⟨b,0,none⟩)],.func (.func d.low) #[] (if d.lc = true then cs else #[])] /\ Cap w b (.func (.func d.mid) #[] cs) 134 /\ CapOf w cs d.inn
def RowV (w : World) (k : ByteArray) (v : Value) : Prop := ∃ (i : Nat) (d : RowD),rowT[i]? = some d /\ d.k = k /\ RowAs w d v
theorem CapOf.turn {w w' : World} {cs : Array Value} {o : Option (Nat × TypeId)} (h : CapOf w cs o) (hc : ∀ b x t,Cap w b x t -> Cap w' b x t) : CapOf w' cs o := by
 cases o with
 | none => exact h
 | some p =>
   obtain ⟨b1,e,c⟩ := h
   exact ⟨b1,e,hc _ _ _ c⟩
theorem RowV.turn {w w' : World} {k : ByteArray} {v : Value} (h : RowV w k v) (hc : ∀ b x t,Cap w b x t -> Cap w' b x t) : RowV w' k v := by
 obtain ⟨i,d,e1,e2,b,cs,e3,c1,c2⟩ := h
 exact ⟨i,d,e1,e2,b,cs,e3,hc _ _ _ c1,c2.turn hc⟩
theorem RowV.keep {w w' : World} {k : ByteArray} {v : Value} (h : RowV w k v) (hb : Below w.heap.size w w') : RowV w' k v := h.turn fun _ _ _ c => c.keep hb
def MR (w : World) (mb : Nat) (ks : List ByteArray) : Prop := ∃ M,MapL w mb M /\ M.map (·.1) = ks /\ ∀ kv ∈ M,RowV w kv.1 kv.2
theorem MapL.not_cap {w : World} {mb : Nat} {M : List (ByteArray × Value)} (h : MapL w mb M) {b : Nat} {x : Value} {t : TypeId} (hc : Cap w b x t) : b ≠ mb := by
 obtain ⟨es,clock,hb,_⟩ := h
 intro e
 subst e
 have := hb.symm.trans hc
 simp at this
theorem MR.keep {w w' : World} {mb : Nat} {ks : List ByteArray} (h : MR w mb ks) (hb : Below w.heap.size w w') : MR w' mb ks := by
 obtain ⟨M,h1,h2,h3⟩ := h
 exact ⟨M,h1.keep (hb.block _ h1.lt),h2,fun kv hkv => (h3 kv hkv).keep hb⟩
theorem MR.new (w : World) : MR (w.alloc (.map #[] 0)) w.heap.size [] := ⟨[],MapL.new w 0,rfl,fun kv h => by cases h⟩
theorem MR.lt {w : World} {mb : Nat} {ks : List ByteArray} (h : MR w mb ks) : mb < w.heap.size := by
 obtain ⟨M,h1,_⟩ := h
 exact h1.lt
theorem qaH {ops : Array Oper} {rest : List Oper} {o : Oper} {a : Act} {w : World} {Q : Exit -> Act -> World -> Prop} (hgd : o.guard = none) (m k x : Operand) (ho : o.op = .insert 97 m k x) (B mb : Nat) (ks : List ByteArray) (kb : ByteArray) (v : Value)
 (e1 : a.eval m = .map (some mb)) (e2 : a.eval k = .string kb) (e3 : a.eval x = v) (hM : MR w mb ks) (hB : B <= mb) (hk : kb ∉ ks) (hv : RowV w kb v)
 (h : ∀ W,MR W mb (ks ++ [kb]) -> Below B w W -> wpList Tryz.prog ops Q rest (a.put o.dst undef) W) : wpList Tryz.prog ops Q (o :: rest) a w := by
 obtain ⟨M,h1,h2,h3⟩ := hM
 refine qcV hgd 97 _ _ m k x (.inl ho) underCall underStr mb kb v M e1 e2 e3 h1 fun o' hM' => ?_
 have hcap : ∀ b x t,Cap w b x t -> Cap (setBlock w mb o') b x t := fun b x t hc => (qcD w mb o' b (h1.not_cap hc)).trans hc
 have hn : lookL M kb = none := lookL_none.2 (by rw [h2];exact hk)
 have hp : putL M kb v = M ++ [(kb,v)] := by unfold putL;rw [hn];rfl
 rw [hp] at hM'
 refine h _ ⟨_,hM',by simp [h2],fun kv hkv => ?_⟩ (qfD (Below.refl _ _) hB o')
 rcases List.mem_append.1 hkv with hm | hm
 . exact (h3 kv hm).turn hcap
 . simp at hm
   subst hm
   exact hv.turn hcap
set_option maxHeartbeats 4000000 in
set_option maxRecDepth 100000 in
theorem families_c (w : World) : Calls Tryz.prog 50 #[] w fun e w' => (∃ mb,e = .returned (.map (some mb)) /\ w.heap.size <= mb /\ MR w' mb (famN.map fun l => ⟨l.toArray⟩)) /\ Below w.heap.size w w' := by
 have hmf : ∀ (fn : Fn) (first cap : Array Value) (w : World),(Instr.makeFunc fn first cap).run Tryz.prog w = .ok (.func fn first cap) w := fun _ _ _ _ => rfl
 have hmm := @run_makeMap Tryz.prog
 have HB0 : Hid (Below w.heap.size w (w.alloc (.map #[] 0))) := (Below.refl _ _).alloc (Nat.le_refl _) _
 have HM0 := Lib.hid (MR.new w)
 have hmb : w.heap.size <= w.heap.size := Nat.le_refl _
 go_enter Tryz.func50,Tryz.ntmps50
 go_wp2_with fail
 generalize w.alloc (.map #[] 0) = W0 at *
 refine (sized_c (.func 88) #[] #[] (.func 89) #[] #[] W0).mono ?_
 rintro e V0 ⟨⟨b,b1,rfl,hc,hc1⟩,hb⟩
 have HR0 : Hid (RowV V0 ⟨#[122,101,114,111]⟩ (.agg #[.string ⟨#[70,78]⟩,.func (.func 183) #[] #[.pointer (some ⟨b,0,none⟩)],.func (.func 89) #[] #[]])) := ⟨0,_,rfl,rfl,b,_,rfl,hc,b1,rfl,hc1⟩
 have HN0 := Lib.hid (HM0.out.keep hb)
 have HC0 := Lib.hid (HB0.out.trans (hb.mono HB0.out.size))
 have hno : (⟨#[122,101,114,111]⟩ : ByteArray) ∉ ([] : List ByteArray) := by simp
 clear hb hc hc1 HM0 HB0
 go_wp2_with (refine qaH rfl (.tmp 2) (.const (.string ⟨#[122,101,114,111]⟩)) (.tmp 3) rfl w.heap.size w.heap.size [] ⟨#[122,101,114,111]⟩ (.agg #[.string ⟨#[70,78]⟩,.func (.func 183) #[] #[.pointer (some ⟨b,0,none⟩)],.func (.func 89) #[] #[]]) rfl rfl rfl HN0.out hmb hno HR0.out ?_;intro W1 hm1 hb1)
 have HM1 := Lib.hid hm1
 have HB1 := Lib.hid (HC0.out.trans hb1)
 clear hm1 hb1 hno HN0 HC0 HR0
 refine (sized_c (.func 57) #[] #[] (.func 89) #[] #[] W1).mono ?_
 rintro e V1 ⟨⟨b,b1,rfl,hc,hc1⟩,hb⟩
 have HR1 : Hid (RowV V1 ⟨#[119,104,111,108,101]⟩ (.agg #[.string ⟨#[70,78]⟩,.func (.func 183) #[] #[.pointer (some ⟨b,0,none⟩)],.func (.func 89) #[] #[]])) := ⟨1,_,rfl,rfl,b,_,rfl,hc,b1,rfl,hc1⟩
 have HN1 := Lib.hid (HM1.out.keep hb)
 have HC1 := Lib.hid (HB1.out.trans (hb.mono HB1.out.size))
 have hno : (⟨#[119,104,111,108,101]⟩ : ByteArray) ∉ ([(⟨#[122,101,114,111]⟩ : ByteArray)] : List ByteArray) := by simp
 clear hb hc hc1 HM1 HB1
 go_wp2_with (refine qaH rfl (.tmp 2) (.const (.string ⟨#[119,104,111,108,101]⟩)) (.tmp 4) rfl w.heap.size w.heap.size [(⟨#[122,101,114,111]⟩ : ByteArray)] ⟨#[119,104,111,108,101]⟩ (.agg #[.string ⟨#[70,78]⟩,.func (.func 183) #[] #[.pointer (some ⟨b,0,none⟩)],.func (.func 89) #[] #[]]) rfl rfl rfl HN1.out hmb hno HR1.out ?_;intro W2 hm1 hb1)
 have HM2 := Lib.hid hm1
 have HB2 := Lib.hid (HC1.out.trans hb1)
 clear hm1 hb1 hno HN1 HC1 HR1
 refine (qaW ⟨#[70,78,76]⟩ (.func 91) #[] #[] (.func 89) #[] #[] W2).mono ?_
 rintro e V2 ⟨⟨b,rfl,hc⟩,hb⟩
 have HR2 : Hid (RowV V2 ⟨#[109,97,116,114,105,120]⟩ (.agg #[.string ⟨#[70,78,76]⟩,.func (.func 183) #[] #[.pointer (some ⟨b,0,none⟩)],.func (.func 89) #[] #[]])) := ⟨2,_,rfl,rfl,b,#[],rfl,hc,rfl⟩
 have HN2 := Lib.hid (HM2.out.keep hb)
 have HC2 := Lib.hid (HB2.out.trans (hb.mono HB2.out.size))
 have hno : (⟨#[109,97,116,114,105,120]⟩ : ByteArray) ∉ ([(⟨#[122,101,114,111]⟩ : ByteArray),(⟨#[119,104,111,108,101]⟩ : ByteArray)] : List ByteArray) := by simp
 clear hb hc HM2 HB2
 go_wp2_with (refine qaH rfl (.tmp 2) (.const (.string ⟨#[109,97,116,114,105,120]⟩)) (.tmp 5) rfl w.heap.size w.heap.size [(⟨#[122,101,114,111]⟩ : ByteArray),(⟨#[119,104,111,108,101]⟩ : ByteArray)] ⟨#[109,97,116,114,105,120]⟩ (.agg #[.string ⟨#[70,78,76]⟩,.func (.func 183) #[] #[.pointer (some ⟨b,0,none⟩)],.func (.func 89) #[] #[]]) rfl rfl rfl HN2.out hmb hno HR2.out ?_;intro W3 hm1 hb1)
 have HM3 := Lib.hid hm1
 have HB3 := Lib.hid (HC2.out.trans hb1)
 clear hm1 hb1 hno HN2 HC2 HR2
 refine (sized_c (.func 58) #[] #[] (.func 86) #[] #[] W3).mono ?_
 rintro e V3 ⟨⟨b,b1,rfl,hc,hc1⟩,hb⟩
 have HR3 : Hid (RowV V3 ⟨#[114,101,112]⟩ (.agg #[.string ⟨#[70,78]⟩,.func (.func 183) #[] #[.pointer (some ⟨b,0,none⟩)],.func (.func 86) #[] #[]])) := ⟨3,_,rfl,rfl,b,_,rfl,hc,b1,rfl,hc1⟩
 have HN3 := Lib.hid (HM3.out.keep hb)
 have HC3 := Lib.hid (HB3.out.trans (hb.mono HB3.out.size))
 have hno : (⟨#[114,101,112]⟩ : ByteArray) ∉ ([(⟨#[122,101,114,111]⟩ : ByteArray),(⟨#[119,104,111,108,101]⟩ : ByteArray),(⟨#[109,97,116,114,105,120]⟩ : ByteArray)] : List ByteArray) := by simp
 clear hb hc hc1 HM3 HB3
 go_wp2_with (refine qaH rfl (.tmp 2) (.const (.string ⟨#[114,101,112]⟩)) (.tmp 7) rfl w.heap.size w.heap.size [(⟨#[122,101,114,111]⟩ : ByteArray),(⟨#[119,104,111,108,101]⟩ : ByteArray),(⟨#[109,97,116,114,105,120]⟩ : ByteArray)] ⟨#[114,101,112]⟩ (.agg #[.string ⟨#[70,78]⟩,.func (.func 183) #[] #[.pointer (some ⟨b,0,none⟩)],.func (.func 86) #[] #[]]) rfl rfl rfl HN3.out hmb hno HR3.out ?_;intro W4 hm1 hb1)
 have HM4 := Lib.hid hm1
 have HB4 := Lib.hid (HC3.out.trans hb1)
 clear hm1 hb1 hno HN3 HC3 HR3
 refine (sized_c (.func 59) #[] #[] (.func 92) #[] #[] W4).mono ?_
 rintro e V4 ⟨⟨b,b1,rfl,hc,hc1⟩,hb⟩
 have HR4 : Hid (RowV V4 ⟨#[112,97,114,105,116,121]⟩ (.agg #[.string ⟨#[70,78]⟩,.func (.func 183) #[] #[.pointer (some ⟨b,0,none⟩)],.func (.func 92) #[] #[]])) := ⟨4,_,rfl,rfl,b,_,rfl,hc,b1,rfl,hc1⟩
 have HN4 := Lib.hid (HM4.out.keep hb)
 have HC4 := Lib.hid (HB4.out.trans (hb.mono HB4.out.size))
 have hno : (⟨#[112,97,114,105,116,121]⟩ : ByteArray) ∉ ([(⟨#[122,101,114,111]⟩ : ByteArray),(⟨#[119,104,111,108,101]⟩ : ByteArray),(⟨#[109,97,116,114,105,120]⟩ : ByteArray),(⟨#[114,101,112]⟩ : ByteArray)] : List ByteArray) := by simp
 clear hb hc hc1 HM4 HB4
 go_wp2_with (refine qaH rfl (.tmp 2) (.const (.string ⟨#[112,97,114,105,116,121]⟩)) (.tmp 8) rfl w.heap.size w.heap.size [(⟨#[122,101,114,111]⟩ : ByteArray),(⟨#[119,104,111,108,101]⟩ : ByteArray),(⟨#[109,97,116,114,105,120]⟩ : ByteArray),(⟨#[114,101,112]⟩ : ByteArray)] ⟨#[112,97,114,105,116,121]⟩ (.agg #[.string ⟨#[70,78]⟩,.func (.func 183) #[] #[.pointer (some ⟨b,0,none⟩)],.func (.func 92) #[] #[]]) rfl rfl rfl HN4.out hmb hno HR4.out ?_;intro W5 hm1 hb1)
 have HM5 := Lib.hid hm1
 have HB5 := Lib.hid (HC4.out.trans hb1)
 clear hm1 hb1 hno HN4 HC4 HR4
 refine (sized_c (.func 60) #[] #[] (.func 93) #[] #[] W5).mono ?_
 rintro e V5 ⟨⟨b,b1,rfl,hc,hc1⟩,hb⟩
 have HR5 : Hid (RowV V5 ⟨#[104,97,109,109,105,110,103]⟩ (.agg #[.string ⟨#[70,78]⟩,.func (.func 183) #[] #[.pointer (some ⟨b,0,none⟩)],.func (.func 93) #[] #[]])) := ⟨5,_,rfl,rfl,b,_,rfl,hc,b1,rfl,hc1⟩
 have HN5 := Lib.hid (HM5.out.keep hb)
 have HC5 := Lib.hid (HB5.out.trans (hb.mono HB5.out.size))
 have hno : (⟨#[104,97,109,109,105,110,103]⟩ : ByteArray) ∉ ([(⟨#[122,101,114,111]⟩ : ByteArray),(⟨#[119,104,111,108,101]⟩ : ByteArray),(⟨#[109,97,116,114,105,120]⟩ : ByteArray),(⟨#[114,101,112]⟩ : ByteArray),(⟨#[112,97,114,105,116,121]⟩ : ByteArray)] : List ByteArray) := by simp
 clear hb hc hc1 HM5 HB5
 go_wp2_with (refine qaH rfl (.tmp 2) (.const (.string ⟨#[104,97,109,109,105,110,103]⟩)) (.tmp 9) rfl w.heap.size w.heap.size [(⟨#[122,101,114,111]⟩ : ByteArray),(⟨#[119,104,111,108,101]⟩ : ByteArray),(⟨#[109,97,116,114,105,120]⟩ : ByteArray),(⟨#[114,101,112]⟩ : ByteArray),(⟨#[112,97,114,105,116,121]⟩ : ByteArray)] ⟨#[104,97,109,109,105,110,103]⟩ (.agg #[.string ⟨#[70,78]⟩,.func (.func 183) #[] #[.pointer (some ⟨b,0,none⟩)],.func (.func 93) #[] #[]]) rfl rfl rfl HN5.out hmb hno HR5.out ?_;intro W6 hm1 hb1)
 have HM6 := Lib.hid hm1
 have HB6 := Lib.hid (HC5.out.trans hb1)
 clear hm1 hb1 hno HN5 HC5 HR5
 refine (sized_c (.func 61) #[] #[] (.func 94) #[] #[] W6).mono ?_
 rintro e V6 ⟨⟨b,b1,rfl,hc,hc1⟩,hb⟩
 have HR6 : Hid (RowV V6 ⟨#[115,105,109,112,108,101,120]⟩ (.agg #[.string ⟨#[70,78]⟩,.func (.func 183) #[] #[.pointer (some ⟨b,0,none⟩)],.func (.func 94) #[] #[]])) := ⟨6,_,rfl,rfl,b,_,rfl,hc,b1,rfl,hc1⟩
 have HN6 := Lib.hid (HM6.out.keep hb)
 have HC6 := Lib.hid (HB6.out.trans (hb.mono HB6.out.size))
 have hno : (⟨#[115,105,109,112,108,101,120]⟩ : ByteArray) ∉ ([(⟨#[122,101,114,111]⟩ : ByteArray),(⟨#[119,104,111,108,101]⟩ : ByteArray),(⟨#[109,97,116,114,105,120]⟩ : ByteArray),(⟨#[114,101,112]⟩ : ByteArray),(⟨#[112,97,114,105,116,121]⟩ : ByteArray),(⟨#[104,97,109,109,105,110,103]⟩ : ByteArray)] : List ByteArray) := by simp
 clear hb hc hc1 HM6 HB6
 go_wp2_with (refine qaH rfl (.tmp 2) (.const (.string ⟨#[115,105,109,112,108,101,120]⟩)) (.tmp 10) rfl w.heap.size w.heap.size [(⟨#[122,101,114,111]⟩ : ByteArray),(⟨#[119,104,111,108,101]⟩ : ByteArray),(⟨#[109,97,116,114,105,120]⟩ : ByteArray),(⟨#[114,101,112]⟩ : ByteArray),(⟨#[112,97,114,105,116,121]⟩ : ByteArray),(⟨#[104,97,109,109,105,110,103]⟩ : ByteArray)] ⟨#[115,105,109,112,108,101,120]⟩ (.agg #[.string ⟨#[70,78]⟩,.func (.func 183) #[] #[.pointer (some ⟨b,0,none⟩)],.func (.func 94) #[] #[]]) rfl rfl rfl HN6.out hmb hno HR6.out ?_;intro W7 hm1 hb1)
 have HM7 := Lib.hid hm1
 have HB7 := Lib.hid (HC6.out.trans hb1)
 clear hm1 hb1 hno HN6 HC6 HR6
 refine (qaW ⟨#[78,78]⟩ (.func 97) #[] #[] (.func 98) #[] #[] W7).mono ?_
 rintro e V7 ⟨⟨b,rfl,hc⟩,hb⟩
 have HR7 : Hid (RowV V7 ⟨#[114,109]⟩ (.agg #[.string ⟨#[78,78]⟩,.func (.func 183) #[] #[.pointer (some ⟨b,0,none⟩)],.func (.func 98) #[] #[]])) := ⟨7,_,rfl,rfl,b,#[],rfl,hc,rfl⟩
 have HN7 := Lib.hid (HM7.out.keep hb)
 have HC7 := Lib.hid (HB7.out.trans (hb.mono HB7.out.size))
 have hno : (⟨#[114,109]⟩ : ByteArray) ∉ ([(⟨#[122,101,114,111]⟩ : ByteArray),(⟨#[119,104,111,108,101]⟩ : ByteArray),(⟨#[109,97,116,114,105,120]⟩ : ByteArray),(⟨#[114,101,112]⟩ : ByteArray),(⟨#[112,97,114,105,116,121]⟩ : ByteArray),(⟨#[104,97,109,109,105,110,103]⟩ : ByteArray),(⟨#[115,105,109,112,108,101,120]⟩ : ByteArray)] : List ByteArray) := by simp
 clear hb hc HM7 HB7
 go_wp2_with (refine qaH rfl (.tmp 2) (.const (.string ⟨#[114,109]⟩)) (.tmp 11) rfl w.heap.size w.heap.size [(⟨#[122,101,114,111]⟩ : ByteArray),(⟨#[119,104,111,108,101]⟩ : ByteArray),(⟨#[109,97,116,114,105,120]⟩ : ByteArray),(⟨#[114,101,112]⟩ : ByteArray),(⟨#[112,97,114,105,116,121]⟩ : ByteArray),(⟨#[104,97,109,109,105,110,103]⟩ : ByteArray),(⟨#[115,105,109,112,108,101,120]⟩ : ByteArray)] ⟨#[114,109]⟩ (.agg #[.string ⟨#[78,78]⟩,.func (.func 183) #[] #[.pointer (some ⟨b,0,none⟩)],.func (.func 98) #[] #[]]) rfl rfl rfl HN7.out hmb hno HR7.out ?_;intro W8 hm1 hb1)
 have HM8 := Lib.hid hm1
 have HB8 := Lib.hid (HC7.out.trans hb1)
 clear hm1 hb1 hno HN7 HC7 HR7
 refine (qaW ⟨#[78]⟩ (.func 99) #[] #[] (.func 89) #[] #[] W8).mono ?_
 rintro e V8 ⟨⟨b,rfl,hc⟩,hb⟩
 have HR8 : Hid (RowV V8 ⟨#[114,101,115,105,100,117,101]⟩ (.agg #[.string ⟨#[78]⟩,.func (.func 183) #[] #[.pointer (some ⟨b,0,none⟩)],.func (.func 89) #[] #[]])) := ⟨8,_,rfl,rfl,b,#[],rfl,hc,rfl⟩
 have HN8 := Lib.hid (HM8.out.keep hb)
 have HC8 := Lib.hid (HB8.out.trans (hb.mono HB8.out.size))
 have hno : (⟨#[114,101,115,105,100,117,101]⟩ : ByteArray) ∉ ([(⟨#[122,101,114,111]⟩ : ByteArray),(⟨#[119,104,111,108,101]⟩ : ByteArray),(⟨#[109,97,116,114,105,120]⟩ : ByteArray),(⟨#[114,101,112]⟩ : ByteArray),(⟨#[112,97,114,105,116,121]⟩ : ByteArray),(⟨#[104,97,109,109,105,110,103]⟩ : ByteArray),(⟨#[115,105,109,112,108,101,120]⟩ : ByteArray),(⟨#[114,109]⟩ : ByteArray)] : List ByteArray) := by simp
 clear hb hc HM8 HB8
 go_wp2_with (refine qaH rfl (.tmp 2) (.const (.string ⟨#[114,101,115,105,100,117,101]⟩)) (.tmp 12) rfl w.heap.size w.heap.size [(⟨#[122,101,114,111]⟩ : ByteArray),(⟨#[119,104,111,108,101]⟩ : ByteArray),(⟨#[109,97,116,114,105,120]⟩ : ByteArray),(⟨#[114,101,112]⟩ : ByteArray),(⟨#[112,97,114,105,116,121]⟩ : ByteArray),(⟨#[104,97,109,109,105,110,103]⟩ : ByteArray),(⟨#[115,105,109,112,108,101,120]⟩ : ByteArray),(⟨#[114,109]⟩ : ByteArray)] ⟨#[114,101,115,105,100,117,101]⟩ (.agg #[.string ⟨#[78]⟩,.func (.func 183) #[] #[.pointer (some ⟨b,0,none⟩)],.func (.func 89) #[] #[]]) rfl rfl rfl HN8.out hmb hno HR8.out ?_;intro W9 hm1 hb1)
 have HM9 := Lib.hid hm1
 have HB9 := Lib.hid (HC8.out.trans hb1)
 clear hm1 hb1 hno HN8 HC8 HR8
 refine (qaW ⟨#[78]⟩ (.func 100) #[] #[] (.func 89) #[] #[] W9).mono ?_
 rintro e V9 ⟨⟨b,rfl,hc⟩,hb⟩
 have HR9 : Hid (RowV V9 ⟨#[103,111,108,97,121]⟩ (.agg #[.string ⟨#[78]⟩,.func (.func 183) #[] #[.pointer (some ⟨b,0,none⟩)],.func (.func 89) #[] #[]])) := ⟨9,_,rfl,rfl,b,#[],rfl,hc,rfl⟩
 have HN9 := Lib.hid (HM9.out.keep hb)
 have HC9 := Lib.hid (HB9.out.trans (hb.mono HB9.out.size))
 have hno : (⟨#[103,111,108,97,121]⟩ : ByteArray) ∉ ([(⟨#[122,101,114,111]⟩ : ByteArray),(⟨#[119,104,111,108,101]⟩ : ByteArray),(⟨#[109,97,116,114,105,120]⟩ : ByteArray),(⟨#[114,101,112]⟩ : ByteArray),(⟨#[112,97,114,105,116,121]⟩ : ByteArray),(⟨#[104,97,109,109,105,110,103]⟩ : ByteArray),(⟨#[115,105,109,112,108,101,120]⟩ : ByteArray),(⟨#[114,109]⟩ : ByteArray),(⟨#[114,101,115,105,100,117,101]⟩ : ByteArray)] : List ByteArray) := by simp
 clear hb hc HM9 HB9
 go_wp2_with (refine qaH rfl (.tmp 2) (.const (.string ⟨#[103,111,108,97,121]⟩)) (.tmp 13) rfl w.heap.size w.heap.size [(⟨#[122,101,114,111]⟩ : ByteArray),(⟨#[119,104,111,108,101]⟩ : ByteArray),(⟨#[109,97,116,114,105,120]⟩ : ByteArray),(⟨#[114,101,112]⟩ : ByteArray),(⟨#[112,97,114,105,116,121]⟩ : ByteArray),(⟨#[104,97,109,109,105,110,103]⟩ : ByteArray),(⟨#[115,105,109,112,108,101,120]⟩ : ByteArray),(⟨#[114,109]⟩ : ByteArray),(⟨#[114,101,115,105,100,117,101]⟩ : ByteArray)] ⟨#[103,111,108,97,121]⟩ (.agg #[.string ⟨#[78]⟩,.func (.func 183) #[] #[.pointer (some ⟨b,0,none⟩)],.func (.func 89) #[] #[]]) rfl rfl rfl HN9.out hmb hno HR9.out ?_;intro W10 hm1 hb1)
 have HM10 := Lib.hid hm1
 have HB10 := Lib.hid (HC9.out.trans hb1)
 clear hm1 hb1 hno HN9 HC9 HR9
 go_ret
 exact ⟨⟨_,rfl,hmb,HM10.out⟩,HB10.out⟩
set_option maxHeartbeats 4000000 in
set_option maxRecDepth 100000 in
theorem algebraic_c (w : World) : Calls Tryz.prog 51 #[] w fun e w' => (∃ mb,e = .returned (.map (some mb)) /\ w.heap.size <= mb /\ MR w' mb (algN.map fun l => ⟨l.toArray⟩)) /\ Below w.heap.size w w' := by
 have hmf : ∀ (fn : Fn) (first cap : Array Value) (w : World),(Instr.makeFunc fn first cap).run Tryz.prog w = .ok (.func fn first cap) w := fun _ _ _ _ => rfl
 have hmm := @run_makeMap Tryz.prog
 have HG0 : Hid (Below w.heap.size w (w.alloc (.cells #[.func (.func 101) #[] #[]] 139))) := (Below.refl _ _).alloc (Nat.le_refl _) _
 have hst : ∀ (fn : Fn) (f c : Array Value) (a : Addr) (W : World),(store a (.func fn f c)).run Tryz.prog W = stored Tryz.prog W a (.func fn f c) .plain := fun _ _ _ _ _ => run_store _ _ _ _ _ rfl
 go_enter Tryz.func51,Tryz.ntmps51
 have HG1 : Hid (Cap (w.alloc (.cells #[.func (.func 101) #[] #[]] 139)) w.heap.size (.func (.func 101) #[] #[]) 139) := heap_alloc_new _ _
 go_upto_region 2 with fail
 generalize w.alloc (.cells #[.func (.func 101) #[] #[]] 139) = w0 at *
 have HB0 : Hid (Below w0.heap.size w0 (w0.alloc (.map #[] 0))) := (Below.refl _ _).alloc (Nat.le_refl _) _
 have HM0 := Lib.hid (MR.new w0)
 have hmb : w0.heap.size <= w0.heap.size := Nat.le_refl _
 have hmw : w.heap.size <= w0.heap.size := HG0.out.size
 go_wp2_with fail
 generalize w0.alloc (.map #[] 0) = W0 at *
 refine (qaW ⟨#[70,78,76]⟩ (.func 102) #[] #[] (.func 89) #[] #[] W0).mono ?_
 rintro e V0 ⟨⟨b,rfl,hc⟩,hb⟩
 have HR0 : Hid (RowV V0 ⟨#[99,121,99,108,105,99]⟩ (.agg #[.string ⟨#[70,78,76]⟩,.func (.func 183) #[] #[.pointer (some ⟨b,0,none⟩)],.func (.func 89) #[] #[]])) := ⟨10,_,rfl,rfl,b,#[],rfl,hc,rfl⟩
 have HN0 := Lib.hid (HM0.out.keep hb)
 have HC0 := Lib.hid (HB0.out.trans (hb.mono HB0.out.size))
 have hno : (⟨#[99,121,99,108,105,99]⟩ : ByteArray) ∉ ([] : List ByteArray) := by simp
 clear hb hc HM0 HB0
 go_wp2_with (refine qaH rfl (.tmp 2) (.const (.string ⟨#[99,121,99,108,105,99]⟩)) (.tmp 3) rfl w0.heap.size w0.heap.size [] ⟨#[99,121,99,108,105,99]⟩ (.agg #[.string ⟨#[70,78,76]⟩,.func (.func 183) #[] #[.pointer (some ⟨b,0,none⟩)],.func (.func 89) #[] #[]]) rfl rfl rfl HN0.out hmb hno HR0.out ?_;intro W1 hm1 hb1)
 have HM1 := Lib.hid hm1
 have HB1 := Lib.hid (HC0.out.trans hb1)
 clear hm1 hb1 hno HN0 HC0 HR0
 refine (qaW ⟨#[70,70,78,78,78]⟩ (.func 103) #[] #[] (.func 104) #[] #[] W1).mono ?_
 rintro e V1 ⟨⟨b,rfl,hc⟩,hb⟩
 have HR1 : Hid (RowV V1 ⟨#[98,99,104]⟩ (.agg #[.string ⟨#[70,70,78,78,78]⟩,.func (.func 183) #[] #[.pointer (some ⟨b,0,none⟩)],.func (.func 104) #[] #[]])) := ⟨11,_,rfl,rfl,b,#[],rfl,hc,rfl⟩
 have HN1 := Lib.hid (HM1.out.keep hb)
 have HC1 := Lib.hid (HB1.out.trans (hb.mono HB1.out.size))
 have hno : (⟨#[98,99,104]⟩ : ByteArray) ∉ ([(⟨#[99,121,99,108,105,99]⟩ : ByteArray)] : List ByteArray) := by simp
 clear hb hc HM1 HB1
 go_wp2_with (refine qaH rfl (.tmp 2) (.const (.string ⟨#[98,99,104]⟩)) (.tmp 4) rfl w0.heap.size w0.heap.size [(⟨#[99,121,99,108,105,99]⟩ : ByteArray)] ⟨#[98,99,104]⟩ (.agg #[.string ⟨#[70,70,78,78,78]⟩,.func (.func 183) #[] #[.pointer (some ⟨b,0,none⟩)],.func (.func 104) #[] #[]]) rfl rfl rfl HN1.out hmb hno HR1.out ?_;intro W2 hm1 hb1)
 have HM2 := Lib.hid hm1
 have HB2 := Lib.hid (HC1.out.trans hb1)
 clear hm1 hb1 hno HN1 HC1 HR1
 refine (qaW ⟨#[70,78,78]⟩ (.func 105) #[] #[] (.func 106) #[] #[] W2).mono ?_
 rintro e V2 ⟨⟨b,rfl,hc⟩,hb⟩
 have HR2 : Hid (RowV V2 ⟨#[114,115]⟩ (.agg #[.string ⟨#[70,78,78]⟩,.func (.func 183) #[] #[.pointer (some ⟨b,0,none⟩)],.func (.func 106) #[] #[]])) := ⟨12,_,rfl,rfl,b,#[],rfl,hc,rfl⟩
 have HN2 := Lib.hid (HM2.out.keep hb)
 have HC2 := Lib.hid (HB2.out.trans (hb.mono HB2.out.size))
 have hno : (⟨#[114,115]⟩ : ByteArray) ∉ ([(⟨#[99,121,99,108,105,99]⟩ : ByteArray),(⟨#[98,99,104]⟩ : ByteArray)] : List ByteArray) := by simp
 clear hb hc HM2 HB2
 go_wp2_with (refine qaH rfl (.tmp 2) (.const (.string ⟨#[114,115]⟩)) (.tmp 5) rfl w0.heap.size w0.heap.size [(⟨#[99,121,99,108,105,99]⟩ : ByteArray),(⟨#[98,99,104]⟩ : ByteArray)] ⟨#[114,115]⟩ (.agg #[.string ⟨#[70,78,78]⟩,.func (.func 183) #[] #[.pointer (some ⟨b,0,none⟩)],.func (.func 106) #[] #[]]) rfl rfl rfl HN2.out hmb hno HR2.out ?_;intro W3 hm1 hb1)
 have HM3 := Lib.hid hm1
 have HB3 := Lib.hid (HC2.out.trans hb1)
 clear hm1 hb1 hno HN2 HC2 HR2
 refine (qaW ⟨#[70,78,76,76]⟩ (.func 107) #[] #[] (.func 108) #[] #[] W3).mono ?_
 rintro e V3 ⟨⟨b,rfl,hc⟩,hb⟩
 have HR3 : Hid (RowV V3 ⟨#[103,114,115]⟩ (.agg #[.string ⟨#[70,78,76,76]⟩,.func (.func 183) #[] #[.pointer (some ⟨b,0,none⟩)],.func (.func 108) #[] #[]])) := ⟨13,_,rfl,rfl,b,#[],rfl,hc,rfl⟩
 have HN3 := Lib.hid (HM3.out.keep hb)
 have HC3 := Lib.hid (HB3.out.trans (hb.mono HB3.out.size))
 have hno : (⟨#[103,114,115]⟩ : ByteArray) ∉ ([(⟨#[99,121,99,108,105,99]⟩ : ByteArray),(⟨#[98,99,104]⟩ : ByteArray),(⟨#[114,115]⟩ : ByteArray)] : List ByteArray) := by simp
 clear hb hc HM3 HB3
 go_wp2_with (refine qaH rfl (.tmp 2) (.const (.string ⟨#[103,114,115]⟩)) (.tmp 6) rfl w0.heap.size w0.heap.size [(⟨#[99,121,99,108,105,99]⟩ : ByteArray),(⟨#[98,99,104]⟩ : ByteArray),(⟨#[114,115]⟩ : ByteArray)] ⟨#[103,114,115]⟩ (.agg #[.string ⟨#[70,78,76,76]⟩,.func (.func 183) #[] #[.pointer (some ⟨b,0,none⟩)],.func (.func 108) #[] #[]]) rfl rfl rfl HN3.out hmb hno HR3.out ?_;intro W4 hm1 hb1)
 have HM4 := Lib.hid hm1
 have HB4 := Lib.hid (HC3.out.trans hb1)
 clear hm1 hb1 hno HN3 HC3 HR3
 refine (qaW ⟨#[70,70,78,76,76]⟩ (.func 109) #[] #[] (.func 110) #[] #[] W4).mono ?_
 rintro e V4 ⟨⟨b,rfl,hc⟩,hb⟩
 have HR4 : Hid (RowV V4 ⟨#[97,108,116,101,114,110,97,110,116]⟩ (.agg #[.string ⟨#[70,70,78,76,76]⟩,.func (.func 183) #[] #[.pointer (some ⟨b,0,none⟩)],.func (.func 110) #[] #[]])) := ⟨14,_,rfl,rfl,b,#[],rfl,hc,rfl⟩
 have HN4 := Lib.hid (HM4.out.keep hb)
 have HC4 := Lib.hid (HB4.out.trans (hb.mono HB4.out.size))
 have hno : (⟨#[97,108,116,101,114,110,97,110,116]⟩ : ByteArray) ∉ ([(⟨#[99,121,99,108,105,99]⟩ : ByteArray),(⟨#[98,99,104]⟩ : ByteArray),(⟨#[114,115]⟩ : ByteArray),(⟨#[103,114,115]⟩ : ByteArray)] : List ByteArray) := by simp
 clear hb hc HM4 HB4
 go_wp2_with (refine qaH rfl (.tmp 2) (.const (.string ⟨#[97,108,116,101,114,110,97,110,116]⟩)) (.tmp 7) rfl w0.heap.size w0.heap.size [(⟨#[99,121,99,108,105,99]⟩ : ByteArray),(⟨#[98,99,104]⟩ : ByteArray),(⟨#[114,115]⟩ : ByteArray),(⟨#[103,114,115]⟩ : ByteArray)] ⟨#[97,108,116,101,114,110,97,110,116]⟩ (.agg #[.string ⟨#[70,70,78,76,76]⟩,.func (.func 183) #[] #[.pointer (some ⟨b,0,none⟩)],.func (.func 110) #[] #[]]) rfl rfl rfl HN4.out hmb hno HR4.out ?_;intro W5 hm1 hb1)
 have HM5 := Lib.hid hm1
 have HB5 := Lib.hid (HC4.out.trans hb1)
 clear hm1 hb1 hno HN4 HC4 HR4
 refine (qaW ⟨#[70,70,76,76]⟩ (.func 111) #[] #[.pointer (some ⟨w.heap.size,0,none⟩)] (.func 112) #[] #[.pointer (some ⟨w.heap.size,0,none⟩)] W5).mono ?_
 rintro e V5 ⟨⟨b,rfl,hc⟩,hb⟩
 have HGC : Hid (Cap V5 w.heap.size (.func (.func 101) #[] #[]) 139) := Cap.keep (Cap.keep HG1.out HB5.out) hb
 have HR5 : Hid (RowV V5 ⟨#[103,111,112,112,97]⟩ (.agg #[.string ⟨#[70,70,76,76]⟩,.func (.func 183) #[] #[.pointer (some ⟨b,0,none⟩)],.func (.func 112) #[] #[.pointer (some ⟨w.heap.size,0,none⟩)]])) := ⟨15,_,rfl,rfl,b,_,rfl,hc,w.heap.size,rfl,HGC.out⟩
 have HN5 := Lib.hid (HM5.out.keep hb)
 have HC5 := Lib.hid (HB5.out.trans (hb.mono HB5.out.size))
 have hno : (⟨#[103,111,112,112,97]⟩ : ByteArray) ∉ ([(⟨#[99,121,99,108,105,99]⟩ : ByteArray),(⟨#[98,99,104]⟩ : ByteArray),(⟨#[114,115]⟩ : ByteArray),(⟨#[103,114,115]⟩ : ByteArray),(⟨#[97,108,116,101,114,110,97,110,116]⟩ : ByteArray)] : List ByteArray) := by simp
 clear hb hc HM5 HB5
 go_wp2_with (refine qaH rfl (.tmp 2) (.const (.string ⟨#[103,111,112,112,97]⟩)) (.tmp 10) rfl w0.heap.size w0.heap.size [(⟨#[99,121,99,108,105,99]⟩ : ByteArray),(⟨#[98,99,104]⟩ : ByteArray),(⟨#[114,115]⟩ : ByteArray),(⟨#[103,114,115]⟩ : ByteArray),(⟨#[97,108,116,101,114,110,97,110,116]⟩ : ByteArray)] ⟨#[103,111,112,112,97]⟩ (.agg #[.string ⟨#[70,70,76,76]⟩,.func (.func 183) #[] #[.pointer (some ⟨b,0,none⟩)],.func (.func 112) #[] #[.pointer (some ⟨w.heap.size,0,none⟩)]]) rfl rfl rfl HN5.out hmb hno HR5.out ?_;intro W6 hm1 hb1)
 have HM6 := Lib.hid hm1
 have HB6 := Lib.hid (HC5.out.trans hb1)
 clear hm1 hb1 hno HN5 HC5 HR5
 go_ret
 exact ⟨⟨_,rfl,hmw,HM6.out⟩,HG0.out.trans (HB6.out.mono hmw)⟩
set_option maxHeartbeats 4000000 in
set_option maxRecDepth 100000 in
theorem modified_c (w : World) : Calls Tryz.prog 52 #[] w fun e w' => (∃ mb,e = .returned (.map (some mb)) /\ w.heap.size <= mb /\ MR w' mb (modN.map fun l => ⟨l.toArray⟩)) /\ Below w.heap.size w w' := by
 have hmf : ∀ (fn : Fn) (first cap : Array Value) (w : World),(Instr.makeFunc fn first cap).run Tryz.prog w = .ok (.func fn first cap) w := fun _ _ _ _ => rfl
 have hmm := @run_makeMap Tryz.prog
 have HB0 : Hid (Below w.heap.size w (w.alloc (.map #[] 0))) := (Below.refl _ _).alloc (Nat.le_refl _) _
 have HM0 := Lib.hid (MR.new w)
 have hmb : w.heap.size <= w.heap.size := Nat.le_refl _
 go_enter Tryz.func52,Tryz.ntmps52
 go_wp2_with fail
 generalize w.alloc (.map #[] 0) = W0 at *
 refine (qeI (.func 115) #[] #[] (.func 89) #[] #[] W0).mono ?_
 rintro e V0 ⟨⟨b,b1,rfl,hc,hc1⟩,hb⟩
 have HR0 : Hid (RowV V0 ⟨#[100,117,97,108]⟩ (.agg #[.string ⟨#[67]⟩,.func (.func 183) #[] #[.pointer (some ⟨b,0,none⟩)],.func (.func 89) #[] #[]])) := ⟨16,_,rfl,rfl,b,_,rfl,hc,b1,rfl,hc1⟩
 have HN0 := Lib.hid (HM0.out.keep hb)
 have HC0 := Lib.hid (HB0.out.trans (hb.mono HB0.out.size))
 have hno : (⟨#[100,117,97,108]⟩ : ByteArray) ∉ ([] : List ByteArray) := by simp
 clear hb hc hc1 HM0 HB0
 go_wp2_with (refine qaH rfl (.tmp 1) (.const (.string ⟨#[100,117,97,108]⟩)) (.tmp 2) rfl w.heap.size w.heap.size [] ⟨#[100,117,97,108]⟩ (.agg #[.string ⟨#[67]⟩,.func (.func 183) #[] #[.pointer (some ⟨b,0,none⟩)],.func (.func 89) #[] #[]]) rfl rfl rfl HN0.out hmb hno HR0.out ?_;intro W1 hm1 hb1)
 have HM1 := Lib.hid hm1
 have HB1 := Lib.hid (HC0.out.trans hb1)
 clear hm1 hb1 hno HN0 HC0 HR0
 refine (qeI (.func 116) #[] #[] (.func 117) #[] #[] W1).mono ?_
 rintro e V1 ⟨⟨b,b1,rfl,hc,hc1⟩,hb⟩
 have HR1 : Hid (RowV V1 ⟨#[104,117,108,108]⟩ (.agg #[.string ⟨#[67]⟩,.func (.func 183) #[] #[.pointer (some ⟨b,0,none⟩)],.func (.func 117) #[] #[]])) := ⟨17,_,rfl,rfl,b,_,rfl,hc,b1,rfl,hc1⟩
 have HN1 := Lib.hid (HM1.out.keep hb)
 have HC1 := Lib.hid (HB1.out.trans (hb.mono HB1.out.size))
 have hno : (⟨#[104,117,108,108]⟩ : ByteArray) ∉ ([(⟨#[100,117,97,108]⟩ : ByteArray)] : List ByteArray) := by simp
 clear hb hc hc1 HM1 HB1
 go_wp2_with (refine qaH rfl (.tmp 1) (.const (.string ⟨#[104,117,108,108]⟩)) (.tmp 3) rfl w.heap.size w.heap.size [(⟨#[100,117,97,108]⟩ : ByteArray)] ⟨#[104,117,108,108]⟩ (.agg #[.string ⟨#[67]⟩,.func (.func 183) #[] #[.pointer (some ⟨b,0,none⟩)],.func (.func 117) #[] #[]]) rfl rfl rfl HN1.out hmb hno HR1.out ?_;intro W2 hm1 hb1)
 have HM2 := Lib.hid hm1
 have HB2 := Lib.hid (HC1.out.trans hb1)
 clear hm1 hb1 hno HN1 HC1 HR1
 refine (chosen_c (.func 119) #[] #[] (.func 120) #[] #[] W2).mono ?_
 rintro e V2 ⟨⟨b,b1,rfl,hc,hc1⟩,hb⟩
 have HR2 : Hid (RowV V2 ⟨#[112,117,110,99,116,117,114,101]⟩ (.agg #[.string ⟨#[67,76]⟩,.func (.func 183) #[] #[.pointer (some ⟨b,0,none⟩)],.func (.func 120) #[] #[]])) := ⟨18,_,rfl,rfl,b,_,rfl,hc,b1,rfl,hc1⟩
 have HN2 := Lib.hid (HM2.out.keep hb)
 have HC2 := Lib.hid (HB2.out.trans (hb.mono HB2.out.size))
 have hno : (⟨#[112,117,110,99,116,117,114,101]⟩ : ByteArray) ∉ ([(⟨#[100,117,97,108]⟩ : ByteArray),(⟨#[104,117,108,108]⟩ : ByteArray)] : List ByteArray) := by simp
 clear hb hc hc1 HM2 HB2
 go_wp2_with (refine qaH rfl (.tmp 1) (.const (.string ⟨#[112,117,110,99,116,117,114,101]⟩)) (.tmp 4) rfl w.heap.size w.heap.size [(⟨#[100,117,97,108]⟩ : ByteArray),(⟨#[104,117,108,108]⟩ : ByteArray)] ⟨#[112,117,110,99,116,117,114,101]⟩ (.agg #[.string ⟨#[67,76]⟩,.func (.func 183) #[] #[.pointer (some ⟨b,0,none⟩)],.func (.func 120) #[] #[]]) rfl rfl rfl HN2.out hmb hno HR2.out ?_;intro W3 hm1 hb1)
 have HM3 := Lib.hid hm1
 have HB3 := Lib.hid (HC2.out.trans hb1)
 clear hm1 hb1 hno HN2 HC2 HR2
 refine (chosen_c (.func 121) #[] #[] (.func 117) #[] #[] W3).mono ?_
 rintro e V3 ⟨⟨b,b1,rfl,hc,hc1⟩,hb⟩
 have HR3 : Hid (RowV V3 ⟨#[115,104,111,114,116,101,110]⟩ (.agg #[.string ⟨#[67,76]⟩,.func (.func 183) #[] #[.pointer (some ⟨b,0,none⟩)],.func (.func 117) #[] #[]])) := ⟨19,_,rfl,rfl,b,_,rfl,hc,b1,rfl,hc1⟩
 have HN3 := Lib.hid (HM3.out.keep hb)
 have HC3 := Lib.hid (HB3.out.trans (hb.mono HB3.out.size))
 have hno : (⟨#[115,104,111,114,116,101,110]⟩ : ByteArray) ∉ ([(⟨#[100,117,97,108]⟩ : ByteArray),(⟨#[104,117,108,108]⟩ : ByteArray),(⟨#[112,117,110,99,116,117,114,101]⟩ : ByteArray)] : List ByteArray) := by simp
 clear hb hc hc1 HM3 HB3
 go_wp2_with (refine qaH rfl (.tmp 1) (.const (.string ⟨#[115,104,111,114,116,101,110]⟩)) (.tmp 5) rfl w.heap.size w.heap.size [(⟨#[100,117,97,108]⟩ : ByteArray),(⟨#[104,117,108,108]⟩ : ByteArray),(⟨#[112,117,110,99,116,117,114,101]⟩ : ByteArray)] ⟨#[115,104,111,114,116,101,110]⟩ (.agg #[.string ⟨#[67,76]⟩,.func (.func 183) #[] #[.pointer (some ⟨b,0,none⟩)],.func (.func 117) #[] #[]]) rfl rfl rfl HN3.out hmb hno HR3.out ?_;intro W4 hm1 hb1)
 have HM4 := Lib.hid hm1
 have HB4 := Lib.hid (HC3.out.trans hb1)
 clear hm1 hb1 hno HN3 HC3 HR3
 refine (chosen_c (.func 122) #[] #[] (.func 117) #[] #[] W4).mono ?_
 rintro e V4 ⟨⟨b,b1,rfl,hc,hc1⟩,hb⟩
 have HR4 : Hid (RowV V4 ⟨#[115,117,98,99,111,100,101]⟩ (.agg #[.string ⟨#[67,76]⟩,.func (.func 183) #[] #[.pointer (some ⟨b,0,none⟩)],.func (.func 117) #[] #[]])) := ⟨20,_,rfl,rfl,b,_,rfl,hc,b1,rfl,hc1⟩
 have HN4 := Lib.hid (HM4.out.keep hb)
 have HC4 := Lib.hid (HB4.out.trans (hb.mono HB4.out.size))
 have hno : (⟨#[115,117,98,99,111,100,101]⟩ : ByteArray) ∉ ([(⟨#[100,117,97,108]⟩ : ByteArray),(⟨#[104,117,108,108]⟩ : ByteArray),(⟨#[112,117,110,99,116,117,114,101]⟩ : ByteArray),(⟨#[115,104,111,114,116,101,110]⟩ : ByteArray)] : List ByteArray) := by simp
 clear hb hc hc1 HM4 HB4
 go_wp2_with (refine qaH rfl (.tmp 1) (.const (.string ⟨#[115,117,98,99,111,100,101]⟩)) (.tmp 6) rfl w.heap.size w.heap.size [(⟨#[100,117,97,108]⟩ : ByteArray),(⟨#[104,117,108,108]⟩ : ByteArray),(⟨#[112,117,110,99,116,117,114,101]⟩ : ByteArray),(⟨#[115,104,111,114,116,101,110]⟩ : ByteArray)] ⟨#[115,117,98,99,111,100,101]⟩ (.agg #[.string ⟨#[67,76]⟩,.func (.func 183) #[] #[.pointer (some ⟨b,0,none⟩)],.func (.func 117) #[] #[]]) rfl rfl rfl HN4.out hmb hno HR4.out ?_;intro W5 hm1 hb1)
 have HM5 := Lib.hid hm1
 have HB5 := Lib.hid (HC4.out.trans hb1)
 clear hm1 hb1 hno HN4 HC4 HR4
 refine (chosen_c (.func 123) #[] #[] (.func 117) #[] #[] W5).mono ?_
 rintro e V5 ⟨⟨b,b1,rfl,hc,hc1⟩,hb⟩
 have HR5 : Hid (RowV V5 ⟨#[112,101,114,109,117,116,101]⟩ (.agg #[.string ⟨#[67,76]⟩,.func (.func 183) #[] #[.pointer (some ⟨b,0,none⟩)],.func (.func 117) #[] #[]])) := ⟨21,_,rfl,rfl,b,_,rfl,hc,b1,rfl,hc1⟩
 have HN5 := Lib.hid (HM5.out.keep hb)
 have HC5 := Lib.hid (HB5.out.trans (hb.mono HB5.out.size))
 have hno : (⟨#[112,101,114,109,117,116,101]⟩ : ByteArray) ∉ ([(⟨#[100,117,97,108]⟩ : ByteArray),(⟨#[104,117,108,108]⟩ : ByteArray),(⟨#[112,117,110,99,116,117,114,101]⟩ : ByteArray),(⟨#[115,104,111,114,116,101,110]⟩ : ByteArray),(⟨#[115,117,98,99,111,100,101]⟩ : ByteArray)] : List ByteArray) := by simp
 clear hb hc hc1 HM5 HB5
 go_wp2_with (refine qaH rfl (.tmp 1) (.const (.string ⟨#[112,101,114,109,117,116,101]⟩)) (.tmp 7) rfl w.heap.size w.heap.size [(⟨#[100,117,97,108]⟩ : ByteArray),(⟨#[104,117,108,108]⟩ : ByteArray),(⟨#[112,117,110,99,116,117,114,101]⟩ : ByteArray),(⟨#[115,104,111,114,116,101,110]⟩ : ByteArray),(⟨#[115,117,98,99,111,100,101]⟩ : ByteArray)] ⟨#[112,101,114,109,117,116,101]⟩ (.agg #[.string ⟨#[67,76]⟩,.func (.func 183) #[] #[.pointer (some ⟨b,0,none⟩)],.func (.func 117) #[] #[]]) rfl rfl rfl HN5.out hmb hno HR5.out ?_;intro W6 hm1 hb1)
 have HM6 := Lib.hid hm1
 have HB6 := Lib.hid (HC5.out.trans hb1)
 clear hm1 hb1 hno HN5 HC5 HR5
 refine (qeI (.func 124) #[] #[] (.func 117) #[] #[] W6).mono ?_
 rintro e V6 ⟨⟨b,b1,rfl,hc,hc1⟩,hb⟩
 have HR6 : Hid (RowV V6 ⟨#[101,120,112,117,114,103,97,116,101]⟩ (.agg #[.string ⟨#[67]⟩,.func (.func 183) #[] #[.pointer (some ⟨b,0,none⟩)],.func (.func 117) #[] #[]])) := ⟨22,_,rfl,rfl,b,_,rfl,hc,b1,rfl,hc1⟩
 have HN6 := Lib.hid (HM6.out.keep hb)
 have HC6 := Lib.hid (HB6.out.trans (hb.mono HB6.out.size))
 have hno : (⟨#[101,120,112,117,114,103,97,116,101]⟩ : ByteArray) ∉ ([(⟨#[100,117,97,108]⟩ : ByteArray),(⟨#[104,117,108,108]⟩ : ByteArray),(⟨#[112,117,110,99,116,117,114,101]⟩ : ByteArray),(⟨#[115,104,111,114,116,101,110]⟩ : ByteArray),(⟨#[115,117,98,99,111,100,101]⟩ : ByteArray),(⟨#[112,101,114,109,117,116,101]⟩ : ByteArray)] : List ByteArray) := by simp
 clear hb hc hc1 HM6 HB6
 go_wp2_with (refine qaH rfl (.tmp 1) (.const (.string ⟨#[101,120,112,117,114,103,97,116,101]⟩)) (.tmp 8) rfl w.heap.size w.heap.size [(⟨#[100,117,97,108]⟩ : ByteArray),(⟨#[104,117,108,108]⟩ : ByteArray),(⟨#[112,117,110,99,116,117,114,101]⟩ : ByteArray),(⟨#[115,104,111,114,116,101,110]⟩ : ByteArray),(⟨#[115,117,98,99,111,100,101]⟩ : ByteArray),(⟨#[112,101,114,109,117,116,101]⟩ : ByteArray)] ⟨#[101,120,112,117,114,103,97,116,101]⟩ (.agg #[.string ⟨#[67]⟩,.func (.func 183) #[] #[.pointer (some ⟨b,0,none⟩)],.func (.func 117) #[] #[]]) rfl rfl rfl HN6.out hmb hno HR6.out ?_;intro W7 hm1 hb1)
 have HM7 := Lib.hid hm1
 have HB7 := Lib.hid (HC6.out.trans hb1)
 clear hm1 hb1 hno HN6 HC6 HR6
 refine (qeI (.func 125) #[] #[] (.func 89) #[] #[] W7).mono ?_
 rintro e V7 ⟨⟨b,b1,rfl,hc,hc1⟩,hb⟩
 have HR7 : Hid (RowV V7 ⟨#[97,117,103,109,101,110,116]⟩ (.agg #[.string ⟨#[67]⟩,.func (.func 183) #[] #[.pointer (some ⟨b,0,none⟩)],.func (.func 89) #[] #[]])) := ⟨23,_,rfl,rfl,b,_,rfl,hc,b1,rfl,hc1⟩
 have HN7 := Lib.hid (HM7.out.keep hb)
 have HC7 := Lib.hid (HB7.out.trans (hb.mono HB7.out.size))
 have hno : (⟨#[97,117,103,109,101,110,116]⟩ : ByteArray) ∉ ([(⟨#[100,117,97,108]⟩ : ByteArray),(⟨#[104,117,108,108]⟩ : ByteArray),(⟨#[112,117,110,99,116,117,114,101]⟩ : ByteArray),(⟨#[115,104,111,114,116,101,110]⟩ : ByteArray),(⟨#[115,117,98,99,111,100,101]⟩ : ByteArray),(⟨#[112,101,114,109,117,116,101]⟩ : ByteArray),(⟨#[101,120,112,117,114,103,97,116,101]⟩ : ByteArray)] : List ByteArray) := by simp
 clear hb hc hc1 HM7 HB7
 go_wp2_with (refine qaH rfl (.tmp 1) (.const (.string ⟨#[97,117,103,109,101,110,116]⟩)) (.tmp 9) rfl w.heap.size w.heap.size [(⟨#[100,117,97,108]⟩ : ByteArray),(⟨#[104,117,108,108]⟩ : ByteArray),(⟨#[112,117,110,99,116,117,114,101]⟩ : ByteArray),(⟨#[115,104,111,114,116,101,110]⟩ : ByteArray),(⟨#[115,117,98,99,111,100,101]⟩ : ByteArray),(⟨#[112,101,114,109,117,116,101]⟩ : ByteArray),(⟨#[101,120,112,117,114,103,97,116,101]⟩ : ByteArray)] ⟨#[97,117,103,109,101,110,116]⟩ (.agg #[.string ⟨#[67]⟩,.func (.func 183) #[] #[.pointer (some ⟨b,0,none⟩)],.func (.func 89) #[] #[]]) rfl rfl rfl HN7.out hmb hno HR7.out ?_;intro W8 hm1 hb1)
 have HM8 := Lib.hid hm1
 have HB8 := Lib.hid (HC7.out.trans hb1)
 clear hm1 hb1 hno HN7 HC7 HR7
 refine (qeI (.func 126) #[] #[] (.func 127) #[] #[] W8).mono ?_
 rintro e V8 ⟨⟨b,b1,rfl,hc,hc1⟩,hb⟩
 have HR8 : Hid (RowV V8 ⟨#[101,120,116,101,110,100]⟩ (.agg #[.string ⟨#[67]⟩,.func (.func 183) #[] #[.pointer (some ⟨b,0,none⟩)],.func (.func 127) #[] #[]])) := ⟨24,_,rfl,rfl,b,_,rfl,hc,b1,rfl,hc1⟩
 have HN8 := Lib.hid (HM8.out.keep hb)
 have HC8 := Lib.hid (HB8.out.trans (hb.mono HB8.out.size))
 have hno : (⟨#[101,120,116,101,110,100]⟩ : ByteArray) ∉ ([(⟨#[100,117,97,108]⟩ : ByteArray),(⟨#[104,117,108,108]⟩ : ByteArray),(⟨#[112,117,110,99,116,117,114,101]⟩ : ByteArray),(⟨#[115,104,111,114,116,101,110]⟩ : ByteArray),(⟨#[115,117,98,99,111,100,101]⟩ : ByteArray),(⟨#[112,101,114,109,117,116,101]⟩ : ByteArray),(⟨#[101,120,112,117,114,103,97,116,101]⟩ : ByteArray),(⟨#[97,117,103,109,101,110,116]⟩ : ByteArray)] : List ByteArray) := by simp
 clear hb hc hc1 HM8 HB8
 go_wp2_with (refine qaH rfl (.tmp 1) (.const (.string ⟨#[101,120,116,101,110,100]⟩)) (.tmp 10) rfl w.heap.size w.heap.size [(⟨#[100,117,97,108]⟩ : ByteArray),(⟨#[104,117,108,108]⟩ : ByteArray),(⟨#[112,117,110,99,116,117,114,101]⟩ : ByteArray),(⟨#[115,104,111,114,116,101,110]⟩ : ByteArray),(⟨#[115,117,98,99,111,100,101]⟩ : ByteArray),(⟨#[112,101,114,109,117,116,101]⟩ : ByteArray),(⟨#[101,120,112,117,114,103,97,116,101]⟩ : ByteArray),(⟨#[97,117,103,109,101,110,116]⟩ : ByteArray)] ⟨#[101,120,116,101,110,100]⟩ (.agg #[.string ⟨#[67]⟩,.func (.func 183) #[] #[.pointer (some ⟨b,0,none⟩)],.func (.func 127) #[] #[]]) rfl rfl rfl HN8.out hmb hno HR8.out ?_;intro W9 hm1 hb1)
 have HM9 := Lib.hid hm1
 have HB9 := Lib.hid (HC8.out.trans hb1)
 clear hm1 hb1 hno HN8 HC8 HR8
 refine (over_c (.func 129) #[] #[] (.func 117) #[] #[] W9).mono ?_
 rintro e V9 ⟨⟨b,b1,rfl,hc,hc1⟩,hb⟩
 have HR9 : Hid (RowV V9 ⟨#[115,117,98,102,105,101,108,100]⟩ (.agg #[.string ⟨#[67,70]⟩,.func (.func 183) #[] #[.pointer (some ⟨b,0,none⟩)],.func (.func 117) #[] #[]])) := ⟨25,_,rfl,rfl,b,_,rfl,hc,b1,rfl,hc1⟩
 have HN9 := Lib.hid (HM9.out.keep hb)
 have HC9 := Lib.hid (HB9.out.trans (hb.mono HB9.out.size))
 have hno : (⟨#[115,117,98,102,105,101,108,100]⟩ : ByteArray) ∉ ([(⟨#[100,117,97,108]⟩ : ByteArray),(⟨#[104,117,108,108]⟩ : ByteArray),(⟨#[112,117,110,99,116,117,114,101]⟩ : ByteArray),(⟨#[115,104,111,114,116,101,110]⟩ : ByteArray),(⟨#[115,117,98,99,111,100,101]⟩ : ByteArray),(⟨#[112,101,114,109,117,116,101]⟩ : ByteArray),(⟨#[101,120,112,117,114,103,97,116,101]⟩ : ByteArray),(⟨#[97,117,103,109,101,110,116]⟩ : ByteArray),(⟨#[101,120,116,101,110,100]⟩ : ByteArray)] : List ByteArray) := by simp
 clear hb hc hc1 HM9 HB9
 go_wp2_with (refine qaH rfl (.tmp 1) (.const (.string ⟨#[115,117,98,102,105,101,108,100]⟩)) (.tmp 11) rfl w.heap.size w.heap.size [(⟨#[100,117,97,108]⟩ : ByteArray),(⟨#[104,117,108,108]⟩ : ByteArray),(⟨#[112,117,110,99,116,117,114,101]⟩ : ByteArray),(⟨#[115,104,111,114,116,101,110]⟩ : ByteArray),(⟨#[115,117,98,99,111,100,101]⟩ : ByteArray),(⟨#[112,101,114,109,117,116,101]⟩ : ByteArray),(⟨#[101,120,112,117,114,103,97,116,101]⟩ : ByteArray),(⟨#[97,117,103,109,101,110,116]⟩ : ByteArray),(⟨#[101,120,116,101,110,100]⟩ : ByteArray)] ⟨#[115,117,98,102,105,101,108,100]⟩ (.agg #[.string ⟨#[67,70]⟩,.func (.func 183) #[] #[.pointer (some ⟨b,0,none⟩)],.func (.func 117) #[] #[]]) rfl rfl rfl HN9.out hmb hno HR9.out ?_;intro W10 hm1 hb1)
 have HM10 := Lib.hid hm1
 have HB10 := Lib.hid (HC9.out.trans hb1)
 clear hm1 hb1 hno HN9 HC9 HR9
 refine (over_c (.func 130) #[] #[] (.func 89) #[] #[] W10).mono ?_
 rintro e V10 ⟨⟨b,b1,rfl,hc,hc1⟩,hb⟩
 have HR10 : Hid (RowV V10 ⟨#[116,114,97,99,101]⟩ (.agg #[.string ⟨#[67,70]⟩,.func (.func 183) #[] #[.pointer (some ⟨b,0,none⟩)],.func (.func 89) #[] #[]])) := ⟨26,_,rfl,rfl,b,_,rfl,hc,b1,rfl,hc1⟩
 have HN10 := Lib.hid (HM10.out.keep hb)
 have HC10 := Lib.hid (HB10.out.trans (hb.mono HB10.out.size))
 have hno : (⟨#[116,114,97,99,101]⟩ : ByteArray) ∉ ([(⟨#[100,117,97,108]⟩ : ByteArray),(⟨#[104,117,108,108]⟩ : ByteArray),(⟨#[112,117,110,99,116,117,114,101]⟩ : ByteArray),(⟨#[115,104,111,114,116,101,110]⟩ : ByteArray),(⟨#[115,117,98,99,111,100,101]⟩ : ByteArray),(⟨#[112,101,114,109,117,116,101]⟩ : ByteArray),(⟨#[101,120,112,117,114,103,97,116,101]⟩ : ByteArray),(⟨#[97,117,103,109,101,110,116]⟩ : ByteArray),(⟨#[101,120,116,101,110,100]⟩ : ByteArray),(⟨#[115,117,98,102,105,101,108,100]⟩ : ByteArray)] : List ByteArray) := by simp
 clear hb hc hc1 HM10 HB10
 go_wp2_with (refine qaH rfl (.tmp 1) (.const (.string ⟨#[116,114,97,99,101]⟩)) (.tmp 12) rfl w.heap.size w.heap.size [(⟨#[100,117,97,108]⟩ : ByteArray),(⟨#[104,117,108,108]⟩ : ByteArray),(⟨#[112,117,110,99,116,117,114,101]⟩ : ByteArray),(⟨#[115,104,111,114,116,101,110]⟩ : ByteArray),(⟨#[115,117,98,99,111,100,101]⟩ : ByteArray),(⟨#[112,101,114,109,117,116,101]⟩ : ByteArray),(⟨#[101,120,112,117,114,103,97,116,101]⟩ : ByteArray),(⟨#[97,117,103,109,101,110,116]⟩ : ByteArray),(⟨#[101,120,116,101,110,100]⟩ : ByteArray),(⟨#[115,117,98,102,105,101,108,100]⟩ : ByteArray)] ⟨#[116,114,97,99,101]⟩ (.agg #[.string ⟨#[67,70]⟩,.func (.func 183) #[] #[.pointer (some ⟨b,0,none⟩)],.func (.func 89) #[] #[]]) rfl rfl rfl HN10.out hmb hno HR10.out ?_;intro W11 hm1 hb1)
 have HM11 := Lib.hid hm1
 have HB11 := Lib.hid (HC10.out.trans hb1)
 clear hm1 hb1 hno HN10 HC10 HR10
 refine (over_c (.func 131) #[] #[] (.func 117) #[] #[] W11).mono ?_
 rintro e V11 ⟨⟨b,b1,rfl,hc,hc1⟩,hb⟩
 have HR11 : Hid (RowV V11 ⟨#[108,105,102,116]⟩ (.agg #[.string ⟨#[67,70]⟩,.func (.func 183) #[] #[.pointer (some ⟨b,0,none⟩)],.func (.func 117) #[] #[]])) := ⟨27,_,rfl,rfl,b,_,rfl,hc,b1,rfl,hc1⟩
 have HN11 := Lib.hid (HM11.out.keep hb)
 have HC11 := Lib.hid (HB11.out.trans (hb.mono HB11.out.size))
 have hno : (⟨#[108,105,102,116]⟩ : ByteArray) ∉ ([(⟨#[100,117,97,108]⟩ : ByteArray),(⟨#[104,117,108,108]⟩ : ByteArray),(⟨#[112,117,110,99,116,117,114,101]⟩ : ByteArray),(⟨#[115,104,111,114,116,101,110]⟩ : ByteArray),(⟨#[115,117,98,99,111,100,101]⟩ : ByteArray),(⟨#[112,101,114,109,117,116,101]⟩ : ByteArray),(⟨#[101,120,112,117,114,103,97,116,101]⟩ : ByteArray),(⟨#[97,117,103,109,101,110,116]⟩ : ByteArray),(⟨#[101,120,116,101,110,100]⟩ : ByteArray),(⟨#[115,117,98,102,105,101,108,100]⟩ : ByteArray),(⟨#[116,114,97,99,101]⟩ : ByteArray)] : List ByteArray) := by simp
 clear hb hc hc1 HM11 HB11
 go_wp2_with (refine qaH rfl (.tmp 1) (.const (.string ⟨#[108,105,102,116]⟩)) (.tmp 13) rfl w.heap.size w.heap.size [(⟨#[100,117,97,108]⟩ : ByteArray),(⟨#[104,117,108,108]⟩ : ByteArray),(⟨#[112,117,110,99,116,117,114,101]⟩ : ByteArray),(⟨#[115,104,111,114,116,101,110]⟩ : ByteArray),(⟨#[115,117,98,99,111,100,101]⟩ : ByteArray),(⟨#[112,101,114,109,117,116,101]⟩ : ByteArray),(⟨#[101,120,112,117,114,103,97,116,101]⟩ : ByteArray),(⟨#[97,117,103,109,101,110,116]⟩ : ByteArray),(⟨#[101,120,116,101,110,100]⟩ : ByteArray),(⟨#[115,117,98,102,105,101,108,100]⟩ : ByteArray),(⟨#[116,114,97,99,101]⟩ : ByteArray)] ⟨#[108,105,102,116]⟩ (.agg #[.string ⟨#[67,70]⟩,.func (.func 183) #[] #[.pointer (some ⟨b,0,none⟩)],.func (.func 117) #[] #[]]) rfl rfl rfl HN11.out hmb hno HR11.out ?_;intro W12 hm1 hb1)
 have HM12 := Lib.hid hm1
 have HB12 := Lib.hid (HC11.out.trans hb1)
 clear hm1 hb1 hno HN11 HC11 HR11
 refine (qaW ⟨#[67,78]⟩ (.func 132) #[] #[] (.func 117) #[] #[] W12).mono ?_
 rintro e V12 ⟨⟨b,rfl,hc⟩,hb⟩
 have HR12 : Hid (RowV V12 ⟨#[105,110,116,101,114,108,101,97,118,101]⟩ (.agg #[.string ⟨#[67,78]⟩,.func (.func 183) #[] #[.pointer (some ⟨b,0,none⟩)],.func (.func 117) #[] #[]])) := ⟨28,_,rfl,rfl,b,#[],rfl,hc,rfl⟩
 have HN12 := Lib.hid (HM12.out.keep hb)
 have HC12 := Lib.hid (HB12.out.trans (hb.mono HB12.out.size))
 have hno : (⟨#[105,110,116,101,114,108,101,97,118,101]⟩ : ByteArray) ∉ ([(⟨#[100,117,97,108]⟩ : ByteArray),(⟨#[104,117,108,108]⟩ : ByteArray),(⟨#[112,117,110,99,116,117,114,101]⟩ : ByteArray),(⟨#[115,104,111,114,116,101,110]⟩ : ByteArray),(⟨#[115,117,98,99,111,100,101]⟩ : ByteArray),(⟨#[112,101,114,109,117,116,101]⟩ : ByteArray),(⟨#[101,120,112,117,114,103,97,116,101]⟩ : ByteArray),(⟨#[97,117,103,109,101,110,116]⟩ : ByteArray),(⟨#[101,120,116,101,110,100]⟩ : ByteArray),(⟨#[115,117,98,102,105,101,108,100]⟩ : ByteArray),(⟨#[116,114,97,99,101]⟩ : ByteArray),(⟨#[108,105,102,116]⟩ : ByteArray)] : List ByteArray) := by simp
 clear hb hc HM12 HB12
 go_wp2_with (refine qaH rfl (.tmp 1) (.const (.string ⟨#[105,110,116,101,114,108,101,97,118,101]⟩)) (.tmp 14) rfl w.heap.size w.heap.size [(⟨#[100,117,97,108]⟩ : ByteArray),(⟨#[104,117,108,108]⟩ : ByteArray),(⟨#[112,117,110,99,116,117,114,101]⟩ : ByteArray),(⟨#[115,104,111,114,116,101,110]⟩ : ByteArray),(⟨#[115,117,98,99,111,100,101]⟩ : ByteArray),(⟨#[112,101,114,109,117,116,101]⟩ : ByteArray),(⟨#[101,120,112,117,114,103,97,116,101]⟩ : ByteArray),(⟨#[97,117,103,109,101,110,116]⟩ : ByteArray),(⟨#[101,120,116,101,110,100]⟩ : ByteArray),(⟨#[115,117,98,102,105,101,108,100]⟩ : ByteArray),(⟨#[116,114,97,99,101]⟩ : ByteArray),(⟨#[108,105,102,116]⟩ : ByteArray)] ⟨#[105,110,116,101,114,108,101,97,118,101]⟩ (.agg #[.string ⟨#[67,78]⟩,.func (.func 183) #[] #[.pointer (some ⟨b,0,none⟩)],.func (.func 117) #[] #[]]) rfl rfl rfl HN12.out hmb hno HR12.out ?_;intro W13 hm1 hb1)
 have HM13 := Lib.hid hm1
 have HB13 := Lib.hid (HC12.out.trans hb1)
 clear hm1 hb1 hno HN12 HC12 HR12
 go_ret
 exact ⟨⟨_,rfl,hmb,HM13.out⟩,HB13.out⟩
set_option maxHeartbeats 4000000 in
set_option maxRecDepth 100000 in
theorem combined_c (w : World) : Calls Tryz.prog 53 #[] w fun e w' => (∃ mb,e = .returned (.map (some mb)) /\ w.heap.size <= mb /\ MR w' mb (comN.map fun l => ⟨l.toArray⟩)) /\ Below w.heap.size w w' := by
 have hmf : ∀ (fn : Fn) (first cap : Array Value) (w : World),(Instr.makeFunc fn first cap).run Tryz.prog w = .ok (.func fn first cap) w := fun _ _ _ _ => rfl
 have hmm := @run_makeMap Tryz.prog
 have HB0 : Hid (Below w.heap.size w (w.alloc (.map #[] 0))) := (Below.refl _ _).alloc (Nat.le_refl _) _
 have HM0 := Lib.hid (MR.new w)
 have hmb : w.heap.size <= w.heap.size := Nat.le_refl _
 go_enter Tryz.func53,Tryz.ntmps53
 go_wp2_with fail
 generalize w.alloc (.map #[] 0) = W0 at *
 refine (two_c (.func 136) #[] #[] (.func 89) #[] #[] W0).mono ?_
 rintro e V0 ⟨⟨b,b1,rfl,hc,hc1⟩,hb⟩
 have HR0 : Hid (RowV V0 ⟨#[106,111,105,110]⟩ (.agg #[.string ⟨#[67,67]⟩,.func (.func 183) #[] #[.pointer (some ⟨b,0,none⟩)],.func (.func 89) #[] #[]])) := ⟨29,_,rfl,rfl,b,_,rfl,hc,b1,rfl,hc1⟩
 have HN0 := Lib.hid (HM0.out.keep hb)
 have HC0 := Lib.hid (HB0.out.trans (hb.mono HB0.out.size))
 have hno : (⟨#[106,111,105,110]⟩ : ByteArray) ∉ ([] : List ByteArray) := by simp
 clear hb hc hc1 HM0 HB0
 go_wp2_with (refine qaH rfl (.tmp 2) (.const (.string ⟨#[106,111,105,110]⟩)) (.tmp 3) rfl w.heap.size w.heap.size [] ⟨#[106,111,105,110]⟩ (.agg #[.string ⟨#[67,67]⟩,.func (.func 183) #[] #[.pointer (some ⟨b,0,none⟩)],.func (.func 89) #[] #[]]) rfl rfl rfl HN0.out hmb hno HR0.out ?_;intro W1 hm1 hb1)
 have HM1 := Lib.hid hm1
 have HB1 := Lib.hid (HC0.out.trans hb1)
 clear hm1 hb1 hno HN0 HC0 HR0
 refine (two_c (.func 137) #[] #[] (.func 138) #[] #[] W1).mono ?_
 rintro e V1 ⟨⟨b,b1,rfl,hc,hc1⟩,hb⟩
 have HR1 : Hid (RowV V1 ⟨#[109,101,101,116]⟩ (.agg #[.string ⟨#[67,67]⟩,.func (.func 183) #[] #[.pointer (some ⟨b,0,none⟩)],.func (.func 138) #[] #[]])) := ⟨30,_,rfl,rfl,b,_,rfl,hc,b1,rfl,hc1⟩
 have HN1 := Lib.hid (HM1.out.keep hb)
 have HC1 := Lib.hid (HB1.out.trans (hb.mono HB1.out.size))
 have hno : (⟨#[109,101,101,116]⟩ : ByteArray) ∉ ([(⟨#[106,111,105,110]⟩ : ByteArray)] : List ByteArray) := by simp
 clear hb hc hc1 HM1 HB1
 go_wp2_with (refine qaH rfl (.tmp 2) (.const (.string ⟨#[109,101,101,116]⟩)) (.tmp 4) rfl w.heap.size w.heap.size [(⟨#[106,111,105,110]⟩ : ByteArray)] ⟨#[109,101,101,116]⟩ (.agg #[.string ⟨#[67,67]⟩,.func (.func 183) #[] #[.pointer (some ⟨b,0,none⟩)],.func (.func 138) #[] #[]]) rfl rfl rfl HN1.out hmb hno HR1.out ?_;intro W2 hm1 hb1)
 have HM2 := Lib.hid hm1
 have HB2 := Lib.hid (HC1.out.trans hb1)
 clear hm1 hb1 hno HN1 HC1 HR1
 refine (two_c (.func 139) #[] #[] (.func 140) #[] #[] W2).mono ?_
 rintro e V2 ⟨⟨b,b1,rfl,hc,hc1⟩,hb⟩
 have HR2 : Hid (RowV V2 ⟨#[115,117,109]⟩ (.agg #[.string ⟨#[67,67]⟩,.func (.func 183) #[] #[.pointer (some ⟨b,0,none⟩)],.func (.func 140) #[] #[]])) := ⟨31,_,rfl,rfl,b,_,rfl,hc,b1,rfl,hc1⟩
 have HN2 := Lib.hid (HM2.out.keep hb)
 have HC2 := Lib.hid (HB2.out.trans (hb.mono HB2.out.size))
 have hno : (⟨#[115,117,109]⟩ : ByteArray) ∉ ([(⟨#[106,111,105,110]⟩ : ByteArray),(⟨#[109,101,101,116]⟩ : ByteArray)] : List ByteArray) := by simp
 clear hb hc hc1 HM2 HB2
 go_wp2_with (refine qaH rfl (.tmp 2) (.const (.string ⟨#[115,117,109]⟩)) (.tmp 5) rfl w.heap.size w.heap.size [(⟨#[106,111,105,110]⟩ : ByteArray),(⟨#[109,101,101,116]⟩ : ByteArray)] ⟨#[115,117,109]⟩ (.agg #[.string ⟨#[67,67]⟩,.func (.func 183) #[] #[.pointer (some ⟨b,0,none⟩)],.func (.func 140) #[] #[]]) rfl rfl rfl HN2.out hmb hno HR2.out ?_;intro W3 hm1 hb1)
 have HM3 := Lib.hid hm1
 have HB3 := Lib.hid (HC2.out.trans hb1)
 clear hm1 hb1 hno HN2 HC2 HR2
 refine (two_c (.func 142) #[] #[] (.func 143) #[] #[] W3).mono ?_
 rintro e V3 ⟨⟨b,b1,rfl,hc,hc1⟩,hb⟩
 have HR3 : Hid (RowV V3 ⟨#[112,108,111,116,107,105,110]⟩ (.agg #[.string ⟨#[67,67]⟩,.func (.func 183) #[] #[.pointer (some ⟨b,0,none⟩)],.func (.func 143) #[] #[]])) := ⟨32,_,rfl,rfl,b,_,rfl,hc,b1,rfl,hc1⟩
 have HN3 := Lib.hid (HM3.out.keep hb)
 have HC3 := Lib.hid (HB3.out.trans (hb.mono HB3.out.size))
 have hno : (⟨#[112,108,111,116,107,105,110]⟩ : ByteArray) ∉ ([(⟨#[106,111,105,110]⟩ : ByteArray),(⟨#[109,101,101,116]⟩ : ByteArray),(⟨#[115,117,109]⟩ : ByteArray)] : List ByteArray) := by simp
 clear hb hc hc1 HM3 HB3
 go_wp2_with (refine qaH rfl (.tmp 2) (.const (.string ⟨#[112,108,111,116,107,105,110]⟩)) (.tmp 6) rfl w.heap.size w.heap.size [(⟨#[106,111,105,110]⟩ : ByteArray),(⟨#[109,101,101,116]⟩ : ByteArray),(⟨#[115,117,109]⟩ : ByteArray)] ⟨#[112,108,111,116,107,105,110]⟩ (.agg #[.string ⟨#[67,67]⟩,.func (.func 183) #[] #[.pointer (some ⟨b,0,none⟩)],.func (.func 143) #[] #[]]) rfl rfl rfl HN3.out hmb hno HR3.out ?_;intro W4 hm1 hb1)
 have HM4 := Lib.hid hm1
 have HB4 := Lib.hid (HC3.out.trans hb1)
 clear hm1 hb1 hno HN3 HC3 HR3
 refine (two_c (.func 144) #[] #[] (.func 89) #[] #[] W4).mono ?_
 rintro e V4 ⟨⟨b,b1,rfl,hc,hc1⟩,hb⟩
 have HR4 : Hid (RowV V4 ⟨#[106,117,120,116,97,112,111,115,101]⟩ (.agg #[.string ⟨#[67,67]⟩,.func (.func 183) #[] #[.pointer (some ⟨b,0,none⟩)],.func (.func 89) #[] #[]])) := ⟨33,_,rfl,rfl,b,_,rfl,hc,b1,rfl,hc1⟩
 have HN4 := Lib.hid (HM4.out.keep hb)
 have HC4 := Lib.hid (HB4.out.trans (hb.mono HB4.out.size))
 have hno : (⟨#[106,117,120,116,97,112,111,115,101]⟩ : ByteArray) ∉ ([(⟨#[106,111,105,110]⟩ : ByteArray),(⟨#[109,101,101,116]⟩ : ByteArray),(⟨#[115,117,109]⟩ : ByteArray),(⟨#[112,108,111,116,107,105,110]⟩ : ByteArray)] : List ByteArray) := by simp
 clear hb hc hc1 HM4 HB4
 go_wp2_with (refine qaH rfl (.tmp 2) (.const (.string ⟨#[106,117,120,116,97,112,111,115,101]⟩)) (.tmp 7) rfl w.heap.size w.heap.size [(⟨#[106,111,105,110]⟩ : ByteArray),(⟨#[109,101,101,116]⟩ : ByteArray),(⟨#[115,117,109]⟩ : ByteArray),(⟨#[112,108,111,116,107,105,110]⟩ : ByteArray)] ⟨#[106,117,120,116,97,112,111,115,101]⟩ (.agg #[.string ⟨#[67,67]⟩,.func (.func 183) #[] #[.pointer (some ⟨b,0,none⟩)],.func (.func 89) #[] #[]]) rfl rfl rfl HN4.out hmb hno HR4.out ?_;intro W5 hm1 hb1)
 have HM5 := Lib.hid hm1
 have HB5 := Lib.hid (HC4.out.trans hb1)
 clear hm1 hb1 hno HN4 HC4 HR4
 refine (two_c (.func 145) #[] #[] (.func 134) #[] #[] W5).mono ?_
 rintro e V5 ⟨⟨b,b1,rfl,hc,hc1⟩,hb⟩
 have HR5 : Hid (RowV V5 ⟨#[112,114,111,100,117,99,116]⟩ (.agg #[.string ⟨#[67,67]⟩,.func (.func 183) #[] #[.pointer (some ⟨b,0,none⟩)],.func (.func 134) #[] #[]])) := ⟨34,_,rfl,rfl,b,_,rfl,hc,b1,rfl,hc1⟩
 have HN5 := Lib.hid (HM5.out.keep hb)
 have HC5 := Lib.hid (HB5.out.trans (hb.mono HB5.out.size))
 have hno : (⟨#[112,114,111,100,117,99,116]⟩ : ByteArray) ∉ ([(⟨#[106,111,105,110]⟩ : ByteArray),(⟨#[109,101,101,116]⟩ : ByteArray),(⟨#[115,117,109]⟩ : ByteArray),(⟨#[112,108,111,116,107,105,110]⟩ : ByteArray),(⟨#[106,117,120,116,97,112,111,115,101]⟩ : ByteArray)] : List ByteArray) := by simp
 clear hb hc hc1 HM5 HB5
 go_wp2_with (refine qaH rfl (.tmp 2) (.const (.string ⟨#[112,114,111,100,117,99,116]⟩)) (.tmp 9) rfl w.heap.size w.heap.size [(⟨#[106,111,105,110]⟩ : ByteArray),(⟨#[109,101,101,116]⟩ : ByteArray),(⟨#[115,117,109]⟩ : ByteArray),(⟨#[112,108,111,116,107,105,110]⟩ : ByteArray),(⟨#[106,117,120,116,97,112,111,115,101]⟩ : ByteArray)] ⟨#[112,114,111,100,117,99,116]⟩ (.agg #[.string ⟨#[67,67]⟩,.func (.func 183) #[] #[.pointer (some ⟨b,0,none⟩)],.func (.func 134) #[] #[]]) rfl rfl rfl HN5.out hmb hno HR5.out ?_;intro W6 hm1 hb1)
 have HM6 := Lib.hid hm1
 have HB6 := Lib.hid (HC5.out.trans hb1)
 clear hm1 hb1 hno HN5 HC5 HR5
 refine (qaW ⟨#[67,67,76]⟩ (.func 146) #[] #[] (.func 134) #[] #[] W6).mono ?_
 rintro e V6 ⟨⟨b,rfl,hc⟩,hb⟩
 have HR6 : Hid (RowV V6 ⟨#[99,111,110,99,97,116]⟩ (.agg #[.string ⟨#[67,67,76]⟩,.func (.func 183) #[] #[.pointer (some ⟨b,0,none⟩)],.func (.func 134) #[] #[]])) := ⟨35,_,rfl,rfl,b,#[],rfl,hc,rfl⟩
 have HN6 := Lib.hid (HM6.out.keep hb)
 have HC6 := Lib.hid (HB6.out.trans (hb.mono HB6.out.size))
 have hno : (⟨#[99,111,110,99,97,116]⟩ : ByteArray) ∉ ([(⟨#[106,111,105,110]⟩ : ByteArray),(⟨#[109,101,101,116]⟩ : ByteArray),(⟨#[115,117,109]⟩ : ByteArray),(⟨#[112,108,111,116,107,105,110]⟩ : ByteArray),(⟨#[106,117,120,116,97,112,111,115,101]⟩ : ByteArray),(⟨#[112,114,111,100,117,99,116]⟩ : ByteArray)] : List ByteArray) := by simp
 clear hb hc HM6 HB6
 go_wp2_with (refine qaH rfl (.tmp 2) (.const (.string ⟨#[99,111,110,99,97,116]⟩)) (.tmp 11) rfl w.heap.size w.heap.size [(⟨#[106,111,105,110]⟩ : ByteArray),(⟨#[109,101,101,116]⟩ : ByteArray),(⟨#[115,117,109]⟩ : ByteArray),(⟨#[112,108,111,116,107,105,110]⟩ : ByteArray),(⟨#[106,117,120,116,97,112,111,115,101]⟩ : ByteArray),(⟨#[112,114,111,100,117,99,116]⟩ : ByteArray)] ⟨#[99,111,110,99,97,116]⟩ (.agg #[.string ⟨#[67,67,76]⟩,.func (.func 183) #[] #[.pointer (some ⟨b,0,none⟩)],.func (.func 134) #[] #[]]) rfl rfl rfl HN6.out hmb hno HR6.out ?_;intro W7 hm1 hb1)
 have HM7 := Lib.hid hm1
 have HB7 := Lib.hid (HC6.out.trans hb1)
 clear hm1 hb1 hno HN6 HC6 HR6
 refine (qaW ⟨#[67,67,67]⟩ (.func 148) #[] #[] (.func 89) #[] #[] W7).mono ?_
 rintro e V7 ⟨⟨b,rfl,hc⟩,hb⟩
 have HR7 : Hid (RowV V7 ⟨#[120]⟩ (.agg #[.string ⟨#[67,67,67]⟩,.func (.func 183) #[] #[.pointer (some ⟨b,0,none⟩)],.func (.func 89) #[] #[]])) := ⟨36,_,rfl,rfl,b,#[],rfl,hc,rfl⟩
 have HN7 := Lib.hid (HM7.out.keep hb)
 have HC7 := Lib.hid (HB7.out.trans (hb.mono HB7.out.size))
 have hno : (⟨#[120]⟩ : ByteArray) ∉ ([(⟨#[106,111,105,110]⟩ : ByteArray),(⟨#[109,101,101,116]⟩ : ByteArray),(⟨#[115,117,109]⟩ : ByteArray),(⟨#[112,108,111,116,107,105,110]⟩ : ByteArray),(⟨#[106,117,120,116,97,112,111,115,101]⟩ : ByteArray),(⟨#[112,114,111,100,117,99,116]⟩ : ByteArray),(⟨#[99,111,110,99,97,116]⟩ : ByteArray)] : List ByteArray) := by simp
 clear hb hc HM7 HB7
 go_wp2_with (refine qaH rfl (.tmp 2) (.const (.string ⟨#[120]⟩)) (.tmp 12) rfl w.heap.size w.heap.size [(⟨#[106,111,105,110]⟩ : ByteArray),(⟨#[109,101,101,116]⟩ : ByteArray),(⟨#[115,117,109]⟩ : ByteArray),(⟨#[112,108,111,116,107,105,110]⟩ : ByteArray),(⟨#[106,117,120,116,97,112,111,115,101]⟩ : ByteArray),(⟨#[112,114,111,100,117,99,116]⟩ : ByteArray),(⟨#[99,111,110,99,97,116]⟩ : ByteArray)] ⟨#[120]⟩ (.agg #[.string ⟨#[67,67,67]⟩,.func (.func 183) #[] #[.pointer (some ⟨b,0,none⟩)],.func (.func 89) #[] #[]]) rfl rfl rfl HN7.out hmb hno HR7.out ?_;intro W8 hm1 hb1)
 have HM8 := Lib.hid hm1
 have HB8 := Lib.hid (HC7.out.trans hb1)
 clear hm1 hb1 hno HN7 HC7 HR7
 go_ret
 exact ⟨⟨_,rfl,hmb,HM8.out⟩,HB8.out⟩
end Go.Proofs.YtaddcadapbpkfaaGreatDoor
