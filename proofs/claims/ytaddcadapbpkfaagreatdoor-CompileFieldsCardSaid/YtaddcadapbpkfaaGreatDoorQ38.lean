/-
  The law: what mean answers of a call of gf.
-/
import Derived.Laws.IdiomRangeMap
import Derived.Test.YtaddcadapbpkfaaGreatDoorQ37
namespace Go.Proofs.YtaddcadapbpkfaaGreatDoor
open Go.RowKit Pln

theorem infoLawV : (Tryz.prog.info? 37).map (fun i => (i.zero,i.size,i.bytes)) = some (some (.agg #[.int .i64 0,.int .i64 0,.slice none 0 0,.int .i64 0,.int .i64 0,.slice none 0 0,.int .i64 0,.slice none 0 0,.int .i64 0,.slice none 0 0]),10,144) := by kernel_rfl
abbrev LT := Int × Option Addr × List Int × Nat
def flatT (ts : List LT) : List Value := ts.flatMap fun t => lvC t.1 t.2.1 t.2.2.1.length t.2.2.2
theorem flatT_snoc (ts : List LT) (t : LT) : flatT (ts ++ [t]) = flatT ts ++ lvC t.1 t.2.1 t.2.2.1.length t.2.2.2 := by simp [flatT]
theorem flatT_at : ∀ (ts : List LT) (j : Nat) (t : LT),ts[j]? = some t -> ∀ i,i < 10 -> (flatT ts)[j * 10 + i]? = (lvC t.1 t.2.1 t.2.2.1.length t.2.2.2)[i]?
  | [],j,t,h,i,hi => by simp at h
  | t0 :: r,0,t,h,i,hi => by
    simp at h
    subst h
    show (lvC _ _ _ _ ++ flatT r)[0 * 10 + i]? = _
    rw [List.getElem?_append_left (by show 0 * 10 + i < 10;omega)]
    simp
  | t0 :: r,j + 1,t,h,i,hi => by
    show (lvC _ _ _ _ ++ flatT r)[(j + 1) * 10 + i]? = _
    rw [List.getElem?_append_right (by show 10 <= (j + 1) * 10 + i;omega)]
    rw [show (j + 1) * 10 + i - (lvC t0.1 t0.2.1 t0.2.2.1.length t0.2.2.2).length = j * 10 + i by show (j + 1) * 10 + i - 10 = _;omega]
    exact flatT_at r j t (by simpa using h) i hi
theorem lit_err {k n : Int} {ls : List Int} {kd : UInt8} (h : litE k kd ≠ 0) : litM k n ls kd = .error (litE k kd) := by
  unfold litE at h ⊢
  unfold litM
  by_cases h4 : k = 4
  . rw [if_pos h4,if_pos h4]
  . rw [if_neg h4] at h
    rw [if_neg h4,if_neg h4]
    split at h
    . exact absurd rfl h
    . rename_i hn
      rw [if_neg hn,if_neg (fun e => hn (.inl e)),if_neg (fun e => hn (.inr e))]
theorem lit_ok {k n : Int} {ls : List Int} {kd : UInt8} (h : litE k kd = 0) : litM k n ls kd = .ok (if kd = 78 then .num n else .lst ls) := by
  unfold litE at h
  unfold litM
  split at h
  . cases h
  . rename_i h4
    rw [if_neg h4]
    split at h
    . rename_i h1
      rcases h1 with h1 | h1
      . rw [if_pos h1,if_pos h1.1]
      . rw [if_neg (fun e => by rw [h1.1] at e;exact absurd e.1 (by decide)),if_pos h1,if_neg (fun e => by rw [h1.1] at e;exact absurd e (by decide))]
    . cases h
theorem kinds_of {m : Nat} {ks : List UInt8} (hk : (m = 1 /\ ks = [78]) \/ (m = 3 /\ ks = [78,78,76])) : ∀ (i : Nat) (kd : UInt8),ks[i]? = some kd -> kd = 78 \/ kd = 76 := fun i kd h => by
  have hm := List.mem_of_getElem? h
  rcases hk with ⟨_,rfl⟩ | ⟨_,rfl⟩
  . simp at hm
    exact .inl hm
  . simp at hm
    exact hm
structure LaSt (B : Nat) (w : World) (xs : List E) (ks : List UInt8) (i : Nat) (vs : List VM) (ts : List LT) (v : Value) (wr : World) : Prop where
  own : wr.ownsRow (w.heap.size + 2) 37 10 v i (flatT ts)
  below : Below w.heap.size w wr
  upto : Upto S0 xs ks i vs
  tl : ts.length = i
  tm : ∀ (j : Nat) (t : LT),ts[j]? = some t -> ∃ x : E,xs[j]? = some x /\ t.1 = x.n /\ t.2.2.1 = x.ls /\ IntsF w (· < B) t.2.1 t.2.2.1
  zero : wr.heap[w.heap.size + 1]? = some (.cells #[.int .i64 0,.int .i64 0,.slice none 0 0,.int .i64 0,.int .i64 0,.slice none 0 0,.int .i64 0,.slice none 0 0,.int .i64 0,.slice none 0 0] 37 (0,0))
  up : w.heap.size + 2 <= wr.heap.size
def RelLm (B : Nat) (w : World) (xs : List E) (ks : List UInt8) (v7 v52 : Value) (g : Nat) (wr : World) : Prop :=
  ∃ (i : Nat) (vs : List VM) (ts : List LT),i + g = xs.length /\ v52 = .int .i64 i /\ LaSt B w xs ks i vs ts v7 wr
def lawR (xs : List E) (ks : List UInt8) : FR := match meanL S0 xs ks with
  | .error e => .err e
  | .ok [.num n] => stdM n
  | .ok [.num p,.num m,.lst l] => chkR p m l
  | .ok _ => .err 1
theorem lawR_err {xs : List E} {ks : List UInt8} {e : Int} (h : meanL S0 xs ks = .error e) : lawR xs ks = .err e := by unfold lawR;rw [h]
def LSq (a w : World) : Prop := Below a.heap.size a w

theorem len_three {α : Type} {l : List α} (h : l.length = 3) : ∃ a b c,l = [a,b,c] := by
  match l,h with
  | [a,b,c],_ => exact ⟨a,b,c,rfl⟩
theorem lit_num {k n : Int} {ls : List Int} {v : VM} (h : litM k n ls 78 = .ok v) : v = .num n := by
  unfold litM at h
  split at h
  . cases h
  . split at h
    . injection h with h
      exact h.symm
    . rw [if_neg (fun e => absurd e.1 (by decide))] at h
      cases h
theorem lit_lst {k n : Int} {ls : List Int} {v : VM} (h : litM k n ls 76 = .ok v) : v = .lst ls := by
  unfold litM at h
  split at h
  . cases h
  . rw [if_neg (fun e => absurd e.1 (by decide))] at h
    split at h
    . injection h with h
      exact h.symm
    . cases h
theorem arg_at {xs : List E} {ks : List UInt8} {i : Nat} {vs : List VM} (h : Upto S0 xs ks i vs) {j : Nat} (hj : j < i) {x : E} (hx : xs[j]? = some x) {kd : UInt8} (hk : ks[j]? = some kd) (hkd : kd = 78 \/ kd = 76) : vs[j]? = some (if kd = 78 then .num x.n else .lst x.ls) := by
  obtain ⟨x',kd',v,e1,e2,e3,e4⟩ := h.2 j hj
  rw [hx] at e1
  injection e1 with e1
  rw [hk] at e2
  injection e2 with e2
  subst e1 e2
  rw [e3]
  unfold argM at e4
  rw [if_neg (by rcases hkd with h | h <;> rw [h] <;> decide)] at e4
  rcases hkd with rfl | rfl
  . rw [if_pos rfl,lit_num e4]
  . rw [if_neg (by decide),lit_lst e4]
theorem law_field {B : Nat} {w : World} {xs : List E} {ks : List UInt8} {aa : Option Addr} {g cap : Nat} {vs : List VM} {ts : List LT} {wr : World} (hk : (xs.length = 1 /\ ks = [78]) \/ (xs.length = 3 /\ ks = [78,78,76])) (_ha : ArgsAt w (· < B) aa xs) (hB : B <= w.heap.size)
    (hl : ∀ x,x ∈ xs -> x.ls.length <= 1000000) (hg : g < wr.heap.size) (h : LaSt B w xs ks xs.length vs ts (.slice (some ⟨g,0,none⟩) xs.length cap) wr) :
    ∃ r : FR,lawR xs ks = r /\ Calls Tryz.prog 35 #[.slice (some ⟨g,0,none⟩) xs.length cap] wr (FldL wr (· < B) r) := by
  have hkl : xs.length = ks.length := by rcases hk with ⟨h1,h2⟩ | ⟨h1,h2⟩ <;> rw [h1,h2] <;> rfl
  have hml := Upto.all hkl h.upto
  have hcell : ∀ (j : Nat) (t : LT),ts[j]? = some t -> ∀ i,i < 10 -> wr.cell? ⟨g,j * 10 + i,none⟩ = (lvC t.1 t.2.1 t.2.2.1.length t.2.2.2)[i]? := fun j t ht i hi => by
    have h1 := flatT_at ts j t ht i hi
    obtain ⟨u,hu⟩ : ∃ u,(lvC t.1 t.2.1 t.2.2.1.length t.2.2.2)[i]? = some u := ⟨_,List.getElem?_eq_getElem (show i < 10 from hi)⟩
    rw [hu] at h1
    have h2 := h.own.cells (g := g) rfl _ _ h1
    rw [Addr.add_mid,Nat.zero_add] at h2
    rw [h2,hu]
  have hvl := h.upto.1
  have htl := h.tl
  rcases hk with ⟨h1,rfl⟩ | ⟨h3,rfl⟩
  . obtain ⟨x0,rfl⟩ : ∃ x0,xs = [x0] := List.length_eq_one_iff.1 h1
    obtain ⟨t0,rfl⟩ : ∃ t0,ts = [t0] := List.length_eq_one_iff.1 htl
    obtain ⟨v0,rfl⟩ : ∃ v0,vs = [v0] := List.length_eq_one_iff.1 hvl
    have e0 := arg_at h.upto (j := 0) Nat.one_pos rfl rfl (.inl rfl)
    injection e0 with e0
    rw [if_pos rfl] at e0
    subst e0
    obtain ⟨y,hy,hn,_,_⟩ := h.tm 0 t0 rfl
    injection hy with hy
    subst hy
    refine ⟨stdM x0.n,by unfold lawR;rw [hml],theField1_c g cap x0.n _ wr hg ?_⟩
    rw [<- hn]
    exact hcell 0 t0 rfl 8 (by decide)
  . obtain ⟨x0,x1,x2,rfl⟩ : ∃ x0 x1 x2,xs = [x0,x1,x2] := len_three h3
    obtain ⟨t0,t1,t2,rfl⟩ : ∃ t0 t1 t2,ts = [t0,t1,t2] := len_three htl
    obtain ⟨v0,v1,v2,rfl⟩ : ∃ v0 v1 v2,vs = [v0,v1,v2] := len_three hvl
    have e0 := arg_at h.upto (j := 0) (by show 0 < 3;omega) rfl rfl (.inl rfl)
    have e1 := arg_at h.upto (j := 1) (by show 1 < 3;omega) rfl rfl (.inl rfl)
    have e2 := arg_at h.upto (j := 2) (by show 2 < 3;omega) rfl rfl (.inr rfl)
    injection e0 with e0
    injection e1 with e1
    injection e2 with e2
    rw [if_pos rfl] at e0 e1
    rw [if_neg (by decide)] at e2
    subst e0 e1 e2
    obtain ⟨y,hy,hn0,_,_⟩ := h.tm 0 t0 rfl
    injection hy with hy
    subst hy
    obtain ⟨y,hy,hn1,_,_⟩ := h.tm 1 t1 rfl
    injection hy with hy
    subst hy
    obtain ⟨y,hy,_,hl2,hi2⟩ := h.tm 2 t2 rfl
    injection hy with hy
    subst hy
    rw [hl2] at hi2
    refine ⟨chkR x0.n x1.n x2.ls,by unfold lawR;rw [hml],theField3_c g cap x0.n x1.n x2.ls t2.2.1 t2.2.2.2 _ wr hg ?_ ?_ ?_ (hi2.mono fun b hb _ => ⟨hb,h.below.block b (Nat.lt_of_lt_of_le hb hB)⟩) (hl x2 (by simp))⟩
    . rw [<- hn0]
      exact hcell 0 t0 rfl 8 (by decide)
    . rw [<- hn1]
      exact hcell 1 t1 rfl 8 (by decide)
    . rw [<- hl2]
      exact hcell 2 t2 rfl 9 (by decide)

set_option maxHeartbeats 8000000 in
set_option maxRecDepth 100000 in
theorem lmean_ok (n : Int) (xs : List E) (ks : List UInt8) (la : Option Addr) (ll lc : Nat) (aa : Option Addr) (ac : Nat) (B : Nat) (w : World) (hk : (xs.length = 1 /\ ks = [78]) \/ (xs.length = 3 /\ ks = [78,78,76])) (ha : ArgsAt w (· < B) aa xs) (hB : B <= w.heap.size)
    (hl : ∀ x,x ∈ xs -> x.ls.length <= 1000000) :
    Calls Tryz.prog 22 #[.agg #[.int .i64 3,.string ⟨gfN.toArray⟩,.int .i64 n,.slice la ll lc,.slice aa xs.length ac],.int .u8 70] w
      (LawPost w (· < B) (lawR xs ks)) := by
  obtain ⟨i0,hi,hz0,hz1,hz2⟩ := info_parts infoLawV
  have HI := Lib.hid hi
  have HZ0 := Lib.hid hz0
  have HZ1 := Lib.hid hz1
  have HZ2 := Lib.hid hz2
  have HB := Lib.hid (bx2 w #[.int .i64 3,.string ⟨gfN.toArray⟩,.int .i64 n,.slice la ll lc,.slice aa xs.length ac] #[.int .i64 0,.int .i64 0,.slice none 0 0,.int .i64 0,.int .i64 0,.slice none 0 0,.int .i64 0,.slice none 0 0,.int .i64 0,.slice none 0 0] 25 37)
  have HWL : Hid (((w.alloc (.cells #[.int .i64 3,.string ⟨gfN.toArray⟩,.int .i64 n,.slice la ll lc,.slice aa xs.length ac] 25)).alloc (.cells #[.int .i64 0,.int .i64 0,.slice none 0 0,.int .i64 0,.int .i64 0,.slice none 0 0,.int .i64 0,.slice none 0 0,.int .i64 0,.slice none 0 0] 37)).heap.size = w.heap.size + 2) := by show _ = _;simp
  have HKS := Lib.hid hk
  have HA := Lib.hid ha
  have HL := Lib.hid hl
  have hx3 : xs.length <= 3 := by rcases hk with h | h <;> omega
  have hx0 : 0 < xs.length := by rcases hk with h | h <;> omega
  have HKL : Hid (ks.length = xs.length) := by show _ = _;rcases hk with h | h <;> rw [h.1,h.2] <;> rfl
  have HK2 : Hid (∀ (i : Nat) (kd : UInt8),ks[i]? = some kd -> kd = 78 \/ kd = 76) := kinds_of hk
  have HFM : Hid (formsB (⟨gfN.toArray⟩ : ByteArray).toList (xs.length : Int) = ⟨(70 :: ks).toArray⟩) := by
    show _ = _
    rw [toList_ba,forms_gf]
    rcases hk with ⟨h1,h2⟩ | ⟨h1,h2⟩
    . rw [if_pos (by omega),h2]
    . rw [if_neg (by omega),h2]
  have hsz : (⟨(70 :: ks).toArray⟩ : ByteArray).size = xs.length + 1 := by rw [size_ba];have := HKL.out;simp;omega
  have HIX : Hid (∀ (i : Nat) (kd : UInt8),ks[i]? = some kd -> ∀ W : World,(Instr.index 9 (.string ⟨(70 :: ks).toArray⟩) (.int .i64 ((i : Int) + 1))).run Tryz.prog W = .ok (.int .u8 kd.toNat) W) := fun i kd h W => index_str (70 :: ks) (i + 1) kd (by simpa using h) W
  have HIZ : Hid (∀ W : World,(Instr.index 9 (.string ⟨(70 :: ks).toArray⟩) (.int .i64 0)).run Tryz.prog W = .ok (.int .u8 70) W) := fun W => index_zero 70 ks W
  clear hi hz0 hz1 hz2 ha hl hk
  go_enter Tryz.func22,Tryz.ntmps22
  go_upto_region 1 with fail
  generalize (w.alloc (.cells #[.int .i64 3,.string ⟨gfN.toArray⟩,.int .i64 n,.slice la ll lc,.slice aa xs.length ac] 25)).alloc (.cells #[.int .i64 0,.int .i64 0,.slice none 0 0,.int .i64 0,.int .i64 0,.slice none 0 0,.int .i64 0,.slice none 0 0,.int .i64 0,.slice none 0 0] 37) = W at *
  have hb0 : W.heap[w.heap.size]? = some (.cells #[.int .i64 3,.string ⟨gfN.toArray⟩,.int .i64 n,.slice la ll lc,.slice aa xs.length ac] 25 (0,0)) := HB.out.at_ (i := 0) rfl
  obtain ⟨b0,b1,b2,b3,b4⟩ := cells5 hb0
  have HK : Hid (W.heap[w.heap.size + 1]? = some (.cells #[.int .i64 0,.int .i64 0,.slice none 0 0,.int .i64 0,.int .i64 0,.slice none 0 0,.int .i64 0,.slice none 0 0,.int .i64 0,.slice none 0 0] 37 (0,0))) := HB.out.at_ (i := 1) rfl
  clear hb0
  go_wp2_with fail
  refine (forms_c _ _ _).mono ?_
  rintro e w1 ⟨rfl,rfl⟩
  rw [HFM.out]
  clear HFM
  have hix := HIZ.out
  generalize hfm : (⟨(70 :: ks).toArray⟩ : ByteArray) = fm at *
  have hq : (fm.toList == []) = false := by rw [<- hfm,toList_ba];rfl
  clear hfm
  have hne : ((xs.length : Int) + 1 != (xs.length : Int) + 1) = false := by simp
  go_wp2_with fail
  clear hix hq hne hsz b0 b1 b2 b3 b4 HIZ
  go_loopg [7,52] xs.length (fun g v7 v52 wr => RelLm B w xs ks v7 v52 g wr)
  case atStart => exact ⟨0,[],[],by omega,rfl,⟨World.ownsRow_nil _ _ _ _,HB.out.below,Upto.zero _ _,rfl,fun j t h => by simp at h,HK.out,Nat.le_of_eq HWL.out.symm⟩⟩
  case round =>
    obtain ⟨i,vs,ts,hig,rfl,hst⟩ := hrel
    have HST := Lib.hid hst
    have hup := hst.up
    clear hst HK HB HWL
    by_cases hi : i < xs.length
    . obtain ⟨b,o,haa,hbB,hxs⟩ := HA.out hx0
      obtain ⟨cs5,hrg,hec⟩ := ExprsC.at_ xs o i xs[i] hxs (List.getElem?_eq_getElem hi)
      obtain ⟨k',nm',n',ls',xs',hxe⟩ : ∃ k' nm' n' ls' xs',xs[i] = E.mk k' nm' n' ls' xs' := by
        cases hx : xs[i] with
        | mk a b c d e => exact ⟨a,b,c,d,e,rfl⟩
      obtain ⟨kd,hkd⟩ : ∃ kd,ks[i]? = some kd := ⟨ks[i]'(by have := HKL.out;omega),List.getElem?_eq_getElem _⟩
      have hec2 := hec
      rw [hxe] at hec2
      unfold ExprC at hec2
      obtain ⟨la',lc',aa',ac',rfl,hli',_⟩ := hec2
      have HRG : Hid (wr.rangeAt b (o + i * 5) [.int .i64 k',.string ⟨nm'.toArray⟩,.int .i64 n',.slice la' ls'.length lc',.slice aa' xs'.length ac']) := range_keep hrg (HST.out.below.block b (by omega))
      have HBX : Hid (Below wr.heap.size wr (wr.alloc (.cells #[.int .i64 k',.string ⟨nm'.toArray⟩,.int .i64 n',.slice la' ls'.length lc',.slice aa' xs'.length ac'] 25))) := (Below.refl _ _).alloc (Nat.le_refl _) _
      have HXN : Hid ((wr.alloc (.cells #[.int .i64 k',.string ⟨nm'.toArray⟩,.int .i64 n',.slice la' ls'.length lc',.slice aa' xs'.length ac'] 25)).rangeAt wr.heap.size 0 [.int .i64 k',.string ⟨nm'.toArray⟩,.int .i64 n',.slice la' ls'.length lc',.slice aa' xs'.length ac']) := range_of_row (heap_alloc_new _ _)
      have hsx : wr.heap.size < (wr.alloc (.cells #[.int .i64 k',.string ⟨nm'.toArray⟩,.int .i64 n',.slice la' ls'.length lc',.slice aa' xs'.length ac'] 25)).heap.size := by simp
      have HLI := Lib.hid hli'
      have HXE := Lib.hid hxe
      have HKD := Lib.hid hkd
      have HHI := Lib.hid hi
      have hix := HIX.out i kd hkd
      have HKK := Lib.hid (HK2.out i kd hkd)
      have k0 : (0 : Int) <= (i : Int) := by omega
      have k1 : (i : Int) < (xs.length : Int) := by omega
      have hw : IntKind.i64.wrap ((i : Int) + 1) = (i : Int) + 1 := IntWalk.i64_in _ (by omega)
      subst haa
      clear hxs hrg hec hli' hxe hkd
      go_upto_region 16 with (first
        | (refine wpList_load_mid rfl 25 (.tmp 55) rfl b (o + i * 5) rfl [.int .i64 k',.string ⟨nm'.toArray⟩,.int .i64 n',.slice la' ls'.length lc',.slice aa' xs'.length ac'] _ HRG.out Tryz.underlying25 rfl exprSize ?_)
        | (refine wpList_store_new rfl 25 (.tmp 9) (.tmp 56) rfl wr _ #[.int .i64 k',.string ⟨nm'.toArray⟩,.int .i64 n',.slice la' ls'.length lc',.slice aa' xs'.length ac'] rfl rfl exprSize rfl (by simp [Value.oneCell']) ?_))
      generalize (wr.alloc (.cells #[.int .i64 k',.string ⟨nm'.toArray⟩,.int .i64 n',.slice la' ls'.length lc',.slice aa' xs'.length ac'] 25)) = Wa at *
      have HRX : Hid (∀ W,LSq Wa W -> W.rangeAt wr.heap.size 0 [.int .i64 k',.string ⟨nm'.toArray⟩,.int .i64 n',.slice la' ls'.length lc',.slice aa' xs'.length ac']) := fun W hW => range_keep HXN.out (Below.block hW _ hsx)
      have HS0 : Hid (LSq Wa Wa.drew) := (Below.refl _ _).drew
      refine wp_region_mixx 11 10 9 (LSq Wa) [(0,0),(1,1),(1,2),(1,3),(1,4),(2,5),(1,6),(1,7),(1,8)] [(3,10)] default _ (.cells #[.int .i64 0,.int .i64 0,.slice none 0 0,.int .i64 0,.int .i64 0,.slice none 0 0,.int .i64 0,.slice none 0 0,.int .i64 0,.slice none 0 0] 37) (by kernel_rfl) (by kernel_rfl) (fun _ _ d _ _ h => by cases d <;> exact h) rfl rfl ?_ (fun W h => Below.alloc h (Below.size h) _) HS0.out ?_
      . intro a w
        unfold ptrTo
        go_simp
      simp only [List.map_cons,List.map_nil,List.getD_cons_zero,List.getD_cons_succ]
      refine x_load_mid rfl 25 (.tmp 9) rfl wr.heap.size 0 rfl [.int .i64 k',.string ⟨nm'.toArray⟩,.int .i64 n',.slice la' ls'.length lc',.slice aa' xs'.length ac'] _ HRX.out Tryz.underlying25 rfl exprSize ?_
      go_simp
      iterate 3
        apply x_free rfl
        . intro W
          go_simp
          try rfl
        go_simp
      apply x_free rfl
      . intro W
        refine Eq.trans ?_ (congrArg (fun r => Result.andThen r fun a w' => Result.ok (Next.value a) w') (hix W))
        go_simp
      go_simp
      apply x_call rfl
      . intro W
        go_simp
        exact ⟨rfl,rfl⟩
      intro W1 hW1 hS1
      with_reducible refine (one_c k' ⟨nm'.toArray⟩ n' la' ls'.length lc' aa' xs'.length ac' kd W1 HKK.out).mono ?_
      rintro e w2 ⟨rfl,hb2⟩
      refine ⟨_,rfl,Below.trans hS1 (hb2.mono (Below.size hS1)),hb2,?_⟩
      have HTEN : Hid ((if litE k' kd = 0 then lvC n' la' ls'.length lc' else lvZ).toArray.size = 10) := by show _ = _;split <;> rfl
      have HONE : Hid ((if litE k' kd = 0 then lvC n' la' ls'.length lc' else lvZ).toArray.all (fun v => v.oneCell') = true) := by show _ = _;split <;> simp [lvC,lvZ,Value.oneCell']
      have HCS : Hid ((if litE k' kd = 0 then lvC n' la' ls'.length lc' else lvZ).toArray = if litE k' kd = 0 then (lvC n' la' ls'.length lc').toArray else #[.int .i64 0,.int .i64 0,.slice none 0 0,.int .i64 0,.int .i64 0,.slice none 0 0,.int .i64 0,.slice none 0 0,.int .i64 0,.slice none 0 0]) := by show _ = _;split <;> rfl
      generalize (if litE k' kd = 0 then lvC n' la' ls'.length lc' else lvZ).toArray = cs10 at *
      go_simp
      iterate 3
        apply x_free rfl
        . intro W
          go_simp
          rfl
        go_simp
      refine x_nil ?_
      intro W3 b9 hW3 hS3 hlo hF hb
      have HB9 := Lib.hid hb
      have hwb : wr.heap.size <= b9 := by omega
      have HB5 : Hid (Below wr.heap.size wr (W3.setRow b9 cs10)) := below_setRow (HBX.out.trans (Below.mono hS3 HBX.out.size)) hwb _
      have HKY : Hid ((W3.setRow b9 cs10).heap[b9]? = some (.cells cs10 37 (0,0))) := setRow_same _ _ _ _ _ hb
      have HVS : Hid ((Tryz.prog.info? 37).map (·.size) = some cs10.size) := by show _ = _;rw [HTEN.out];exact lawvSize
      clear hW1 hS1 hb2 hW3 hF hlo hS3 hb
      refine mixf_store_row rfl 37 (.tmp 10) (.tmp 64) rfl b9 37 #[.int .i64 0,.int .i64 0,.slice none 0 0,.int .i64 0,.int .i64 0,.slice none 0 0,.int .i64 0,.slice none 0 0,.int .i64 0,.slice none 0 0] cs10 rfl rfl HB9.out HVS.out HTEN.out.symm HONE.out ?_
      go_simp
      refine mixf_nil ?_
      clear HB9 HVS HRX HS0 HXN HTEN HONE HBX hsx hix
      generalize W3.setRow b9 cs10 = W5 at *
      have HOW : Hid (W5.ownsRow (w.heap.size + 2) 37 10 u7 i (flatT ts)) :=
        HST.out.own.kept (row := none) ⟨HB5.out.os,HB5.out.tape,HB5.out.output,HB5.out.size,fun j hj _ => HB5.out.block j hj⟩ (by cases u7.ownBlock <;> simp)
      have HBW5 : Hid (Below w.heap.size w W5) := HST.out.below.trans (HB5.out.mono HST.out.below.size)
      have HZ5 : Hid (W5.heap[w.heap.size + 1]? = some (.cells #[.int .i64 0,.int .i64 0,.slice none 0 0,.int .i64 0,.int .i64 0,.slice none 0 0,.int .i64 0,.slice none 0 0,.int .i64 0,.slice none 0 0] 37 (0,0))) := (HB5.out.block _ (by omega)).trans HST.out.zero
      have hup5 : w.heap.size + 2 <= W5.heap.size := Nat.le_trans hup HB5.out.size
      have HARG : Hid (argM S0 (xs[i]'hi) kd = litM k' n' ls' kd) := by
        show _ = _
        rw [HXE.out]
        exact if_neg (by rcases HKK.out with h | h <;> rw [h] <;> decide)
      by_cases hE : litE k' kd = 0
      . have hcs := HCS.out
        rw [if_pos hE] at hcs
        subst hcs
        have HUP : Hid (Upto S0 xs ks (i + 1) (vs ++ [if kd = 78 then .num n' else .lst ls'])) := HST.out.upto.snoc (List.getElem?_eq_getElem HHI.out) HKD.out (by rw [HARG.out,lit_ok hE])
        rw [hE]
        have HO6 : Hid ((W5.alloc (.cells #[.int .i64 0,.int .i64 0,.slice none 0 0,.int .i64 0,.int .i64 0,.slice none 0 0,.int .i64 0,.slice none 0 0,.int .i64 n',.slice la' ls'.length lc'] 37)).ownsRow (w.heap.size + 2) 37 10 u7 i (flatT ts)) := World.ownsRow.alloc HOW.out _
        have HKR : Hid (W5.rangeAt b9 0 (lvC n' la' ls'.length lc')) := range_of_row HKY.out
        clear HCS hE HARG HKY
        go_wp2_with (first
          | (refine wpList_load_mid rfl 37 (.tmp 10) rfl b9 0 rfl [.int .i64 0,.int .i64 0,.slice none 0 0,.int .i64 0,.int .i64 0,.slice none 0 0,.int .i64 0,.slice none 0 0,.int .i64 n',.slice la' ls'.length lc'] _ HKR.out Tryz.underlying37 rfl lawvSize ?_)
          | (refine wpList_buildSlice rfl 73 37 1 _ rfl #[.int .i64 0,.int .i64 0,.slice none 0 0,.int .i64 0,.int .i64 0,.slice none 0 0,.int .i64 0,.slice none 0 0,.int .i64 n',.slice la' ls'.length lc'] i0 _ Tryz.underlying73 HI.out HZ0.out (by rw [HZ1.out];decide) (by rw [HZ1.out];decide) (by rw [HZ1.out];rfl) ?_)
          | (at_builtin;refine wpList_append_own_at _ rfl (.tmp 70) (.tmp 72) 73 rfl (w.heap.size + 2) 37 i0 _ 10 144 Tryz.underlying73 HI.out HZ0.out HZ1.out HZ2.out rfl (by decide) u7 i (flatT ts) rfl HO6.out ⟨W5.heap.size,0,none⟩ 1 1 (lvC n' la' ls'.length lc') rfl rfl ?c1 ?c2 ?c3 ?c4 ?c5 ?_))
        case c1 => exact World.news_of_block (cs := #[.int .i64 0,.int .i64 0,.slice none 0 0,.int .i64 0,.int .i64 0,.slice none 0 0,.int .i64 0,.slice none 0 0,.int .i64 n',.slice la' ls'.length lc']) (t := 37) (fr := (0,0)) (heap_alloc_new W5 _)
        case c2 => exact one_all rfl
        case c3 => unfold maxLen;omega
        case c4 => omega
        case c5 => simp;omega
        intro v' w7 hown' hgw _ hat
        have HG7 : Hid (Below (w.heap.size + 2) (W5.alloc (.cells #[.int .i64 0,.int .i64 0,.slice none 0 0,.int .i64 0,.int .i64 0,.slice none 0 0,.int .i64 0,.slice none 0 0,.int .i64 n',.slice la' ls'.length lc'] 37)) w7) := (Below.refl _ _).grown hgw (by simp;omega) (fun j hj => (HO6.out.lt j hj).1)
        have HG6 : Hid (Below (w.heap.size + 2) W5 w7) := ((Below.refl (w.heap.size + 2) W5).alloc hup5 _).trans HG7.out
        have HBW7 : Hid (Below w.heap.size w w7) := HBW5.out.trans (HG6.out.mono (by omega))
        have HOW7 : Hid (w7.ownsRow (w.heap.size + 2) 37 10 v' (i + 1) (flatT (ts ++ [(n',la',ls',lc')]))) := by
          have := hown'
          rw [flatT_snoc]
          exact this
        have HZ7 : Hid (w7.heap[w.heap.size + 1]? = some (.cells #[.int .i64 0,.int .i64 0,.slice none 0 0,.int .i64 0,.int .i64 0,.slice none 0 0,.int .i64 0,.slice none 0 0,.int .i64 0,.slice none 0 0] 37 (0,0))) := (HG6.out.block _ (by omega)).trans HZ5.out
        have HTM : Hid (∀ (j : Nat) (t : LT),(ts ++ [(n',la',ls',lc')])[j]? = some t -> ∃ x : E,xs[j]? = some x /\ t.1 = x.n /\ t.2.2.1 = x.ls /\ IntsF w (· < B) t.2.1 t.2.2.1) := fun j t ht => by
          rcases Nat.lt_or_ge j ts.length with h | h
          . rw [List.getElem?_append_left h] at ht
            exact HST.out.tm j t ht
          . obtain rfl : j = ts.length := by have := (List.getElem?_eq_some_iff.1 ht).1;simp at this;omega
            rw [List.getElem?_append_right (Nat.le_refl _),Nat.sub_self] at ht
            injection ht with ht
            subst ht
            refine ⟨xs[i]'hi,by rw [HST.out.tl];exact List.getElem?_eq_getElem HHI.out,?_,?_,HLI.out⟩
            . rw [HXE.out];rfl
            . rw [HXE.out];rfl
        have HTL : Hid ((ts ++ [(n',la',ls',lc')]).length = i + 1) := by show _ = _;simp [HST.out.tl]
        have hup7 : w.heap.size + 2 <= w7.heap.size := Nat.le_trans hup5 HG6.out.size
        clear hown' hgw hat HST HOW HO6 HKR HZ5 HBW5 HG7 HG6 HB5
        go_wp2_with fail
        go_roundg (xs.length - (i + 1))
        case measure => omega
        case rel => exact ⟨i + 1,_,_,by omega,by go_num,⟨HOW7.out,HBW7.out,HUP.out,HTL.out,HTM.out,HZ7.out,hup7⟩⟩
      . have hcs := HCS.out
        rw [if_neg hE] at hcs
        subst hcs
        have hn0 : ((litE k' kd : Int) != 0) = true := by simpa using hE
        have HER : Hid (lawR xs ks = .err (litE k' kd)) := lawR_err <| Upto.err HST.out.upto (List.getElem?_eq_getElem HHI.out) HKD.out (by rw [HARG.out,lit_err hE])
        clear HCS hE HARG HST HOW HKY HB5
        generalize litE k' kd = ke at *
        go_wp2_with (refine wpList_store_row rfl 37 (.tmp 4) (.tmp 68) rfl _ (w.heap.size + 1) 37 #[.int .i64 0,.int .i64 0,.slice none 0 0,.int .i64 0,.int .i64 0,.slice none 0 0,.int .i64 0,.slice none 0 0,.int .i64 0,.slice none 0 0] #[.int .i64 0,.int .i64 0,.slice none 0 0,.int .i64 0,.int .i64 0,.slice none 0 0,.int .i64 0,.slice none 0 0,.int .i64 0,.slice none 0 0] rfl rfl HZ5.out lawvSize rfl (by simp [Value.oneCell']) ?_)
        refine bodyPost_ret (results_row_one (P := Tryz.prog) rfl _ _ (w.heap.size + 1) 37 #[.int .i64 0,.int .i64 0,.slice none 0 0,.int .i64 0,.int .i64 0,.slice none 0 0,.int .i64 0,.slice none 0 0,.int .i64 0,.slice none 0 0] (0,0) _ _ rfl rfl (setRow_same _ (w.heap.size + 1) _ _ _ HZ5.out) Tryz.underlying37 rfl lawvSize) rfl ?_
        rw [HER.out]
        exact ⟨⟨none,0,rfl,fun h => by simp [FR.err] at h⟩,below_setRow HBW5.out (by omega) _⟩
    . have hie : i = xs.length := by omega
      subst hie
      obtain ⟨g,cap,hv7,hlo,hlt⟩ := HST.out.own.form hx0
      subst hv7
      obtain ⟨r,hr,hcall⟩ : ∃ r : FR,lawR xs ks = r /\ Calls Tryz.prog 35 #[.slice (some ⟨g,0,none⟩) xs.length cap] wr (FldL wr (· < B) r) := law_field HKS.out HA.out hB HL.out hlt HST.out
      have HR := Lib.hid hr
      have HCALL := Lib.hid hcall
      have HBW := Lib.hid HST.out.below
      have HZW := Lib.hid HST.out.zero
      clear HST hr hcall HIX HA HL HKS HK2 HKL
      go_wp2_with fail
      refine HCALL.out.mono ?_
      rintro e w2 ⟨⟨A,c',rfl,hA⟩,hb2⟩
      have HAA := Lib.hid hA
      have HZ2W : Hid ((w2.alloc (.cells #[.int .i64 r.p,.int .i64 r.m,.slice A r.mod.length c'] 29)).heap[w.heap.size + 1]? = some (.cells #[.int .i64 0,.int .i64 0,.slice none 0 0,.int .i64 0,.int .i64 0,.slice none 0 0,.int .i64 0,.slice none 0 0,.int .i64 0,.slice none 0 0] 37 (0,0))) := (heap_alloc_old _ _ _ (by have := hb2.size;omega)).trans ((hb2.block _ (by omega)).trans HZW.out)
      have HBW2 : Hid (Below w.heap.size w (w2.alloc (.cells #[.int .i64 r.p,.int .i64 r.m,.slice A r.mod.length c'] 29))) := (HBW.out.trans (hb2.mono HBW.out.size)).alloc (by have := hb2.size;have := HBW.out.size;omega) _
      have hw2 : w.heap.size + 1 < w2.heap.size := by have := hb2.size;omega
      clear hA hb2 HCALL HZW HBW
      go_wp2_with (first
        | (refine wpList_store_new rfl 29 (.tmp 12) (.tmp 80) rfl w2 _ #[.int .i64 r.p,.int .i64 r.m,.slice A r.mod.length c'] rfl rfl fieldSize rfl (by simp [Value.oneCell']) ?_)
        | (refine wpList_load_mid rfl 29 (.tmp 12) rfl w2.heap.size 0 rfl [.int .i64 r.p,.int .i64 r.m,.slice A r.mod.length c'] _ (range_of_row (heap_alloc_new _ _)) Tryz.underlying29 rfl fieldSize ?_)
        | (refine wpList_store_row rfl 37 (.tmp 4) (.tmp 83) rfl _ (w.heap.size + 1) 37 #[.int .i64 0,.int .i64 0,.slice none 0 0,.int .i64 0,.int .i64 0,.slice none 0 0,.int .i64 0,.slice none 0 0,.int .i64 0,.slice none 0 0] #[.int .i64 r.p,.int .i64 r.m,.slice A r.mod.length c',.int .i64 0,.int .i64 0,.slice none 0 0,.int .i64 0,.slice none 0 0,.int .i64 0,.slice none 0 0] rfl rfl HZ2W.out lawvSize rfl (by simp [Value.oneCell']) ?_))
      refine bodyPost_ret (results_row_one (P := Tryz.prog) rfl _ _ (w.heap.size + 1) 37 #[.int .i64 r.p,.int .i64 r.m,.slice A r.mod.length c',.int .i64 0,.int .i64 0,.slice none 0 0,.int .i64 0,.slice none 0 0,.int .i64 0,.slice none 0 0] (0,0) _ _ rfl rfl (setRow_same _ (w.heap.size + 1) _ _ _ HZ2W.out) Tryz.underlying37 rfl lawvSize) rfl ?_
      rw [HR.out]
      refine ⟨⟨A,c',rfl,HAA.out.mono fun b hb hlt => ⟨?_,?_⟩⟩,below_setRow HBW2.out (by omega) _⟩
      . rcases hb with h | h
        . exact .inl h
        . exact .inr (by omega)
      . refine (setRow_other _ _ _ _ ?_).trans (heap_alloc_old _ _ _ hlt)
        rcases hb with h | h
        . have h : b < B := h;omega
        . omega
end Go.Proofs.YtaddcadapbpkfaaGreatDoor

