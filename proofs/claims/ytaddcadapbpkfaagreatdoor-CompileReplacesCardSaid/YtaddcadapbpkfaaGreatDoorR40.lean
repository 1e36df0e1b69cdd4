/-
 compile.Code and compile.Lower. The law: the example.
-/
import Derived.Laws.IdiomRangeMap
import Derived.Great.BuildSlice
import Derived.Test.YtaddcadapbpkfaaGreatDoorR39
namespace Go.Proofs.YtaddcadapbpkfaaGreatDoor
open Go.RowKit Pln
def CodeAns (w : World) (r : Res) (e : Ending) (w' : World) : Prop :=
 (∃ (v0 v1 v2 v3 v4 : Value) (k : Int),e = .returned (.tuple #[.agg #[v0,v1,v2,v3,v4],.int .i64 k]) /\ (#[v0,v1,v2,v3,v4].all fun v : Value => v.oneCell') = true /\ match r with
   | .error k' => k = k' /\ k ≠ 0 /\ [v0,v1,v2,v3,v4] = [.int .i64 0,.int .i64 0,.slice none 0 0,.int .i64 0,.slice none 0 0]
   | .ok (.cod p m mod N rows) => k = 0 /\ ∃ A c R kk,[v0,v1,v2,v3,v4] = [.int .i64 p,.int .i64 m,.slice A mod.length c,.int .i64 N,.slice R rows.length kk] /\ IntsAt w' w'.heap.size A mod /\ RowsAt w' w'.heap.size R (nzs rows)
   | .ok _ => False) /\ Below w.heap.size w w'
set_option maxHeartbeats 4000000 in
set_option maxRecDepth 100000 in
theorem Code_c (S : Sem) (x : E) (cs : List Value) (B : Nat) (w : World) (hsup : SupE S x false) (h : ExprC w (· < B) x cs) (hB : B <= w.heap.size) (hs : sizeE x <= 1000000000) (he : entE x <= 9223372036854775807) (hp : Pows w)
 (hr : (∃ k,startM S x false = .error k /\ k ≠ 0) \/ ∃ p m mod N rows,startM S x false = .ok (.cod p m mod N rows)) :
 Calls Tryz.prog 18 #[.agg cs.toArray] w (CodeAns w (startM S x false)) := by
 obtain ⟨k,nm,n,la,ll,lc,aa,al,ac,rfl⟩ := h.shape
 have HX := Lib.hid (bx2 w #[.int .i64 k,.string nm,.int .i64 n,.slice la ll lc,.slice aa al ac] #[.int .i64 0,.int .i64 0,.slice none 0 0,.int .i64 0,.slice none 0 0] 25 35)
 have HWL : Hid (((w.alloc (.cells #[.int .i64 k,.string nm,.int .i64 n,.slice la ll lc,.slice aa al ac] 25)).alloc (.cells #[.int .i64 0,.int .i64 0,.slice none 0 0,.int .i64 0,.slice none 0 0] 35)).heap.size = w.heap.size + 2) := by show _ = _;simp
 have HST : Hid (∀ W,Below w.heap.size w W -> Calls Tryz.prog 21 #[.agg #[.int .i64 k,.string nm,.int .i64 n,.slice la ll lc,.slice aa al ac],.bool false] W (MeanPost W (· < B) (startM S x false))) := fun W hW => start_c S x false _ B W hsup (ExprC.mono (fun b hb _ => ⟨hb,hW.block b (Nat.lt_of_lt_of_le hb hB)⟩) _ _ h) (Nat.le_trans hB hW.size) hs he (hp.keep hp.lt hW)
 have HR := Lib.hid hr
 clear h hs he hp hsup hr
 go_enter Tryz.func18,Tryz.ntmps18
 go_upto_region 1 with fail
 generalize (w.alloc (.cells #[.int .i64 k,.string nm,.int .i64 n,.slice la ll lc,.slice aa al ac] 25)).alloc (.cells #[.int .i64 0,.int .i64 0,.slice none 0 0,.int .i64 0,.slice none 0 0] 35) = W at *
 have HXR : Hid (W.rangeAt w.heap.size 0 [.int .i64 k,.string nm,.int .i64 n,.slice la ll lc,.slice aa al ac]) := qaB (HX.out.at_ (i := 0) rfl)
 have HK : Hid (W.heap[w.heap.size + 1]? = some (.cells #[.int .i64 0,.int .i64 0,.slice none 0 0,.int .i64 0,.slice none 0 0] 35 (0,0))) := HX.out.at_ (i := 1) rfl
 go_wp2_with (refine wpList_load_mid rfl 25 (.tmp 1) rfl w.heap.size 0 rfl [.int .i64 k,.string nm,.int .i64 n,.slice la ll lc,.slice aa al ac] _ HXR.out Tryz.underlying25 rfl exprSize ?_)
 refine (HST.out W HX.out.below).mono ?_
 rintro e w1 ⟨⟨cs,k1,rfl,hten,hone,hres⟩,hb1⟩
 have HTEN : Hid (cs.toArray.size = 10) := by show _ = _;simpa using hten
 have HONE : Hid (cs.toArray.all (fun v => v.oneCell') = true) := by show _ = _;simpa using hone
 have hvs : (Tryz.prog.info? 60).map (·.size) = some cs.toArray.size := by rw [HTEN.out];exact valueSize
 have HVS := Lib.hid hvs
 have HRES : Hid (ResIs w1 (fun b => b < B \/ W.heap.size <= b) (startM S x false) k1 cs) := hres
 have HB1 := Lib.hid (HX.out.below.trans (hb1.mono HX.out.below.size))
 have HK1 := Lib.hid ((hb1.block _ (by have := HWL.out;omega)).trans HK.out)
 have hw1 : w.heap.size + 2 <= w1.heap.size := by have := HWL.out;have := hb1.size;omega
 clear hb1 hten hone hvs hres HST HXR HK
 rcases HR.out with ⟨k',hst,hk'⟩ | ⟨p,m,mod,N,rows,hst⟩
 . have hr := HRES.out
   rw [hst] at hr
   have HSS := Lib.hid hst
   obtain ⟨rfl,hne⟩ := hr
   have HNE := Lib.hid hne
   have hn0 : ((k1 : Int) != 0) = true := by simpa using hne
   have HK2 : Hid ((w1.alloc (.cells cs.toArray 60)).heap[w.heap.size + 1]? = some (.cells #[.int .i64 0,.int .i64 0,.slice none 0 0,.int .i64 0,.slice none 0 0] 35 (0,0))) := (heap_alloc_old _ _ _ (by omega)).trans HK1.out
   have HB2 : Hid (Below w.heap.size w (w1.alloc (.cells cs.toArray 60))) := HB1.out.alloc (by omega) _
   clear HRES hst hk' hne HR
   go_wp2_with (first
    | (refine qaC rfl 60 (.tmp 4) (.tmp 9) rfl w1 _ cs.toArray rfl rfl HVS.out HTEN.out.symm HONE.out ?_)
    | (refine qaA rfl 35 (.tmp 2) (.tmp 13) rfl _ (w.heap.size + 1) 35 #[.int .i64 0,.int .i64 0,.slice none 0 0,.int .i64 0,.slice none 0 0] #[.int .i64 0,.int .i64 0,.slice none 0 0,.int .i64 0,.slice none 0 0] rfl rfl HK2.out codeSize rfl (by simp [Value.oneCell']) ?_))
   refine bodyPost_ret (qaE (P := Tryz.prog) rfl _ _ (w.heap.size + 1) 35 #[.int .i64 0,.int .i64 0,.slice none 0 0,.int .i64 0,.slice none 0 0] (0,0) _ _ rfl rfl (qaF _ (w.heap.size + 1) _ _ _ HK2.out) Tryz.underlying35 rfl codeSize) rfl ?_
   rw [HSS.out]
   exact ⟨⟨_,_,_,_,_,k1,rfl,by simp [Value.oneCell'],rfl,HNE.out,rfl⟩,qaD HB2.out (by omega) _⟩
 . have hr := HRES.out
   rw [hst] at hr
   have HSS := Lib.hid hst
   obtain ⟨rfl,A,c,R,kk,rfl,hA,hR⟩ := hr
   have HA := Lib.hid hA
   have HRR := Lib.hid hR
   have HK2 : Hid ((w1.alloc (.cells #[.int .i64 0,.int .i64 0,.slice none 0 0,.int .i64 p,.int .i64 m,.slice A mod.length c,.int .i64 N,.slice R rows.length kk,.int .i64 0,.slice none 0 0] 60)).heap[w.heap.size + 1]? = some (.cells #[.int .i64 0,.int .i64 0,.slice none 0 0,.int .i64 0,.slice none 0 0] 35 (0,0))) := (heap_alloc_old _ _ _ (by omega)).trans HK1.out
   have HB2 : Hid (Below w.heap.size w (w1.alloc (.cells #[.int .i64 0,.int .i64 0,.slice none 0 0,.int .i64 p,.int .i64 m,.slice A mod.length c,.int .i64 N,.slice R rows.length kk,.int .i64 0,.slice none 0 0] 60))) := HB1.out.alloc (by omega) _
   have HRV : Hid ((w1.alloc (.cells #[.int .i64 0,.int .i64 0,.slice none 0 0,.int .i64 p,.int .i64 m,.slice A mod.length c,.int .i64 N,.slice R rows.length kk,.int .i64 0,.slice none 0 0] 60)).rangeAt w1.heap.size 3 [.int .i64 p,.int .i64 m,.slice A mod.length c,.int .i64 N,.slice R rows.length kk]) := by
    have h1 := qaB (heap_alloc_new w1 (.cells #[.int .i64 0,.int .i64 0,.slice none 0 0,.int .i64 p,.int .i64 m,.slice A mod.length c,.int .i64 N,.slice R rows.length kk,.int .i64 0,.slice none 0 0] 60))
    intro j v hj
    match j,hj with
    | 0,hj => exact h1 3 v hj
    | 1,hj => exact h1 4 v hj
    | 2,hj => exact h1 5 v hj
    | 3,hj => exact h1 6 v hj
    | 4,hj => exact h1 7 v hj
    | j + 5,hj => simp at hj
   clear HRES hst hA hR HTEN HONE HVS HR
   go_wp2_with (first
    | (refine qaC rfl 60 (.tmp 4) (.tmp 9) rfl w1 _ #[.int .i64 0,.int .i64 0,.slice none 0 0,.int .i64 p,.int .i64 m,.slice A mod.length c,.int .i64 N,.slice R rows.length kk,.int .i64 0,.slice none 0 0] rfl rfl valueSize rfl (by simp [Value.oneCell']) ?_)
    | (refine wpList_load_mid rfl 35 (.tmp 15) rfl w1.heap.size 3 rfl [.int .i64 p,.int .i64 m,.slice A mod.length c,.int .i64 N,.slice R rows.length kk] _ HRV.out Tryz.underlying35 rfl codeSize ?_)
    | (refine qaA rfl 35 (.tmp 2) (.tmp 16) rfl _ (w.heap.size + 1) 35 #[.int .i64 0,.int .i64 0,.slice none 0 0,.int .i64 0,.slice none 0 0] #[.int .i64 p,.int .i64 m,.slice A mod.length c,.int .i64 N,.slice R rows.length kk] rfl rfl HK2.out codeSize rfl (by simp [Value.oneCell']) ?_))
   refine bodyPost_ret (qaE (P := Tryz.prog) rfl _ _ (w.heap.size + 1) 35 #[.int .i64 p,.int .i64 m,.slice A mod.length c,.int .i64 N,.slice R rows.length kk] (0,0) _ _ rfl rfl (qaF _ (w.heap.size + 1) _ _ _ HK2.out) Tryz.underlying35 rfl codeSize) rfl ?_
   rw [HSS.out]
   have hkeep : ∀ b,(b < B \/ W.heap.size <= b) -> b < w1.heap.size -> (b < B \/ w.heap.size + 2 <= b) /\ ((w1.alloc (.cells #[.int .i64 0,.int .i64 0,.slice none 0 0,.int .i64 p,.int .i64 m,.slice A mod.length c,.int .i64 N,.slice R rows.length kk,.int .i64 0,.slice none 0 0] 60)).setRow (w.heap.size + 1) #[.int .i64 p,.int .i64 m,.slice A mod.length c,.int .i64 N,.slice R rows.length kk]).heap[b]? = w1.heap[b]? := fun b hb hlt =>
    ⟨hb.imp id (fun h => by have := HWL.out;omega),(setRow_other _ _ _ _ (by
      have := HWL.out
      rcases hb with h | h <;> omega)).trans (heap_alloc_old _ _ _ hlt)⟩
   exact ⟨⟨_,_,_,_,_,0,rfl,by simp [Value.oneCell'],rfl,A,c,R,kk,rfl,(HA.out.mono hkeep).at_,(HRR.out.mono hkeep).at_⟩,qaD HB2.out (by omega) _⟩
set_option maxHeartbeats 4000000 in
set_option maxRecDepth 100000 in
theorem Lower_c (S : Sem) (L : LSem) (x : E) (cs : List Value) (B : Nat) (w : World) (v : VM) (hsup : SupE S x false) (hlow : LowE S L x) (h : ExprC w (· < B) x cs) (hB : B <= w.heap.size) (hs : sizeE x <= 1000000000) (he : entE x <= 9223372036854775807) (hp : Pows w)
 (hc : checkE x = 0) (hr : meanM S x false = .ok v) (hd : lowM S L x ≠ -1) :
 Calls Tryz.prog 19 #[.agg cs.toArray] w fun e w' => e = .returned (.tuple #[.int .i64 (lowM S L x),.int .i64 0]) /\ Below w.heap.size w w' := by
 obtain ⟨k,nm,n,la,ll,lc,aa,al,ac,rfl⟩ := h.shape
 have HX := Lib.hid (bx1 w #[.int .i64 k,.string nm,.int .i64 n,.slice la ll lc,.slice aa al ac] 25)
 have HWL : Hid ((w.alloc (.cells #[.int .i64 k,.string nm,.int .i64 n,.slice la ll lc,.slice aa al ac] 25)).heap.size = w.heap.size + 1) := by show _ = _;simp
 have HST : Hid (∀ W,Below w.heap.size w W -> Calls Tryz.prog 21 #[.agg #[.int .i64 k,.string nm,.int .i64 n,.slice la ll lc,.slice aa al ac],.bool false] W (MeanPost W (· < B) (startM S x false))) := fun W hW => start_c S x false _ B W hsup (ExprC.mono (fun b hb _ => ⟨hb,hW.block b (Nat.lt_of_lt_of_le hb hB)⟩) _ _ h) (Nat.le_trans hB hW.size) hs he (hp.keep hp.lt hW)
 have HLO : Hid (∀ tb W,Below w.heap.size w W -> Tb W tb (inBs (bas (upN 4))) -> Calls Tryz.prog 31 #[.agg #[.map (some tb)],.agg #[.int .i64 k,.string nm,.int .i64 n,.slice la ll lc,.slice aa al ac]] W fun e w' => e = .returned (.int .i64 (lowM S L x)) /\ Below W.heap.size W w') := fun tb W hW ht => lower_c S L x _ tb B W v hsup hlow hr (ExprC.mono (fun b hb _ => ⟨hb,hW.block b (Nat.lt_of_lt_of_le hb hB)⟩) _ _ h) (Nat.le_trans hB hW.size) ht
 have HSS : Hid (startM S x false = .ok v) := by show _ = _;unfold startM;rw [if_pos hc,hr]
 have hdd : ((lowM S L x : Int) == -1) = false := by simpa using hd
 clear h hs he hp hsup hlow hc hr hd
 generalize lowM S L x = d at *
 go_enter Tryz.func19,Tryz.ntmps19
 go_upto_region 1 with fail
 generalize w.alloc (.cells #[.int .i64 k,.string nm,.int .i64 n,.slice la ll lc,.slice aa al ac] 25) = W at *
 have HXR : Hid (W.rangeAt w.heap.size 0 [.int .i64 k,.string nm,.int .i64 n,.slice la ll lc,.slice aa al ac]) := qaB (HX.out.at_ (i := 0) rfl)
 go_wp2_with (refine wpList_load_mid rfl 25 (.tmp 1) rfl w.heap.size 0 rfl [.int .i64 k,.string nm,.int .i64 n,.slice la ll lc,.slice aa al ac] _ HXR.out Tryz.underlying25 rfl exprSize ?_)
 refine (HST.out W HX.out.below).mono ?_
 rintro e w1 ⟨⟨cs,k1,rfl,hten,hone,hres⟩,hb1⟩
 have HTEN : Hid (cs.toArray.size = 10) := by show _ = _;simpa using hten
 have HONE : Hid (cs.toArray.all (fun v => v.oneCell') = true) := by show _ = _;simpa using hone
 have hvs : (Tryz.prog.info? 60).map (·.size) = some cs.toArray.size := by rw [HTEN.out];exact valueSize
 have HVS := Lib.hid hvs
 rw [HSS.out] at hres
 obtain ⟨rfl,_⟩ := hres
 have HB1 := Lib.hid ((HX.out.below.trans (hb1.mono HX.out.below.size)).alloc (Nat.le_trans HX.out.below.size hb1.size) (.cells cs.toArray 60))
 have HXR1 : Hid ((w1.alloc (.cells cs.toArray 60)).rangeAt w.heap.size 0 [.int .i64 k,.string nm,.int .i64 n,.slice la ll lc,.slice aa al ac]) := qaJ HXR.out ((heap_alloc_old _ _ _ (by have := HWL.out;have := hb1.size;omega)).trans (hb1.block _ (by have := HWL.out;omega)))
 have hw1 : w.heap.size < (w1.alloc (.cells cs.toArray 60)).heap.size := by have := HWL.out;have := hb1.size;simp;omega
 clear hb1 hten hone hvs HST HXR HX
 go_upto_region 4 with (refine qaC rfl 60 (.tmp 4) (.tmp 10) rfl w1 _ cs.toArray rfl rfl HVS.out HTEN.out.symm HONE.out ?_)
 generalize (w1.alloc (.cells cs.toArray 60)) = W2 at *
 have HRX : Hid (∀ W,LSs W2 W -> W.rangeAt w.heap.size 0 [.int .i64 k,.string nm,.int .i64 n,.slice la ll lc,.slice aa al ac]) := fun W hW => qaJ HXR1.out (Below.block hW _ hw1)
 have HS0 : Hid (LSs W2 W2.drew) := (Below.refl _ _).drew
 refine qaZ 4 4 (LSs W2) [(0,2),(2,0),(1,1),(2,3)] default (by kernel_rfl) (by kernel_rfl) (fun _ _ d _ _ h => by cases d <;> exact h) HS0.out ?_
 simp only [List.map_cons,List.map_nil,List.getD_cons_zero,List.getD_cons_succ]
 refine qaP rfl 25 (.tmp 1) rfl w.heap.size 0 rfl [.int .i64 k,.string nm,.int .i64 n,.slice la ll lc,.slice aa al ac] _ HRX.out Tryz.underlying25 rfl exprSize ?_
 go_simp
 apply qbF rfl
 . go_simp
   exact ⟨rfl,rfl⟩
 with_reducible refine (table_c _).mono ?_
 rintro e w3 ⟨⟨tb,rfl,htb⟩,hb3⟩
 have HS3 : Hid (LSs W2 w3) := HS0.out.trans (hb3.mono (Below.size HS0.out))
 refine ⟨_,rfl,HS3.out,?_⟩
 go_simp
 apply qaQ rfl
 . intro W
   go_simp
   rfl
 go_simp
 apply qbF rfl
 . go_simp
   exact ⟨rfl,rfl⟩
 have hbw3 : Below w.heap.size w w3 := HB1.out.trans (Below.mono HS3.out HB1.out.size)
 with_reducible refine (HLO.out tb w3 hbw3 htb).mono ?_
 rintro e w4 ⟨rfl,hb4⟩
 have HS4 : Hid (LSs W2 w4) := Below.trans HS3.out (hb4.mono (Below.size HS3.out))
 refine ⟨_,rfl,HS4.out,?_⟩
 go_simp
 refine qbX ?_
 have HB4 : Hid (Below w.heap.size w w4) := hbw3.trans (hb4.mono hbw3.size)
 clear hbw3 hb3 hb4 htb HS3 HS4 HS0 HRX HXR1 HLO
 show wpList _ _ _ _ _ _
 go_simp
 go_wp2_with fail
 go_ret2
 exact ⟨rfl,HB4.out⟩
end Go.Proofs.YtaddcadapbpkfaaGreatDoor
namespace Go.Proofs.YtaddcadapbpkfaaGreatDoor
open Go.RowKit Pln
theorem qcS {P : Program} {fn : Func} {p : Tmp} {ty : TypeId} (h : fn.results = #[.cell p ty]) (tmps : Array Value) (w : World) (g : Nat) (t : TypeId) (cs : Array Value) (fr : Nat × Nat) (d : TypeDesc)
 (hp : tmps.getD p undef = .pointer (some ⟨g,0,none⟩)) (hg : w.heap[g]? = some (.cells cs t fr))
 (hu : P.underlying ty = some d) (hd : (match d with | .struct _ | .array _ _ => true | _ => false) = true) (hi : (P.info? ty).map (·.size) = some cs.size) :
 (results fn tmps).run P w = .ok (.agg cs) w := by
 have hp' : tmps[p]?.getD undef = .pointer (some ⟨g,0,none⟩) := by simpa using hp
 simp [results,h,hp',asAddr,run_loadVar_row w g t ty cs fr d hg hu hd hi]
theorem infoExpr : (Tryz.prog.info? 25).map (fun i => (i.zero,i.size,i.bytes)) = some (some (.agg #[.int .i64 0,.string ⟨#[]⟩,.int .i64 0,.slice none 0 0,.slice none 0 0]),5,80) := by kernel_rfl
set_option maxHeartbeats 1000000 in
theorem number_c (n : Int) (w : World) : Calls Tryz.prog 16 #[.int .i64 n] w fun e w' => e = .returned (.agg #[.int .i64 1,.string ⟨#[]⟩,.int .i64 n,.slice none 0 0,.slice none 0 0]) /\ Below w.heap.size w w' := by
 have HX := Lib.hid (bx1 w #[.int .i64 0,.string ⟨#[]⟩,.int .i64 0,.slice none 0 0,.slice none 0 0] 25)
 go_enter Tryz.func16,Tryz.ntmps16
 go_upto_region 1 with fail
 generalize w.alloc (.cells #[.int .i64 0,.string ⟨#[]⟩,.int .i64 0,.slice none 0 0,.slice none 0 0] 25) = W at *
 have HK : Hid (W.heap[w.heap.size]? = some (.cells #[.int .i64 0,.string ⟨#[]⟩,.int .i64 0,.slice none 0 0,.slice none 0 0] 25 (0,0))) := HX.out.at_ (i := 0) rfl
 go_wp2_with (refine qaA rfl 25 (.tmp 2) (.tmp 4) rfl _ w.heap.size 25 #[.int .i64 0,.string ⟨#[]⟩,.int .i64 0,.slice none 0 0,.slice none 0 0] #[.int .i64 1,.string ⟨#[]⟩,.int .i64 n,.slice none 0 0,.slice none 0 0] rfl rfl HK.out exprSize rfl (by simp [Value.oneCell']) ?_)
 refine bodyPost_ret (qcS (P := Tryz.prog) rfl _ _ w.heap.size 25 #[.int .i64 1,.string ⟨#[]⟩,.int .i64 n,.slice none 0 0,.slice none 0 0] (0,0) _ rfl (qaF W w.heap.size _ _ _ HK.out) Tryz.underlying25 rfl exprSize) rfl ?_
 exact ⟨rfl,qaD HX.out.below (Nat.le_refl _) _⟩
set_option maxHeartbeats 1000000 in
theorem list_c (A : Option Addr) (l c : Nat) (w : World) : Calls Tryz.prog 17 #[.slice A l c] w fun e w' => e = .returned (.agg #[.int .i64 2,.string ⟨#[]⟩,.int .i64 0,.slice A l c,.slice none 0 0]) /\ Below w.heap.size w w' := by
 have HX := Lib.hid (bx1 w #[.int .i64 0,.string ⟨#[]⟩,.int .i64 0,.slice none 0 0,.slice none 0 0] 25)
 go_enter Tryz.func17,Tryz.ntmps17
 go_upto_region 1 with fail
 generalize w.alloc (.cells #[.int .i64 0,.string ⟨#[]⟩,.int .i64 0,.slice none 0 0,.slice none 0 0] 25) = W at *
 have HK : Hid (W.heap[w.heap.size]? = some (.cells #[.int .i64 0,.string ⟨#[]⟩,.int .i64 0,.slice none 0 0,.slice none 0 0] 25 (0,0))) := HX.out.at_ (i := 0) rfl
 go_wp2_with (refine qaA rfl 25 (.tmp 2) (.tmp 4) rfl _ w.heap.size 25 #[.int .i64 0,.string ⟨#[]⟩,.int .i64 0,.slice none 0 0,.slice none 0 0] #[.int .i64 2,.string ⟨#[]⟩,.int .i64 0,.slice A l c,.slice none 0 0] rfl rfl HK.out exprSize rfl (by simp [Value.oneCell']) ?_)
 refine bodyPost_ret (qcS (P := Tryz.prog) rfl _ _ w.heap.size 25 #[.int .i64 2,.string ⟨#[]⟩,.int .i64 0,.slice A l c,.slice none 0 0] (0,0) _ rfl (qaF W w.heap.size _ _ _ HK.out) Tryz.underlying25 rfl exprSize) rfl ?_
 exact ⟨rfl,qaD HX.out.below (Nat.le_refl _) _⟩
set_option maxHeartbeats 1000000 in
theorem callE_c (nm : ByteArray) (A : Option Addr) (l c : Nat) (w : World) : Calls Tryz.prog 15 #[.string nm,.slice A l c] w fun e w' => e = .returned (.agg #[.int .i64 3,.string nm,.int .i64 0,.slice none 0 0,.slice A l c]) /\ Below w.heap.size w w' := by
 have HX := Lib.hid (bx1 w #[.int .i64 0,.string ⟨#[]⟩,.int .i64 0,.slice none 0 0,.slice none 0 0] 25)
 go_enter Tryz.func15,Tryz.ntmps15
 go_upto_region 1 with fail
 generalize w.alloc (.cells #[.int .i64 0,.string ⟨#[]⟩,.int .i64 0,.slice none 0 0,.slice none 0 0] 25) = W at *
 have HK : Hid (W.heap[w.heap.size]? = some (.cells #[.int .i64 0,.string ⟨#[]⟩,.int .i64 0,.slice none 0 0,.slice none 0 0] 25 (0,0))) := HX.out.at_ (i := 0) rfl
 go_wp2_with (refine qaA rfl 25 (.tmp 4) (.tmp 7) rfl _ w.heap.size 25 #[.int .i64 0,.string ⟨#[]⟩,.int .i64 0,.slice none 0 0,.slice none 0 0] #[.int .i64 3,.string nm,.int .i64 0,.slice none 0 0,.slice A l c] rfl rfl HK.out exprSize rfl (by simp [Value.oneCell']) ?_)
 refine bodyPost_ret (qcS (P := Tryz.prog) rfl _ _ w.heap.size 25 #[.int .i64 3,.string nm,.int .i64 0,.slice none 0 0,.slice A l c] (0,0) _ rfl (qaF W w.heap.size _ _ _ HK.out) Tryz.underlying25 rfl exprSize) rfl ?_
 exact ⟨rfl,qaD HX.out.below (Nat.le_refl _) _⟩
abbrev Any : Nat -> Prop := fun _ => True
theorem exprC_num (w : World) (n : Int) : ExprC w Any (numE n) [.int .i64 1,.string ⟨#[]⟩,.int .i64 n,.slice none 0 0,.slice none 0 0] := by
 unfold numE ExprC
 exact ⟨none,0,none,0,rfl,fun h => absurd h (by decide),fun h => absurd h (by decide)⟩
theorem exprC_call {w : World} {nm : List UInt8} {b : Nat} {xs : List E} (h : ExprsC w Any b 0 xs) : ExprC w Any (.mk 3 nm 0 [] xs) [.int .i64 3,.string ⟨nm.toArray⟩,.int .i64 0,.slice none 0 0,.slice (some ⟨b,0,none⟩) xs.length xs.length] := by
 unfold ExprC
 exact ⟨none,0,some ⟨b,0,none⟩,xs.length,rfl,fun h => absurd h (by decide),fun _ => ⟨b,0,rfl,trivial,h⟩⟩
theorem exprC_du (w : World) : ExprC w Any duE [.int .i64 3,.string ⟨duN.toArray⟩,.int .i64 0,.slice none 0 0,.slice none 0 0] := by
 unfold duE ExprC
 exact ⟨none,0,none,0,rfl,fun h => absurd h (by decide),fun h => absurd h (by decide)⟩
theorem qdQ {w : World} {b : Nat} {C : List Value} {t : TypeId} (hb : w.heap[b]? = some (.cells C.toArray t (0,0))) (o : Nat) (cs : List Value) (hc : ∀ j u,cs[j]? = some u -> C[o + j]? = some u) : w.rangeAt b o cs := fun j u hj => by
 rw [cell_of_row _ _ (o + j) _ _ _ hb,List.getElem?_toArray]
 exact hc j u hj
theorem app_at (a b : List Value) (j : Nat) (u : Value) (h : b[j]? = some u) : (a ++ b)[a.length + j]? = some u := by
 rw [List.getElem?_append_right (by omega),Nat.add_sub_cancel_left]
 exact h
theorem exprs1 {w : World} {x : E} {cs : List Value} (h : ExprC w Any x cs) : ExprsC (w.alloc (.cells cs.toArray 25)) Any w.heap.size 0 [x] := by
 unfold ExprsC ExprsC
 exact ⟨⟨cs,qaB (heap_alloc_new _ _),h.grow ((Below.refl _ _).alloc (Nat.le_refl _) _)⟩,trivial⟩
theorem exprs3 {w : World} {x y z : E} {cs ds es : List Value} (h : ExprC w Any x cs) (k : ExprC w Any y ds) (l : ExprC w Any z es) : ExprsC (w.alloc (.cells (cs ++ ds ++ es).toArray 25)) Any w.heap.size 0 [x,y,z] := by
 have hb := heap_alloc_new w (.cells (cs ++ ds ++ es).toArray 25)
 have hg := (Below.refl w.heap.size w).alloc (Nat.le_refl _) (.cells (cs ++ ds ++ es).toArray 25)
 have hl := h.len
 have hl2 := k.len
 unfold ExprsC ExprsC ExprsC ExprsC
 refine ⟨⟨cs,qdQ hb 0 cs fun j u hj => ?_,h.grow hg⟩,⟨ds,qdQ hb 5 ds fun j u hj => ?_,k.grow hg⟩,⟨es,qdQ hb 10 es fun j u hj => ?_,l.grow hg⟩,trivial⟩
 . rw [Nat.zero_add,List.append_assoc,List.getElem?_append_left (List.getElem?_eq_some_iff.1 hj).1]
   exact hj
 . have := app_at cs ds j u hj
   rw [hl] at this
   rw [List.getElem?_append_left (List.getElem?_eq_some_iff.1 this).1]
   exact this
 . have := app_at (cs ++ ds) es j u hj
   rw [List.length_append,hl,hl2] at this
   exact this
theorem check_sh : checkE shE = 0 := by kernel_rfl
theorem check_du : checkE duE = 0 := by kernel_rfl
theorem start_sh : startM S1 shE false = .ok (.cod 2 3 md8 6 sh8) := by unfold startM;rw [if_pos check_sh,mean_sh]
theorem start_du : startM S1 duE false = .error 16 := by unfold startM;rw [if_pos check_du,mean_du]
theorem code_sh (cs : List Value) (w : World) (h : ExprC w Any shE cs) (hp : Pows w) : Calls Tryz.prog 18 #[.agg cs.toArray] w fun e w' => (∃ (v0 v1 v2 : Value) (R : Option Addr) (kk : Nat),e = .returned (.tuple #[.agg #[v0,v1,v2,.int .i64 6,.slice R 2 kk],.int .i64 0]) /\ (#[v0,v1,v2,.int .i64 6,.slice R 2 kk].all fun v : Value => v.oneCell') = true) /\ Below w.heap.size w w' := by
 have h1 := Code_c S1 shE cs w.heap.size w sup_sh h.all (Nat.le_refl _) (by decide) (by decide) hp (.inr ⟨_,_,_,_,_,start_sh⟩)
 rw [start_sh] at h1
 refine h1.mono ?_
 rintro e w' ⟨⟨v0,v1,v2,v3,v4,k,rfl,ho,rfl,A,c,R,kk,hv,_,_⟩,hb⟩
 simp only [List.cons.injEq,and_true] at hv
 obtain ⟨rfl,rfl,rfl,rfl,rfl⟩ := hv
 rw [sh8_v] at *
 exact ⟨⟨_,_,_,R,kk,rfl,ho⟩,hb⟩
theorem code_du (w : World) (hp : Pows w) : Calls Tryz.prog 18 #[.agg #[.int .i64 3,.string ⟨duN.toArray⟩,.int .i64 0,.slice none 0 0,.slice none 0 0]] w fun e w' => e = .returned (.tuple #[.agg #[.int .i64 0,.int .i64 0,.slice none 0 0,.int .i64 0,.slice none 0 0],.int .i64 16]) /\ Below w.heap.size w w' := by
 have h1 := Code_c S1 duE _ w.heap.size w sup_du (exprC_du w).all (Nat.le_refl _) (by decide) (by decide) hp (.inl ⟨_,start_du,by decide⟩)
 rw [start_du] at h1
 refine h1.mono ?_
 rintro e w' ⟨⟨v0,v1,v2,v3,v4,k,rfl,ho,rfl,_,hv⟩,hb⟩
 simp only [List.cons.injEq,and_true] at hv
 obtain ⟨rfl,rfl,rfl,rfl,rfl⟩ := hv
 exact ⟨rfl,hb⟩
theorem lower_sh (cs : List Value) (w : World) (h : ExprC w Any shE cs) (hp : Pows w) : Calls Tryz.prog 19 #[.agg cs.toArray] w fun e w' => e = .returned (.tuple #[.int .i64 5,.int .i64 0]) /\ Below w.heap.size w w' := by
 have h1 := Lower_c S1 L1 shE cs w.heap.size w _ sup_sh low_e_sh h.all (Nat.le_refl _) (by decide) (by decide) hp check_sh mean_sh (by rw [low_sh];decide)
 rw [low_sh] at h1
 exact h1
end Go.Proofs.YtaddcadapbpkfaaGreatDoor
