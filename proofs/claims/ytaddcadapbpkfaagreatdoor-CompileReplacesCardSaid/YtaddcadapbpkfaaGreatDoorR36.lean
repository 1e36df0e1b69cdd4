/-
 grs.generator, the walk. grs.Code where nothing is wrong.
-/
import Derived.Test.YtaddcadapbpkfaaGreatDoorR35
namespace Go.Proofs.YtaddcadapbpkfaaGreatDoor
open Go.RowKit Pln
def RelGen (w : World) (b B g0 c0 : Nat) (n : Int) (rows : List (List Nat)) (O : Ops) (M L : List Nat) (K : Nat) (v19 : Value) (wr : World) : Prop :=
 ∃ (k : Nat) (v : Value) (bs : List (Nat × Nat)),k <= K /\ v19 = .int .i64 k /\ GS w b B g0 c0 n rows k v bs (rowG O M L k) wr
def RelG2 (w : World) (b B g0 c0 : Nat) (n : Int) (rows : List (List Nat)) (O : Ops) (M L : List Nat) (k : Nat) (v : Value) (bs : List (Nat × Nat)) (v32 : Value) (wr : World) : Prop :=
 ∃ j : Nat,j <= L.length /\ v32 = .int .i64 j /\ GS w b B g0 c0 n rows (k + 1) v bs (rowH O (rowG O M L k) L j) wr
set_option maxHeartbeats 4000000 in
set_option maxRecDepth 100000 in
theorem ggen_c (gb Bg p m : Nat) (md l : List Nat) (pf mf : Int) (Am : Option Addr) (nm cm K : Nat) (L : List Nat) (Ap : Option Addr) (cp : Nat) (M : List Nat) (Aq : Option Addr) (cq : Nat) (w : World) (hF : FT p m md l) (hG : GFAt w Bg gb p m l (logL l (p ^ m))) (hBg : Bg <= w.heap.size)
 (hL : IntsAt w w.heap.size Ap (nz L)) (hQ : IntsAt w w.heap.size Aq (nz M)) (hn : M.length = L.length) (h1 : 1 <= L.length) (h2 : L.length <= 64) (hLq : ∀ x ∈ L,x < p ^ m) (hMq : ∀ x ∈ M,x < p ^ m) (hK : K <= 64) :
 Calls Tryz.prog 168 #[.pointer (some ⟨gb,0,none⟩),.agg #[.int .i64 pf,.int .i64 mf,.slice Am nm cm,.int .i64 (K : Int),.slice Ap L.length cp,.slice Aq L.length cq]] w fun e w' => (∃ A' c',e = .returned (.agg #[.int .i64 (L.length : Int),.slice A' K c']) /\ RowsUp w' w.heap.size A' (nzs (genG (opsT p m l) M L K))) /\ Below w.heap.size w w' := by
 obtain ⟨i0,hi,hz0,hz1,hz2⟩ := info_parts infoInt
 obtain ⟨i00,hi',hz0',hz1',hz2'⟩ := info_parts infoInts
 have HI := Lib.hid hi
 have HZ0 := Lib.hid hz0
 have HZ1 := Lib.hid hz1
 have HZ2 := Lib.hid hz2
 have HI' := Lib.hid hi'
 have HZ0' := Lib.hid hz0'
 have HZ1' := Lib.hid hz1'
 have HZ2' := Lib.hid hz2'
 have HL := Lib.hid hL
 have HQ := Lib.hid hQ
 have HB0 : Hid (Below w.heap.size w ((w.alloc (.cells #[.int .i64 pf,.int .i64 mf,.slice Am nm cm,.int .i64 (K : Int),.slice Ap L.length cp,.slice Aq L.length cq] 112)).alloc (.cells #[.int .i64 0,.slice none 0 0] 105))) := ((Below.refl _ _).alloc (Nat.le_refl _) _).alloc (by simp) _
 have HS0 : Hid (w.heap.size + 1 < ((w.alloc (.cells #[.int .i64 pf,.int .i64 mf,.slice Am nm cm,.int .i64 (K : Int),.slice Ap L.length cp,.slice Aq L.length cq] 112)).alloc (.cells #[.int .i64 0,.slice none 0 0] 105)).heap.size) := by show _ < _;simp
 have HK0 : Hid (((w.alloc (.cells #[.int .i64 pf,.int .i64 mf,.slice Am nm cm,.int .i64 (K : Int),.slice Ap L.length cp,.slice Aq L.length cq] 112)).alloc (.cells #[.int .i64 0,.slice none 0 0] 105)).heap[w.heap.size]? = some (.cells [.int .i64 pf,.int .i64 mf,.slice Am nm cm,.int .i64 (K : Int),.slice Ap L.length cp,.slice Aq L.length cq].toArray 112 (0,0))) := (heap_alloc_old _ _ (by simp)).trans (heap_alloc_new _ _)
 have HK1 : Hid (((w.alloc (.cells #[.int .i64 pf,.int .i64 mf,.slice Am nm cm,.int .i64 (K : Int),.slice Ap L.length cp,.slice Aq L.length cq] 112)).alloc (.cells #[.int .i64 0,.slice none 0 0] 105)).heap[w.heap.size + 1]? = some (.cells #[.int .i64 0,.slice none 0 0] 105 (0,0))) := qbO (by simp) _
 have HMUL : Hid (∀ (W : World) (x y : Nat),Below w.heap.size w W -> x < p ^ m -> y < p ^ m -> Calls Tryz.prog 240 #[.pointer (some ⟨gb,0,none⟩),.int .i64 (x : Int),.int .i64 (y : Int)] W (Quiet (.int .i64 (((opsT p m l).mul x y : Nat) : Int)) W)) := fun W x y hW hx hy =>
  mul_c x y gb p m Bg md l W hF (hG.keep (hW.mono hBg)) hx hy
 have HRL : Hid (∀ k,(rowG (opsT p m l) M L k).length = L.length) := rowG_len _ _ _ hn
 have HRQ : Hid (∀ k,∀ x ∈ rowG (opsT p m l) M L k,x < p ^ m) := rowG_lt (qcN hF) hMq hLq
 have HLQ := Lib.hid hLq
 have HGL : Hid ((genG (opsT p m l) M L K).length = K) := genG_len _ _ _ _
 have HGA : Hid (∀ k,k < K -> (genG (opsT p m l) M L K).getD k [] = rowG (opsT p m l) M L k) := fun k hk => genG_at _ _ _ _ k hk
 have HR0 : Hid (rowG (opsT p m l) M L 0 = M) := rfl
 have HRS : Hid (∀ k,rowG (opsT p m l) M L (k + 1) = List.zipWith (opsT p m l).mul (rowG (opsT p m l) M L k) L) := fun k => rfl
 clear hi hz0 hz1 hz2 hi' hz0' hz1' hz2' hL hQ hF hG hLq hMq
 generalize genG (opsT p m l) M L K = out at *
 generalize opsT p m l = O at *
 generalize p ^ m = q at *
 go_enter Tryz.func168,Tryz.ntmps168
 go_upto_region 1 with fail
 generalize (w.alloc (.cells #[.int .i64 pf,.int .i64 mf,.slice Am nm cm,.int .i64 (K : Int),.slice Ap L.length cp,.slice Aq L.length cq] 112)).alloc (.cells #[.int .i64 0,.slice none 0 0] 105) = W0 at *
 have y4 : W0.cell? ⟨w.heap.size,4,none⟩ = some (.slice Ap L.length cp) := cell_of_row _ _ 4 _ _ _ HK0.out
 have hs0 := HS0.out
 have HB1 : Hid (Below W0.heap.size W0 (W0.alloc (.cells #[.int .i64 (L.length : Int),.slice none 0 0] 105))) := (Below.refl _ _).alloc (Nat.le_refl _) _
 have HKB : Hid ((W0.alloc (.cells #[.int .i64 (L.length : Int),.slice none 0 0] 105)).heap[W0.heap.size]? = some (.cells [.int .i64 (L.length : Int),.slice none 0 0].toArray 105 (0,0))) := heap_alloc_new _ _
 have HZ : Hid ((W0.alloc (.cells #[.int .i64 (L.length : Int),.slice none 0 0] 105)).heap.size = W0.heap.size + 1) := by show _ = _;simp
 go_upto_region 2 with (refine qaC rfl 105 (.tmp 5) (.tmp 12) rfl W0 _ #[.int .i64 (L.length : Int),.slice none 0 0] rfl rfl matSize rfl (by simp [Value.oneCell']) ?_)
 generalize W0.alloc (.cells #[.int .i64 (L.length : Int),.slice none 0 0] 105) = W1 at *
 have HBW := Lib.hid (HB0.out.trans (HB1.out.mono HB0.out.size))
 have hw0 := HB0.out.size
 have y5 : W1.cell? ⟨w.heap.size,5,none⟩ = some (.slice Aq L.length cq) := cell_of_row _ _ 5 _ _ _ ((HB1.out.block _ (by omega)).trans HK0.out)
 have y3 : W1.cell? ⟨w.heap.size,3,none⟩ = some (.int .i64 (K : Int)) := cell_of_row _ _ 3 _ _ _ ((HB1.out.block _ (by omega)).trans HK0.out)
 obtain ⟨bq,oq,rfl,hbq,hcq⟩ := (HQ.out.keep HBW.out) (by rw [qaI,hn];omega)
 have HOE : Hid ((W1.alloc (.cells #[] 3)).ownsRow W1.heap.size 3 1 (.slice (some ⟨W1.heap.size,0,none⟩) 0 0) 0 []) := World.ownsRow_made W1 #[] 0 (Nat.le_refl _) (by unfold maxLen;omega) rfl
 have HNEW : Hid (∀ (j : Nat) (u : Value),((nz M).map (Value.int .i64))[j]? = some u -> (W1.alloc (.cells #[] 3)).cell? ((⟨bq,oq,none⟩ : Addr).add j) = some u) := (((HQ.out.keep HBW.out).keep (((Below.refl w.heap.size W1).alloc HBW.out.size (.cells #[] 3))))).news
 have hw1 : w.heap.size < W1.heap.size := by have := HZ.out;omega
 clear y4 hcq
 go_wp2_with (at_builtin;refine wpList_append_lies _ rfl (.tmp 13) (.tmp 15) 22 rfl W1.heap.size 3 i0 _ 1 8 Tryz.underlying22 HI.out HZ0.out HZ1.out HZ2.out rfl (by decide) (.slice (some ⟨W1.heap.size,0,none⟩) 0 0) 0 [] rfl HOE.out ⟨bq,oq,none⟩ L.length cq ((nz M).map (Value.int .i64)) rfl ?c0 HNEW.out ?c2 h1 ?c3 ?c4 ?c5 _ rfl ?_)
 case c0 => simp [nz,hn]
 case c2 => intro u hu;obtain ⟨z,_,rfl⟩ := List.mem_map.1 hu;rfl
 case c3 => unfold maxLen;omega
 case c4 => omega
 case c5 => simp
 intro g0 c0 w3 hown hgr hat hlt
 have HR : Hid (Row w3 W1.heap.size g0 c0 (nz M)) := by
  show w3.ownsRow _ _ _ _ _ _
  rw [qaI,hn]
  exact hown
 have HB3 : Hid (Below W1.heap.size W1 w3) := ((Below.refl _ _).alloc (Nat.le_refl _) _).grown hgr (by simp) (fun k hk => by simp [Value.ownBlock] at hk;omega)
 have hb3 := HB3.out.size
 have hz1 := HZ.out
 have hgl := HR.out.lt
 have HGS0 : Hid (RelGen W0 W0.heap.size w3.heap.size g0 c0 L.length out O M L K (.int .i64 ((0 : Nat) : Int)) w3) := by
  refine ⟨0,.slice none 0 0,[],by omega,rfl,HB1.out.trans (HB3.out.mono HB1.out.size),⟨Nat.le_refl _,by omega,by omega,hgl.2,by omega,Nat.le_refl _⟩,(HB3.out.block _ (by omega)).trans HKB.out,⟨rfl,Nat.zero_le _,World.ownsRow_nil _ _ _ _,fun i hi => by omega,fun i hi => by omega⟩,?_⟩
  rw [HR0.out]
  exact HR.out.base (by omega)
 have HGC : Hid (∀ W,Below W0.heap.size W0 W -> W.cell? ⟨w.heap.size,3,none⟩ = some (.int .i64 (K : Int)) /\ W.cell? ⟨w.heap.size,4,none⟩ = some (.slice Ap L.length cp)) := fun W hW => ⟨cell_of_row _ _ 3 _ _ _ ((hW.block _ (by omega)).trans HK0.out),cell_of_row _ _ 4 _ _ _ ((hW.block _ (by omega)).trans HK0.out)⟩
 have z3 := (HGC.out w3 (HB1.out.trans (HB3.out.mono HB1.out.size))).1
 have hB : W0.heap.size + 1 <= w3.heap.size := by omega
 clear hown hgr hat hlt y3 y5 HNEW HOE HR HKB HBW HK0 HQ hz1
 go_wp2_with fail
 go_loopw [19] (fun v19 wr => RelGen W0 W0.heap.size w3.heap.size g0 c0 L.length out O M L K v19 wr) (fun v19 _ => K - (intOf v19).toNat)
 case atStart => exact HGS0.out
 case round =>
  obtain ⟨k,v,bs,hk,rfl,hgs⟩ := hrel
  obtain ⟨VA,ck,rfl,_⟩ := qbC hgs.grid.out
  have HGS := Lib.hid hgs
  clear hgs HGS0
  by_cases hlt : k < K
  . obtain ⟨wr,rfl⟩ : ∃ w',w' = wr := ⟨wr,rfl⟩
    have hrl := HRL.out k
    have HOA := Lib.hid (HGA.out k hlt)
    have hlo := HGS.out.lo
    have HS0 : Hid (LSt wr wr.drew) := (Below.refl _ _).drew
    have HCV : Hid (∀ W,LSt wr W -> W.cell? ⟨W0.heap.size,1,none⟩ = some (.slice VA k ck)) := fun W hW => (HGS.out.grow hW).cell1
    have hOE : ((wr.alloc (.cells #[] 3)).drew).ownsRow wr.heap.size 3 1 (.slice (some ⟨wr.heap.size,0,none⟩) 0 0) 0 [] := World.ownsRow_made wr #[] 0 (Nat.le_refl _) (by unfold maxLen;omega) rfl
    have hRI : IntsAt wr wr.heap.size (some ⟨g0,0,none⟩) (nz (rowG O M L k)) := HGS.out.run.ints HGS.out.run.lt.2
    have hbA : Below wr.heap.size wr ((wr.alloc (.cells #[] 3)).drew) := ((Below.refl _ _).alloc (Nat.le_refl _) _).drew
    have hNW := (hRI.keep hbA).news
    have HOE := Lib.hid hOE
    have HNW := Lib.hid hNW
    have HBA := Lib.hid hbA
    clear hOE hRI hbA hNW
    go_upto_region 5 with fail
    refine qcY 6 (LSt wr) [(true,0),(true,1),(true,3),(false,2),(false,4),(false,5)] default (by kernel_rfl) (by kernel_rfl) (fun _ _ d _ _ h => by cases d <;> exact h) HS0.out ?_
    simp only [List.map_cons,List.map_nil,List.getD_cons_zero,List.getD_cons_succ]
    iterate 3
     apply qfF rfl
     . intro W hW
       have z0 := HCV.out W hW
       go_simp
       rfl
     go_simp
    apply mix_step rfl
    . go_simp
      exact ⟨rfl,rfl⟩
    . exact HBA.out
    go_simp
    refine qeP rfl _ _ 22 rfl wr.heap.size 3 i0 _ 1 8 Tryz.underlying22 HI.out HZ0.out HZ1.out HZ2.out rfl (by decide) (.slice (some ⟨wr.heap.size,0,none⟩) 0 0) 0 [] rfl HOE.out ⟨g0,0,none⟩ L.length c0 ((nz (rowG O M L k)).map (Value.int .i64)) rfl ?c0 HNW.out ?c2 h1 ?c3 ?c4 ?c5 ?_
    case c0 => simp [nz,hrl]
    case c2 => intro u hu;obtain ⟨z,_,rfl⟩ := List.mem_map.1 hu;rfl
    case c3 => unfold maxLen;omega
    case c4 => omega
    case c5 => exact HBA.out.size
    intro g cap w5 hown hgr hat hlt5
    have HB5 : Hid (Below wr.heap.size wr w5) := HBA.out.grown hgr HBA.out.size (fun j hj => by simp [Value.ownBlock] at hj;omega)
    have HR5 : Hid (Row w5 wr.heap.size g cap (nz (out.getD k []))) := by
     show w5.ownsRow _ _ _ _ _ _
     rw [HOA.out,qaI,hrl]
     rw [Nat.zero_add,List.nil_append] at hown
     exact hown
    refine ⟨HB5.out,?_⟩
    go_simp
    clear hown hgr hat
    have HB6 : Hid (LSt wr (w5.alloc (.cells #[.slice (some ⟨g,0,none⟩) L.length cap] 22))) := HB5.out.alloc HB5.out.size _
    apply mix_step rfl
    . go_simp
      exact ⟨rfl,rfl⟩
    . exact HB6.out
    go_simp
    refine mix_nil ?_
    have hol : (out.getD k []).length = L.length := by rw [HOA.out,hrl]
    have y1 := HCV.out _ HB6.out
    have HOW := Lib.hid (HGS.out.own HB5.out (.cells #[.slice (some ⟨g,0,none⟩) L.length cap] 22))
    have hws2 := HB5.out.size
    have hkl := HGS.out.grid.le
    have hgl2 := HGL.out
    go_wp2_with (at_builtin;refine wpList_append_own_at _ rfl (.tmp 22) (.tmp 26) 33 rfl w3.heap.size 22 i00 _ 1 24 Tryz.underlying33 HI'.out HZ0'.out HZ1'.out HZ2'.out rfl (by decide) (.slice VA k ck) k ((List.range k).map (hdr out bs)) rfl HOW.out ⟨w5.heap.size,0,none⟩ 1 1 [.slice (some ⟨g,0,none⟩) L.length cap] rfl rfl ?d1 ?d2 ?d3 ?d4 ?d5 ?_)
    case d1 => exact World.news_of_block (cs := #[.slice (some ⟨g,0,none⟩) L.length cap]) (t := 22) (fr := (0,0)) (heap_alloc_new w5 _)
    case d2 => intro u hu;simp at hu;subst hu;rfl
    case d3 => unfold maxLen;omega
    case d4 => omega
    case d5 => simp;omega
    intro v' w7 hown' hgw _ hat
    obtain ⟨VA',ck',rfl,_⟩ := qbC hown'
    have HX3 := Lib.hid (HGS.out.step (g := g) (c := cap) (by omega) HB5.out HR5.out (by rw [hol];exact hown') hgw (by simpa using hat))
    have hb7 : w7.heap[W0.heap.size]? = (w5.alloc (.cells #[.slice (some ⟨g,0,none⟩) L.length cap] 22)).heap[W0.heap.size]? := hgw.block _ (by simp;omega) (fun e => by have := (HGS.out.grid.out.lt _ e.symm).1;omega)
    rw [heap_alloc_old _ _ (by omega),(HGS.out.grow HB5.out).box] at hb7
    have y2 : w7.cell? ⟨W0.heap.size,1,none⟩ = some (.slice VA k ck) := cell_of_row _ _ 1 _ _ _ hb7
    have y3 : w7.frozen? ⟨W0.heap.size,1,none⟩ = false := by simp [World.frozen?,hb7]
    clear hown' hgw hat HOW y1 hb7
    go_upto_region 6 with fail
    generalize w7.setCell ⟨W0.heap.size,1,none⟩ (.slice VA' (k + 1) ck') = w8 at *
    have HL8 : Hid (∀ W,Below W0.heap.size W0 W -> IntsAt W W.heap.size Ap (nz L)) := fun W hW => ((HL.out.keep HB0.out).keep (hW.mono hw0)).more (Nat.le_trans hw0 hW.size)
    have HG20 : Hid (RelG2 W0 W0.heap.size w3.heap.size g0 c0 L.length out O M L k (.slice VA' (k + 1) ck') (bs ++ [(g,cap)]) (.int .i64 ((0 : Nat) : Int)) w8) := ⟨0,by omega,rfl,by rw [show rowH O (rowG O M L k) L 0 = rowG O M L k by simp [rowH]];exact HX3.out⟩
    have z4 := (HGC.out w8 HX3.out.below).2
    clear y2 y3 HX3
    go_wp2_with fail
    go_loopw [32] (fun v32 wr => RelG2 W0 W0.heap.size w3.heap.size g0 c0 L.length out O M L k (.slice VA' (k + 1) ck') (bs ++ [(g,cap)]) v32 wr) (fun v32 _ => L.length - (intOf v32).toNat)
    case atStart => exact HG20.out
    case round =>
     obtain ⟨j,hj,rfl,hgs⟩ := hrel
     have HG2 := Lib.hid hgs
     clear hgs HG20
     by_cases hjl : j < L.length
     . obtain ⟨bl,ol,rfl,hbl,hcl⟩ := (HL8.out wr HG2.out.below).at_ (k := j) (by rw [qaI];exact hjl)
       rw [qaN] at hcl
       have hjr : j < (rowG O M L k).length := by omega
       have c0' := HG2.out.run.cell (j := j) (by rw [qaI,rowH_len O _ L hrl j (by omega)];exact hjr)
       rw [qaN,rowH_at O _ L hrl j hjr] at c0'
       have f0 := HG2.out.run.frozen j
       have hxq : (rowG O M L k).getD j 0 < q := by
        have : ∀ (l : List Nat) (hj : j < l.length),l.getD j 0 = l[j] := fun l hj => by simp [List.getD,hj]
        rw [this _ hjr]
        exact HRQ.out k _ (List.getElem_mem _)
       have hyq : L.getD j 0 < q := by
        have : ∀ (l : List Nat) (hj : j < l.length),l.getD j 0 = l[j] := fun l hj => by simp [List.getD,hj]
        rw [this _ hjl]
        exact HLQ.out _ (List.getElem_mem _)
       have HST := Lib.hid (rowH_set O _ L hrl j hjr)
       have HMC := Lib.hid (HMUL.out wr ((rowG O M L k).getD j 0) (L.getD j 0) (HB0.out.trans (HG2.out.below.mono hw0)) hxq hyq)
       have j0 : (0 : Int) <= (j : Int) := by omega
       have j1 : (j : Int) < (L.length : Int) := by omega
       clear hxq hyq
       generalize (rowG O M L k).getD j 0 = xv at *
       generalize L.getD j 0 = yv at *
       go_wp2_with fail
       (with_reducible refine HMC.out.mono ?_)
       rintro e w9 ⟨rfl,n9,rfl⟩
       go_wp2_with fail
       go_roundw
       case rel =>
        refine ⟨j + 1,by omega,by go_num,?_⟩
        rw [<- HST.out]
        exact (HG2.out.grow (qaK (Below.refl _ _) n9)).set j _
       case measure => simp [intOf];omega
     . obtain rfl : j = L.length := by omega
       have HGF : Hid (GS W0 W0.heap.size w3.heap.size g0 c0 L.length out (k + 1) (.slice VA' (k + 1) ck') (bs ++ [(g,cap)]) (rowG O M L (k + 1)) wr) := by
        have := HG2.out
        rw [<- hrl,rowH_end O _ L hrl,<- HRS.out k] at this
        rw [hrl] at this
        exact this
       go_wp2_with fail
       go_roundw
       case rel => exact ⟨k + 1,_,_,by omega,by go_num,HGF.out⟩
       case measure => simp [intOf];omega
  . obtain rfl : k = K := by omega
    have HRG := Lib.hid HGS.out.range
    have HK1W : Hid (wr.heap[w.heap.size + 1]? = some (.cells #[.int .i64 0,.slice none 0 0] 105 (0,0))) := (HGS.out.below.block _ hs0).trans HK1.out
    have HYK : Hid ((wr.setRow (w.heap.size + 1) #[.int .i64 (L.length : Int),.slice VA k ck]).heap[w.heap.size + 1]? = some (.cells #[.int .i64 (L.length : Int),.slice VA k ck] 105 (0,0))) := qaF _ _ _ _ _ HK1W.out
    have HRU : Hid (RowsUp wr w3.heap.size VA (nzs out)) := by
     have hgd := HGS.out.grid
     have hg2 := HGL.out
     rw [<- hg2] at hgd
     exact hgd.up
    have hBL : Below w.heap.size w wr := HB0.out.trans (HGS.out.below.mono hw0)
    have HBL := Lib.hid hBL
    clear hBL
    go_wp2_with (first | (refine wpList_load_mid rfl 105 (.tmp 5) rfl W0.heap.size 0 rfl [.int .i64 (L.length : Int),.slice VA k ck] _ HRG.out Tryz.underlying105 rfl matSize ?_) | (refine qaA rfl 105 (.tmp 4) (.tmp 49) rfl wr (w.heap.size + 1) 105 #[.int .i64 0,.slice none 0 0] #[.int .i64 (L.length : Int),.slice VA k ck] rfl rfl HK1W.out matSize rfl (by simp [Value.oneCell']) ?_))
    refine bodyPost_ret (results_cell_row (P := Tryz.prog) rfl _ _ (w.heap.size + 1) 105 #[.int .i64 (L.length : Int),.slice VA k ck] (0,0) _ rfl HYK.out Tryz.underlying105 rfl matSize) rfl ?_
    refine ⟨⟨VA,ck,rfl,?_⟩,qaD HBL.out (by omega) _⟩
    have h9 := HRU.out.setRow (show w.heap.size + 1 < w3.heap.size by omega) #[.int .i64 (L.length : Int),.slice VA k ck]
    exact h9.lower (by omega)
end Go.Proofs.YtaddcadapbpkfaaGreatDoor
namespace Go.Proofs.YtaddcadapbpkfaaGreatDoor
open Go.RowKit Pln
structure BoxG (w : World) (a r : List Value) (W : World) : Prop where
 below : Below w.heap.size w W
 size : w.heap.size + 1 < W.heap.size
 k0 : W.heap[w.heap.size]? = some (.cells a.toArray 112 (0,0))
 k1 : W.heap[w.heap.size + 1]? = some (.cells r.toArray 35 (0,0))
section
variable {w : World} {a r : List Value} {W W' : World}
theorem BoxG.keep (h : BoxG w a r W) (hb : Below W.heap.size W W') : BoxG w a r W' := by
 have hs := h.size
 exact ⟨h.below.trans (hb.mono (by omega)),Nat.lt_of_lt_of_le hs hb.size,(hb.block _ (by omega)).trans h.k0,(hb.block _ (by omega)).trans h.k1⟩
theorem BoxG.set (h : BoxG w a r W) (r' : List Value) : BoxG w a r' (W.setRow (w.heap.size + 1) r'.toArray) :=
 ⟨qaD h.below (by omega) _,by simpa using h.size,(setRow_other W _ _ _ (by omega)).trans h.k0,qaF W _ _ _ _ h.k1⟩
theorem boxG (w : World) (a r : Array Value) : BoxG w a.toList r.toList ((w.alloc (.cells a 112)).alloc (.cells r 35)) :=
 ⟨((Below.refl _ _).alloc (Nat.le_refl _) _).alloc (by simp) _,by simp,(heap_alloc_old _ _ (by simp)).trans (heap_alloc_new _ _),qbO (by simp) _⟩
end
set_option maxHeartbeats 4000000 in
set_option maxRecDepth 100000 in
theorem gcode_c (p m : Int) (mod : List Int) (Am : Option Addr) (cm K : Nat) (L : List Nat) (Ap : Option Addr) (cp : Nat) (M : List Nat) (Aq : Option Addr) (cq : Nat) (w : World) (hM : IntsAt w w.heap.size Am mod) (hok : fieldOK p m mod = true) (hm0 : 0 < mod.length) (hl : mod.length <= 1000000)
 (hL : IntsAt w w.heap.size Ap (nz L)) (hQ : IntsAt w w.heap.size Aq (nz M)) (hn : M.length = L.length) (h1 : 1 <= L.length) (h2 : L.length <= 64) (hcp : L.length <= cp) (hLq : ∀ x ∈ L,x < p.toNat ^ m.toNat) (hMq : ∀ x ∈ M,x < p.toNat ^ m.toNat) (hM0 : ∀ x ∈ M,x ≠ 0)
 (hd : ∀ i j,j < i -> i < L.length -> L.getD i 0 ≠ L.getD j 0) (hK : K <= L.length) (e0 : errC p m mod L.length (nzs (genG (opsT p.toNat m.toNat (lOf p m mod)) M L K)) = 0) :
 Calls Tryz.prog 68 #[.agg #[.int .i64 p,.int .i64 m,.slice Am mod.length cm,.int .i64 (K : Int),.slice Ap L.length cp,.slice Aq L.length cq]] w (CodePost w (w.heap.size + 1 + 1) p m mod L.length (canonM (opsT p.toNat m.toNat (lOf p m mod)) (genG (opsT p.toNat m.toNat (lOf p m mod)) M L K) L.length)) := by
 have HX : Hid (BoxG w [.int .i64 p,.int .i64 m,.slice Am mod.length cm,.int .i64 (K : Int),.slice Ap L.length cp,.slice Aq L.length cq] [.int .i64 0,.int .i64 0,.slice none 0 0,.int .i64 0,.slice none 0 0] ((w.alloc (.cells #[.int .i64 p,.int .i64 m,.slice Am mod.length cm,.int .i64 (K : Int),.slice Ap L.length cp,.slice Aq L.length cq] 112)).alloc (.cells #[.int .i64 0,.int .i64 0,.slice none 0 0,.int .i64 0,.slice none 0 0] 35))) := boxG w _ _
 have HOPEN : Hid (∀ W,Below w.heap.size w W -> Calls Tryz.prog 167 #[.agg #[.int .i64 p,.int .i64 m,.slice Am mod.length cm,.int .i64 (K : Int),.slice Ap L.length cp,.slice Aq L.length cq]] W fun e w' => (∃ gb,e = .returned (.tuple #[.pointer (some ⟨gb,0,none⟩),.int .i64 0]) /\ GFAt w' w'.heap.size gb p.toNat m.toNat (lOf p m mod) (logL (lOf p m mod) (p.toNat ^ m.toNat))) /\ Below W.heap.size W w') := fun W hW =>
  gopen_c p m mod Am cm K L Ap cp M Aq cq W ((hM.keep hW).more hW.size) hok ((hL.keep hW).more hW.size) ((hQ.keep hW).more hW.size) hn h1 h2 hcp hLq hMq hM0 hd hK
 have HGEN : Hid (∀ W gb Bg,Below w.heap.size w W -> GFAt W Bg gb p.toNat m.toNat (lOf p m mod) (logL (lOf p m mod) (p.toNat ^ m.toNat)) -> Bg <= W.heap.size -> Calls Tryz.prog 168 #[.pointer (some ⟨gb,0,none⟩),.agg #[.int .i64 p,.int .i64 m,.slice Am mod.length cm,.int .i64 (K : Int),.slice Ap L.length cp,.slice Aq L.length cq]] W fun e w' => (∃ A' c',e = .returned (.agg #[.int .i64 (L.length : Int),.slice A' K c']) /\ RowsUp w' W.heap.size A' (nzs (genG (opsT p.toNat m.toNat (lOf p m mod)) M L K))) /\ Below W.heap.size W w') := fun W gb Bg hW hg hBg =>
  ggen_c gb Bg p.toNat m.toNat (mdOf m mod) (lOf p m mod) p m Am mod.length cm K L Ap cp M Aq cq W (qdK hok) hg hBg ((hL.keep hW).more hW.size) ((hQ.keep hW).more hW.size) hn h1 h2 hLq hMq (by omega)
 have HNEW : Hid (∀ W A1 c1,Below w.heap.size w W -> RowsAt W W.heap.size A1 (nzs (genG (opsT p.toNat m.toNat (lOf p m mod)) M L K)) -> Calls Tryz.prog 56 #[.agg #[.int .i64 p,.int .i64 m,.slice Am mod.length cm],.agg #[.int .i64 (L.length : Int),.slice A1 K c1]] W (NewPost W p m mod L.length (canonM (opsT p.toNat m.toNat (lOf p m mod)) (genG (opsT p.toNat m.toNat (lOf p m mod)) M L K) L.length))) := fun W A1 c1 hW hr => by
  have := new_c p m mod Am cm L.length _ A1 c1 W ((hM.keep hW).more hW.size) hm0 hl hr h1 e0 (by unfold lengthZ;rw [if_neg (by omega)])
  rw [genG_len] at this
  exact this
 clear hM hL hQ hLq hMq hM0 hd e0
 generalize canonM (opsT p.toNat m.toNat (lOf p m mod)) (genG (opsT p.toNat m.toNat (lOf p m mod)) M L K) L.length = fin at *
 generalize genG (opsT p.toNat m.toNat (lOf p m mod)) M L K = G at *
 go_enter Tryz.func68,Tryz.ntmps68
 go_upto_region 1 with fail
 generalize (w.alloc (.cells #[.int .i64 p,.int .i64 m,.slice Am mod.length cm,.int .i64 (K : Int),.slice Ap L.length cp,.slice Aq L.length cq] 112)).alloc (.cells #[.int .i64 0,.int .i64 0,.slice none 0 0,.int .i64 0,.slice none 0 0] 35) = W0 at *
 have HRG0 : Hid (W0.rangeAt w.heap.size 0 [.int .i64 p,.int .i64 m,.slice Am mod.length cm,.int .i64 (K : Int),.slice Ap L.length cp,.slice Aq L.length cq]) := qaB HX.out.k0
 go_wp2_with (refine wpList_load_mid rfl 112 (.tmp 1) rfl w.heap.size 0 rfl [.int .i64 p,.int .i64 m,.slice Am mod.length cm,.int .i64 (K : Int),.slice Ap L.length cp,.slice Aq L.length cq] _ HRG0.out Tryz.underlying112 rfl grsSize ?_)
 (with_reducible refine (HOPEN.out W0 HX.out.below).mono ?_)
 rintro e w1 ⟨⟨gb,rfl,hg⟩,hb1⟩
 have HX1 := Lib.hid (HX.out.keep hb1)
 have HG := Lib.hid hg
 clear hb1 HX HRG0 HOPEN hg
 clear W0
 go_upto_region 4 with fail
 have HRC : Hid (∀ W,LSt w1 W -> W.rangeAt w.heap.size 0 [.int .i64 p,.int .i64 m,.slice Am mod.length cm,.int .i64 (K : Int),.slice Ap L.length cp,.slice Aq L.length cq]) := fun W hW => qaB (HX1.out.keep hW).k0
 have HRF : Hid (∀ W,LSt w1 W -> W.rangeAt w.heap.size 0 [.int .i64 p,.int .i64 m,.slice Am mod.length cm]) := fun W hW j v hv => HRC.out W hW j v (by
  match j,hv with
  | 0,hv => exact hv
  | 1,hv => exact hv
  | 2,hv => exact hv
  | j + 3,hv => simp at hv)
 have HS0 : Hid (LSt w1 w1.drew) := (Below.refl _ _).drew
 have HWB : Hid (∀ W,LSt w1 W -> Below w.heap.size w W) := fun W hW => HX1.out.below.trans (Below.mono hW HX1.out.below.size)
 refine qaZ 9 8 (LSt w1) [(0,0),(0,1),(0,2),(0,3),(2,4),(2,5),(0,6),(1,7),(3,8)] default (by kernel_rfl) (by kernel_rfl) (fun _ _ d _ _ h => by cases d <;> exact h) HS0.out ?_
 simp only [List.map_cons,List.map_nil,List.getD_cons_zero,List.getD_cons_succ]
 apply qbH rfl
 . intro W hW
   go_simp
   rfl
 go_simp
 refine qaP rfl 29 (.tmp 15) rfl w.heap.size 0 rfl [.int .i64 p,.int .i64 m,.slice Am mod.length cm] _ HRF.out Tryz.underlying29 rfl fieldSize ?_
 go_simp
 apply qbH rfl
 . intro W hW
   go_simp
   rfl
 go_simp
 refine qaP rfl 112 (.tmp 1) rfl w.heap.size 0 rfl [.int .i64 p,.int .i64 m,.slice Am mod.length cm,.int .i64 (K : Int),.slice Ap L.length cp,.slice Aq L.length cq] _ HRC.out Tryz.underlying112 rfl grsSize ?_
 go_simp
 apply qbF rfl
 . go_simp
   exact ⟨rfl,rfl⟩
 with_reducible refine (HGEN.out _ gb w1.heap.size (HWB.out _ HS0.out) (HG.out.keep (Below.refl _ _).drew) (Nat.le_refl _)).mono ?_
 rintro e w2 ⟨⟨A1,c1,rfl,hr2⟩,hb2⟩
 have HB2 : Hid (LSt w1 w2) := HS0.out.trans hb2
 refine ⟨_,rfl,HB2.out,?_⟩
 go_simp
 apply qbF rfl
 . go_simp
   exact ⟨rfl,rfl⟩
 with_reducible refine (HNEW.out w2 A1 c1 (HWB.out _ HB2.out) hr2.rowsAt).mono ?_
 rintro e w3 ⟨⟨g,c',R,k,rfl,hu3,hr3⟩,hb3⟩
 have HB3 : Hid (LSt w1 w3) := Below.trans HB2.out (hb3.mono (Below.size HB2.out))
 refine ⟨_,rfl,HB3.out,?_⟩
 go_simp
 apply qbH rfl
 . intro W hW
   go_simp
   rfl
 go_simp
 apply qaQ rfl
 . intro W
   go_simp
   rfl
 go_simp
 have HX3 := Lib.hid (HX1.out.keep HB3.out)
 have HK3 := Lib.hid HX3.out.k1
 have HY := Lib.hid (HX3.out.set [.int .i64 p,.int .i64 m,.slice (some ⟨g,0,none⟩) mod.length c',.int .i64 (L.length : Int),.slice R fin.length k])
 have HU3 := Lib.hid hu3
 have HR3 := Lib.hid hr3
 have hs1 := HX1.out.size
 have hs2 : w1.heap.size <= w2.heap.size := Below.size HB2.out
 clear hr2 hb2 hu3 hr3 hb3
 refine qcL rfl 35 (.tmp 2) (.tmp 21) rfl (w.heap.size + 1) 35 #[.int .i64 0,.int .i64 0,.slice none 0 0,.int .i64 0,.slice none 0 0] #[.int .i64 p,.int .i64 m,.slice (some ⟨g,0,none⟩) mod.length c',.int .i64 (L.length : Int),.slice R fin.length k] rfl rfl HK3.out codeSize rfl (by simp [Value.oneCell']) ?_
 go_simp
 refine qbX ?_
 go_wp2_with fail
 refine bodyPost_ret (qaE (P := Tryz.prog) rfl _ _ (w.heap.size + 1) 35 #[.int .i64 p,.int .i64 m,.slice (some ⟨g,0,none⟩) mod.length c',.int .i64 (L.length : Int),.slice R fin.length k] (0,0) _ _ rfl rfl HY.out.k1 Tryz.underlying35 rfl codeSize) rfl ?_
 refine ⟨⟨g,c',_,_,rfl,?_,?_⟩,HY.out.below⟩
 . have h1 : IntsUp (w3.setRow (w.heap.size + 1) #[.int .i64 p,.int .i64 m,.slice (some ⟨g,0,none⟩) mod.length c',.int .i64 (L.length : Int),.slice R fin.length k]) (w2.heap.size + 1 + 1 + 1) (some ⟨g,0,none⟩) mod := HU3.out.of_blocks (by simp) fun k hk _ => setRow_other w3 (w.heap.size + 1) k _ (by omega)
   exact h1.lower (by omega)
 . have h1 := HR3.out.setRow (show w.heap.size + 1 < w2.heap.size + 1 + 1 + 1 by omega) #[.int .i64 p,.int .i64 m,.slice (some ⟨g,0,none⟩) mod.length c',.int .i64 (L.length : Int),.slice R fin.length k]
   exact h1.lower (by omega)
end Go.Proofs.YtaddcadapbpkfaaGreatDoor
