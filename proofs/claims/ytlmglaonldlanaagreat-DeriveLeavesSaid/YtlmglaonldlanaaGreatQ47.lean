/-
 derive.CheckStep at the rules 0 to 3. The reference: Parity, Dual.
-/
import Derived.Test.YtlmglaonldlanaaGreatQ46
import Derived.Test.YtlmglaonldlanaaGreatQ18
import Derived.Test.YtlmglaonldlanaaGreatQ32
namespace Go.Proofs.YtlmglaonldlanaaGreat
open Go.RowKit Pln
def LeafOk (s:StD) (bl:List Int):Prop:=s.rule=0/\Leaf0 s\/s.rule=1/\Leaf1 s\/s.rule=2/\Leaf2 s bl\/s.rule=3/\Leaf3 s
def LeafR (r:Int):Prop:=r=0\/r=1\/r=2\/r=3
theorem itself_leaf (s:StD) (bl pl ml:List Int) (cs:List Value) (w:World) (hs:StC w w.heap.size s cs) (he:StE w w.heap.size s bl pl ml cs) (ks:s.ok) (hf:formZ s=0) (hr:LeafR s.rule) :
 Calls Tryz.prog 28 #[.agg cs.toArray] w (ItPost w (LeafOk s bl)):=by
 rcases hr with h | h | h | h
 . exact (itselfL_0 s cs w hs h).mono fun e w' ⟨⟨b,h1,h2⟩,h3⟩=>⟨⟨b,h1,fun hb=>.inl ⟨h,h2 hb⟩⟩,h3⟩
 . exact (itselfL_1 s cs w hs hf h).mono fun e w' ⟨⟨b,h1,h2⟩,h3⟩=>⟨⟨b,h1,fun hb=>.inr (.inl ⟨h,h2 hb⟩)⟩,h3⟩
 . exact (itselfL_2 s bl pl ml cs w hs he ks hf h).mono fun e w' ⟨⟨b,h1,h2⟩,h3⟩=>⟨⟨b,h1,fun hb=>.inr (.inr (.inl ⟨h,h2 hb⟩))⟩,h3⟩
 . exact (itselfL_3 s bl pl ml cs w hs he ks hf h).mono fun e w' ⟨⟨b,h1,h2⟩,h3⟩=>⟨⟨b,h1,fun hb=>.inr (.inr (.inr ⟨h,h2 hb⟩))⟩,h3⟩
theorem prem_leaf (r:Int) (h:LeafR r) (w:World):Calls Tryz.prog 16 #[.int .i64 r] w fun e w'=>e=.returned (.int .i64 0)/\w=w':=by
 rcases h with rfl | rfl | rfl | rfl
 all_goals
  go_enter Tryz.func16,Tryz.ntmps16
  go_wp2_with fail
  go_ret
  exact ⟨rfl,rfl⟩
def StsE (w:World) (B:Nat) (A:Option Addr) (ds:List StD):Prop :=
 0<ds.length->∃ b o,A=some ⟨b,o,none⟩/\b<B/\∀ i d,ds[i]?=some d->∃ cs bl pl ml,w.rangeAt b (o+i*23) cs/\StC w B d cs/\StE w B d bl pl ml cs
theorem StsE.at_ {w:World} {B:Nat} {A:Option Addr} {ds:List StD} (h:StsE w B A ds) {i:Nat} (hi:i<ds.length):∃ b o cs bl pl ml,A=some ⟨b,o,none⟩/\b<B/\w.rangeAt b (o+i*23) cs/\StC w B (ds[i]'hi) cs/\StE w B (ds[i]'hi) bl pl ml cs:=by
 obtain ⟨b,o,e,hlt,hc⟩:=h (by omega)
 obtain ⟨cs,bl,pl,ml,h1,h2,h3⟩:=hc i _ (List.getElem?_eq_getElem hi)
 exact ⟨b,o,cs,bl,pl,ml,e,hlt,h1,h2,h3⟩
theorem StsE.sts {w:World} {B:Nat} {A:Option Addr} {ds:List StD} (h:StsE w B A ds):StsAt w B A ds:=fun hz=>by
 obtain ⟨b,o,e,hlt,hc⟩:=h hz
 exact ⟨b,o,e,hlt,fun i d hd=>by
  obtain ⟨cs,_,_,_,h1,h2,_⟩:=hc i d hd
  exact ⟨cs,h1,h2⟩⟩
theorem StsE.keep {w w':World} {B:Nat} {A:Option Addr} {ds:List StD} (h:StsE w B A ds) (hb:Below B w w'):StsE w' B A ds:=fun hz=>by
 obtain ⟨b,o,e,hlt,hc⟩:=h hz
 refine ⟨b,o,e,hlt,fun i d hd=>?_⟩
 obtain ⟨cs,bl,pl,ml,h1,h2,h3⟩:=hc i d hd
 exact ⟨cs,bl,pl,ml,fun j v hv=>(hb.cell (p:=⟨b,o+i*23+j,none⟩) hlt).trans (h1 j v hv),h2.keep hb,h3.keep hb⟩
theorem StsE.more {w:World} {B B':Nat} {A:Option Addr} {ds:List StD} (h:StsE w B A ds) (hB:B<=B'):StsE w B' A ds:=fun hz=>by
 obtain ⟨b,o,e,hlt,hc⟩:=h hz
 refine ⟨b,o,e,by omega,fun i d hd=>?_⟩
 obtain ⟨cs,bl,pl,ml,h1,h2,h3⟩:=hc i d hd
 exact ⟨cs,bl,pl,ml,h1,h2.more hB,h3.more hB⟩
set_option maxHeartbeats 1000000 in
set_option maxRecDepth 100000 in
theorem follows_leaf (cs:List Value) (hl:cs.length=23) (P:Prop) (w:World) (hit:∀ W:World,Below w.heap.size w W->Calls Tryz.prog 28 #[.agg cs.toArray] W (ItPost W P)) :
 Calls Tryz.prog 17 #[.agg cs.toArray,.slice none 0 0] w (ItPost w P):=by
 have HX:=Lib.hid (qdZ w cs)
 have HIT:=Lib.hid hit
 clear hit
 go_enter Tryz.func17,Tryz.ntmps17
 go_upto_region 1 with fail
 generalize w.alloc (.cells cs.toArray 40)=W0 at *
 have HRG:=Lib.hid HX.out.range
 have HI:=Lib.hid (HIT.out W0 HX.out.2.1)
 clear HIT
 go_wp2_with (refine wpList_load_mid rfl 40 (.tmp 2) rfl w.heap.size 0 rfl cs _ HRG.out Tryz.underlying40 rfl (by rw [hl];exact stepSize) ?_)
 (with_reducible refine HI.out.mono ?_)
 rintro e w1 ⟨⟨b,rfl,hp⟩,hb⟩
 have HX1:=Lib.hid (HX.out.grow hb)
 have HPP:=Lib.hid hp
 clear hb HI HX HRG hp
 go_wp2_with fail
 go_ret
 exact ⟨⟨b,rfl,HPP.out⟩,HX1.out.2.1⟩
def LfPost (w:World) (ds:List StD) (k:Nat) (e:Ending) (w':World):Prop :=
 ∃ z,e=.returned (.int .i64 z)/\Below w.heap.size w w'/\(z=0->∃ (s:StD) (bl:List Int),ds[k]?=some s/\s.frm.length=0/\formZ s=0/\LeafOk s bl)
set_option maxHeartbeats 8000000 in
set_option maxRecDepth 100000 in
theorem checkstep_l (ds:List StD) (A:Option Addr) (c k:Nat) (w:World) (hA:StsE w w.heap.size A ds) (hk:∀ d∈ds,d.ok) (hl:ds.length<=1000) (hi:k<ds.length) (hr:LeafR (ds[k]'hi).rule) :
 Calls Tryz.prog 7 #[.slice A ds.length c,.int .i64 k] w (LfPost w ds k):=by
 obtain ⟨b,o,csl,bl,pl,ml,rfl,hbl,hrg,hst,hse⟩:=hA.at_ hi
 have hsi:ds[k]?=some (ds[k]'hi):=List.getElem?_eq_getElem hi
 have hso:(ds[k]'hi).ok:=hk _ (List.getElem_mem hi)
 generalize ds[k]'hi=s at *
 have HST:=Lib.hid hst
 have HSE:=Lib.hid hse
 have hcl:=hst.len
 obtain ⟨Am,Ag,Af,Aa,Ab,Ap,Aq,Ar,As,At,cm,cg,cf,ca,cb,cp1,cq,cr,cs',ct,rfl,hcg,h1,h2,h3,h4,h5⟩:=hst
 clear hcg h1 h2 h3 h4 h5 hse
 have HSI:=Lib.hid hsi
 have HSO:=Lib.hid hso
 have HR:=Lib.hid hr
 have HRB:=Lib.hid hrg
 have HX:=Lib.hid (qdZ w (stCells s Am Ag Af Aa Ab Ap Aq Ar As At cm cg cf ca cb cp1 cq cr cs' ct))
 have k0:¬ (k:Int)<0:=by omega
 have k1:¬ (ds.length:Int)<=(k:Int):=by omega
 have k2:¬ (4096:Int)<(ds.length:Int):=by omega
 have k3:(0:Int)<=(k:Int):=by omega
 have k4:(k:Int)<(ds.length:Int):=by omega
 have e14:(s.rule==14)=false:=beq_false_of_ne (by rcases hr with h | h | h | h <;> omega)
 have e18:(s.rule==18)=false:=beq_false_of_ne (by rcases hr with h | h | h | h <;> omega)
 have h14:¬ s.rule=14:=by rcases hr with h | h | h | h <;> omega
 have h18:¬ s.rule=18:=by rcases hr with h | h | h | h <;> omega
 have h0:¬ s.rule<0:=by rcases hr with h | h | h | h <;> omega
 have h20:¬ 20<=s.rule:=by rcases hr with h | h | h | h <;> omega
 have HP:Hid (∀ W:World,Calls Tryz.prog 16 #[.int .i64 s.rule] W fun e w'=>e=.returned (.int .i64 0)/\W=w'):=fun W=>prem_leaf s.rule HR.out W
 have HIT:Hid (formZ s=0->∀ W:World,Below w.heap.size w W->Calls Tryz.prog 28 #[.agg (stCells s Am Ag Af Aa Ab Ap Aq Ar As At cm cg cf ca cb cp1 cq cr cs' ct).toArray] W (ItPost W (LeafOk s bl))):=fun hf W hW=>itself_leaf s bl pl ml _ W (HST.out.lift hW) ((HSE.out.keep hW).more hW.size) HSO.out hf HR.out
 have HC:Hid (∀ W:World,Below w.heap.size w W->Calls Tryz.prog 15 #[.agg (stCells s Am Ag Af Aa Ab Ap Aq Ar As At cm cg cf ca cb cp1 cq cr cs' ct).toArray] W fun e w'=>e=.returned (.int .i64 (formZ s))/\Below W.heap.size W w'):=fun W hW=>formed_g s _ W (HST.out.lift hW) HSO.out
 have HFN:Hid (formZ s=0->s.frm.length=0->LeafOk s bl->∃ (s:StD) (bl:List Int),ds[k]?=some s/\s.frm.length=0/\formZ s=0/\LeafOk s bl):=fun h1 h2 h3=>⟨s,bl,HSI.out,h2,h1,h3⟩
 have HONE:Hid ((stCells s Am Ag Af Aa Ab Ap Aq Ar As At cm cg cf ca cb cp1 cq cr cs' ct).toArray.all (·.oneCell')=true):=by show _=_;simp [stCells,Value.oneCell']
 generalize LeafOk s bl=LF at *
 clear hA hk hsi hso hr hrg HST HSE HSI HSO HR
 unfold LfPost
 generalize (∃ (s:StD) (bl:List Int),ds[k]?=some s/\s.frm.length=0/\formZ s=0/\LeafOk s bl)=POST at *
 go_enter Tryz.func7,Tryz.ntmps7
 go_upto_region 6 with (first
  | (refine wpList_load_mid rfl 40 (.tmp 25) rfl b (o+k*23) rfl (stCells s Am Ag Af Aa Ab Ap Aq Ar As At cm cg cf ca cb cp1 cq cr cs' ct) _ HRB.out Tryz.underlying40 rfl stepSize ?_)
  | (refine qaI rfl 40 (.tmp 5) (.tmp 26) rfl w _ (stCells s Am Ag Af Aa Ab Ap Aq Ar As At cm cg cf ca cb cp1 cq cr cs' ct).toArray rfl rfl stepSize rfl HONE.out ?_))
 generalize w.alloc (.cells (stCells s Am Ag Af Aa Ab Ap Aq Ar As At cm cg cf ca cb cp1 cq cr cs' ct).toArray 40)=W0 at *
 have HRG:=Lib.hid HX.out.range
 have HC1:=Lib.hid (HC.out W0 HX.out.2.1)
 clear HC
 go_wp2_with (refine wpList_load_mid rfl 40 (.tmp 5) rfl w.heap.size 0 rfl (stCells s Am Ag Af Aa Ab Ap Aq Ar As At cm cg cf ca cb cp1 cq cr cs' ct) _ HRG.out Tryz.underlying40 rfl stepSize ?_)
 refine HC1.out.mono ?_
 rintro e w1 ⟨rfl,hb1⟩
 have HX1:=Lib.hid (HX.out.grow hb1)
 clear hb1 HX HC1 HRG HRB
 by_cases hf0:formZ s=0
 rotate_left
 . have hne : (formZ s != 0) = true := bne_iff_ne.2 hf0
   have HNE:=Lib.hid hf0
   clear hf0 HIT HFN
   generalize formZ s=z at *
   go_wp2_with fail
   go_ret
   exact ⟨_,rfl,HX1.out.2.1,fun h=>absurd h HNE.out⟩
 have HIT1:=Lib.hid (HIT.out hf0)
 have HFN1:=Lib.hid (HFN.out hf0)
 rw [hf0]
 clear hf0 HIT HFN
 have y0:w1.cell? ⟨w.heap.size,0,none⟩=some (.int .i64 s.rule):=HX1.out.cell rfl
 have y7:w1.cell? ⟨w.heap.size,7,none⟩=some (.slice Af s.frm.length cf):=HX1.out.cell rfl
 by_cases hfl:s.frm.length=0
 rotate_left
 . have efl : ((s.frm.length : Int) != 0) = true := bne_iff_ne.2 (by omega)
   clear hfl HIT1 HFN1
   go_upto_region 11 with fail
   refine qaH (SB w w.heap.size (stCells s Am Ag Af Aa Ab Ap Aq Ar As At cm cg cf ca cb cp1 cq cr cs' ct)) (by kernel_rfl) (by kernel_rfl) (HX1.out.grow (Below.refl _ _).drew) ?_
   repeat (first
    | (apply qaM rfl
       . intro W hS
         have y0:W.cell? ⟨w.heap.size,0,none⟩=some (.int .i64 s.rule):=hS.cell rfl
         have y7:W.cell? ⟨w.heap.size,7,none⟩=some (.slice Af s.frm.length cf):=hS.cell rfl
         go_simp
         try rfl
       go_simp)
    | (apply qcB rfl
       . intro W hS
         have y0:W.cell? ⟨w.heap.size,0,none⟩=some (.int .i64 s.rule):=hS.cell rfl
         have y7:W.cell? ⟨w.heap.size,7,none⟩=some (.slice Af s.frm.length cf):=hS.cell rfl
         go_simp
         try rfl
       go_simp)
    | (apply qaV rfl
       . intro W hS
         go_simp
         exact ⟨rfl,rfl⟩
       . intro W hS
         exact (HP.out W).mono (by rintro e w' ⟨rfl,rfl⟩;exact ⟨rfl,hS⟩)
       go_simp)
    | (apply qcJ rfl;go_simp))
   refine qaJ ?_
   intro w2 hS
   have HX2:=Lib.hid hS
   clear hS HX1 y0 y7
   go_wp2_with fail
   go_ret
   exact ⟨_,rfl,HX2.out.2.1,fun h=>by cases h⟩
 have HFL:=Lib.hid hfl
 rw [hfl] at y7
 have efl:((s.frm.length:Int) != 0)=false:=by rw [hfl];rfl
 clear hfl
 go_upto_region 11 with fail
 refine qaH (SB w w.heap.size (stCells s Am Ag Af Aa Ab Ap Aq Ar As At cm cg cf ca cb cp1 cq cr cs' ct)) (by kernel_rfl) (by kernel_rfl) (HX1.out.grow (Below.refl _ _).drew) ?_
 repeat (first
  | (apply qaM rfl
     . intro W hS
       have y0:W.cell? ⟨w.heap.size,0,none⟩=some (.int .i64 s.rule):=hS.cell rfl
       have y7:W.cell? ⟨w.heap.size,7,none⟩=some (.slice Af s.frm.length cf):=hS.cell rfl
       go_simp
       try rfl
     go_simp)
  | (apply qcB rfl
     . intro W hS
       have y0:W.cell? ⟨w.heap.size,0,none⟩=some (.int .i64 s.rule):=hS.cell rfl
       have y7:W.cell? ⟨w.heap.size,7,none⟩=some (.slice Af s.frm.length cf):=hS.cell rfl
       go_simp
       try rfl
     go_simp)
  | (apply qaV rfl
     . intro W hS
       go_simp
       exact ⟨rfl,rfl⟩
     . intro W hS
       exact (HP.out W).mono (by rintro e w' ⟨rfl,rfl⟩;exact ⟨rfl,hS⟩)
     go_simp)
  | (apply qcJ rfl;go_simp))
 refine qaJ ?_
 intro w2 hS
 have HX2:=Lib.hid hS
 clear hS HX1 y0 y7
 have y7:w2.cell? ⟨w.heap.size,7,none⟩=some (.slice Af 0 cf):=by
  have:=HX2.out.cell (k:=7) rfl
  rw [HFL.out] at this
  exact this
 go_upto_region 15 with fail
 go_loop [7,66] (fun v7 v66=>v7=.slice none 0 0/\v66=.int .i64 0) (fun _ _=>0)
 case atStart=>exact ⟨rfl,rfl⟩
 case round =>
  obtain ⟨rfl,rfl⟩:=hrel
  go_upto_region 22 with fail
  go_loop [87] (fun v87=>v87=.int .i64 0) (fun _=>0)
  case atStart=>rfl
  case round =>
   subst hrel
   have HRG:=Lib.hid HX2.out.range
   have HFO:=Lib.hid (follows_leaf (stCells s Am Ag Af Aa Ab Ap Aq Ar As At cm cg cf ca cb cp1 cq cr cs' ct) hcl LF w2 (fun W hW=>HIT1.out W (HX2.out.2.1.trans (hW.mono HX2.out.2.1.size))))
   go_wp2_with (refine wpList_load_mid rfl 40 (.tmp 5) rfl w.heap.size 0 rfl (stCells s Am Ag Af Aa Ab Ap Aq Ar As At cm cg cf ca cb cp1 cq cr cs' ct) _ HRG.out Tryz.underlying40 rfl stepSize ?_)
   (with_reducible refine HFO.out.mono ?_)
   rintro e w3 ⟨⟨bb,rfl,hbb⟩,hb⟩
   have HX3:=Lib.hid (HX2.out.grow hb)
   have HBB:=Lib.hid hbb
   clear hb hbb HFO HRG HX2 y7
   cases bb
   . go_wp2_with fail
     go_ret
     exact ⟨_,rfl,HX3.out.2.1,fun h=>by cases h⟩
   . have HPO : Hid POST := HFN1.out HFL.out (by first | exact HBB.out rfl | exact HBB.out trivial | exact HBB.out)
     go_wp2_with fail
     go_ret
     exact ⟨_,rfl,HX3.out.2.1,fun _=>HPO.out⟩
end Go.Proofs.YtlmglaonldlanaaGreat
namespace Go.Proofs.YtlmglaonldlanaaGreat
open Go.RowKit Pln
theorem mod_small {p m:Int} {mod:List Int} (h:fieldOK p m mod=true):mod.length<=8:=by
 have hsh:shapeM p m mod=true:=by unfold fieldOK at h;rw [Bool.and_eq_true] at h;exact h.1
 have hs:=qbJ hsh
 have hm2:=hs.small.m2
 by_cases hm:m=1
 . unfold shapeM at hsh
   rw [if_pos hm,Bool.and_eq_true] at hsh
   have:=hsh.2
   rw [beq_iff_eq] at this
   omega
 . have := hs.len hm
   omega
set_option maxHeartbeats 1000000 in
set_option maxRecDepth 100000 in
theorem rparity_c {p m:Nat} {md:List Nat} {A:Option Addr} {n cols:Nat} {rows:List (List Nat)} {Ah:Option Addr} {w:World} (h:RCode p m md A n cols rows Ah w) (c ch:Nat) :
 Calls Tryz.prog 45 #[.agg #[.int .i64 p,.int .i64 m,.slice A n c,.int .i64 cols,.slice Ah rows.length ch]] w (NullPost w (p ^ m) cols):=by
 have HX:=Lib.hid (qcY w [.int .i64 (p:Int),.int .i64 (m:Int),.slice A n c,.int .i64 (cols:Int),.slice Ah rows.length ch] 32)
 have h1:=h.n1
 have h2:=h.n2
 have h3:=h.len
 have HN:Hid (∀ W:World,Below w.heap.size w W->Calls Tryz.prog 93 #[.agg #[.int .i64 p,.int .i64 m,.slice A n c],.slice Ah rows.length ch,.int .i64 cols] W (NullPost W (p ^ m) cols)):=fun W hW=>by
  have hl:=h.lift hW
  exact rnull_c p m md A n c rows Ah ch cols W hl.fld hl.ft hl.grid hl.at_ h1 (by omega) h3
 clear h
 go_enter Tryz.func45,Tryz.ntmps45
 go_upto_region 1 with fail
 generalize w.alloc (.cells #[.int .i64 (p:Int),.int .i64 (m:Int),.slice A n c,.int .i64 (cols:Int),.slice Ah rows.length ch] 32)=W0 at *
 have HRG:=Lib.hid HX.out.field
 have HN0:=Lib.hid (HN.out W0 HX.out.below)
 have c3:W0.cell? ⟨w.heap.size,3,none⟩=some (.int .i64 (cols:Int)):=HX.out.cell rfl
 have c4:W0.cell? ⟨w.heap.size,4,none⟩=some (.slice Ah rows.length ch):=HX.out.cell rfl
 go_wp2_with (refine wpList_load_mid rfl 29 (.tmp 3) rfl w.heap.size 0 rfl [.int .i64 (p:Int),.int .i64 (m:Int),.slice A n c] _ HRG.out Tryz.underlying29 rfl fieldSize ?_)
 refine HN0.out.mono ?_
 rintro e w1 ⟨⟨A',R,ck,rfl,h1,h2,h3⟩,hb⟩
 have HX1:=Lib.hid (HX.out.grow hb)
 have H1:=Lib.hid h1
 have H2:=Lib.hid h2
 have H3:=Lib.hid h3
 clear hb h1 h2 h3 HN HN0 HX HRG c3 c4
 go_wp2_with fail
 go_ret
 exact ⟨⟨A',R,ck,rfl,H1.out,H2.out,H3.out⟩,HX1.out.below⟩
def DualPost (w:World) (d:StD) (e:Ending) (w':World):Prop :=
 (∃ (A':Option Addr) (c':Nat) (G:Option Addr) (R:List (List Nat)) (k:Nat),e=.returned (.tuple #[.agg #[.int .i64 d.p,.int .i64 d.m,.slice A' d.mod.length c',.int .i64 d.n,.slice G R.length k],.int .i64 0])/\IntsAt w' w'.heap.size A' d.mod/\RowsAt w' w'.heap.size G (nzs R)/\R.length<=256)/\Below w.heap.size w w'
set_option maxHeartbeats 1000000 in
set_option maxRecDepth 100000 in
theorem rdual_c (d:StD) (Am:Option Addr) (cm:Nat) (A:Option Addr) (c:Nat) (w:World) (hz:codeZ d.p d.m d.mod d.n d.gen=0) (hM:IntsAt w w.heap.size Am d.mod) (hA:RowsAt w w.heap.size A d.gen) :
 Calls Tryz.prog 26 #[.agg #[.int .i64 d.p,.int .i64 d.m,.slice Am d.mod.length cm,.int .i64 d.n,.slice A d.gen.length c]] w (DualPost w d):=by
 have HX:=Lib.hid (b2_new w [.int .i64 d.p,.int .i64 d.m,.slice Am d.mod.length cm,.int .i64 d.n,.slice A d.gen.length c] 32 [.int .i64 0,.int .i64 0,.slice none 0 0,.int .i64 0,.slice none 0 0] 32)
 obtain ⟨hok,n1,n2,hnn,hgr,hlen⟩:=code_form hz
 have hml:=mod_small hok
 have HM:=Lib.hid hM
 have HA:=Lib.hid hA
 have HCK:Hid (∀ W:World,Below w.heap.size w W->Calls Tryz.prog 8 #[.agg #[.int .i64 d.p,.int .i64 d.m,.slice Am d.mod.length cm,.int .i64 d.n,.slice A d.gen.length c]] W fun e w'=>e=.returned (.int .i64 0)/\Below W.heap.size W w'):=fun W hW=>by
  have:=qdO d.p d.m d.mod Am cm d.n d.gen A c W ((HM.out.keep hW).more hW.size) (by omega) ((HA.out.keep hW).more hW.size) (by omega)
  rw [hz] at this
  exact this
 obtain ⟨_,e1,e2,e3,e4⟩:=code_nat hz hM hA
 have HPA:Hid (∀ W:World,Below w.heap.size w W->Calls Tryz.prog 45 #[.agg #[.int .i64 d.p,.int .i64 d.m,.slice Am d.mod.length cm,.int .i64 d.n,.slice A d.gen.length c]] W (NullPost W (d.p.toNat ^ d.m.toNat) d.n.toNat)):=fun W hW=>by
  obtain ⟨hrc,_⟩:=code_nat hz ((HM.out.keep hW).more hW.size) ((HA.out.keep hW).more hW.size)
  have:=rparity_c hrc cm c
  rw [e1,e2,e3,e4] at this
  exact this
 have HMK:Hid (∀ (R:List (List Nat)) (A2:Option Addr) (c2:Nat) (W:World),Below w.heap.size w W->Grid (d.p.toNat ^ d.m.toNat) R.length d.n.toNat R->RowsAt W W.heap.size A2 (nzs R)->R.length<=256->Calls Tryz.prog 44 #[.agg #[.int .i64 d.p,.int .i64 d.m,.slice Am d.mod.length cm],.slice A2 R.length c2,.int .i64 d.n] W fun e w'=>(∃ (A':Option Addr) (c':Nat) (G:Option Addr) (R':List (List Nat)) (k:Nat),e=.returned (.agg #[.int .i64 d.p,.int .i64 d.m,.slice A' d.mod.length c',.int .i64 d.n,.slice G R'.length k])/\IntsUp w' W.heap.size A' d.mod/\RowsUp w' W.heap.size G (nzs R')/\R'.length<=256)/\Below W.heap.size W w'):=fun R A2 c2 W hW hg hr hl=>by
  obtain ⟨hrc,_⟩:=code_nat hz ((HM.out.keep hW).more hW.size) ((HA.out.keep hW).more hW.size)
  have:=rmake_c d.p.toNat d.m.toNat (mdOf d.m d.mod) Am d.mod cm R A2 c2 d.n.toNat W hrc.fld hrc.ft ((HM.out.keep hW).more hW.size) (by omega) hg hr (by omega) (by omega) hl
  unfold MakePost at this
  rw [e1,e2,e3] at this
  exact this
 have hgl:=e4
 clear hM hA hz hok hnn hgr e1 e2 e3 e4 HM HA
 generalize d.p.toNat ^ d.m.toNat=q at *
 generalize d.n.toNat=nn at *
 go_enter Tryz.func26,Tryz.ntmps26
 go_upto_region 1 with fail
 generalize (w.alloc (.cells #[.int .i64 d.p,.int .i64 d.m,.slice Am d.mod.length cm,.int .i64 d.n,.slice A d.gen.length c] 32)).alloc (.cells #[.int .i64 0,.int .i64 0,.slice none 0 0,.int .i64 0,.slice none 0 0] 32)=W0 at *
 have HRG:=Lib.hid HX.out.range
 have HC1:=Lib.hid (HCK.out W0 HX.out.below)
 go_wp2_with (refine wpList_load_mid rfl 32 (.tmp 1) rfl w.heap.size 0 rfl [.int .i64 d.p,.int .i64 d.m,.slice Am d.mod.length cm,.int .i64 d.n,.slice A d.gen.length c] _ HRG.out Tryz.underlying32 rfl codeSize ?_)
 refine HC1.out.mono ?_
 rintro e w1 ⟨rfl,hb1⟩
 have HX1:=Lib.hid (HX.out.grow hb1)
 have hs0:=HX.out.2.2.2
 clear hb1 HC1 HRG HX HCK
 go_upto_region 4 with fail
 have HS0:Hid (B2 w [.int .i64 d.p,.int .i64 d.m,.slice Am d.mod.length cm,.int .i64 d.n,.slice A d.gen.length c] 32 [.int .i64 0,.int .i64 0,.slice none 0 0,.int .i64 0,.slice none 0 0] 32 w1.drew):=HX1.out.grow (Below.refl _ _).drew
 refine qaX 7 7 (B2 w [.int .i64 d.p,.int .i64 d.m,.slice Am d.mod.length cm,.int .i64 d.n,.slice A d.gen.length c] 32 [.int .i64 0,.int .i64 0,.slice none 0 0,.int .i64 0,.slice none 0 0] 32) [(1,0),(0,1),(0,2),(1,4),(0,5),(2,3),(2,6)] default (by kernel_rfl) (by kernel_rfl) (fun _ _ d _ _ h=>by cases d <;> exact h) HS0.out ?_
 simp only [List.map_cons,List.map_nil,List.getD_cons_zero,List.getD_cons_succ]
 generalize w1.drew=Wd at *
 clear HX1
 apply qaR rfl
 . intro W
   go_simp
   rfl
 go_simp
 refine qbV rfl 29 (.tmp 11) rfl w.heap.size 0 rfl [.int .i64 d.p,.int .i64 d.m,.slice Am d.mod.length cm] _ (fun W hW=>hW.field) Tryz.underlying29 rfl fieldSize ?_
 go_simp
 refine qbV rfl 32 (.tmp 1) rfl w.heap.size 0 rfl [.int .i64 d.p,.int .i64 d.m,.slice Am d.mod.length cm,.int .i64 d.n,.slice A d.gen.length c] _ (fun W hW=>hW.range) Tryz.underlying32 rfl codeSize ?_
 go_simp
 apply qaR rfl
 . intro W
   go_simp
   rfl
 go_simp
 apply qaZ rfl
 . intro W hW
   have z0:W.cell? ⟨w.heap.size,3,none⟩=some (.int .i64 d.n):=hW.cell rfl
   go_simp
   rfl
 go_simp
 apply qcF rfl
 . go_simp
   exact ⟨rfl,rfl⟩
 with_reducible refine (HPA.out Wd HS0.out.below).mono ?_
 rintro e w2 ⟨⟨A',R,ck,rfl,hra,hgr,hrl⟩,hb2⟩
 have HS2:=Lib.hid (HS0.out.grow hb2)
 have HMK2:=Lib.hid (HMK.out R A' ck w2 HS2.out.below hgr hra hrl)
 refine ⟨_,rfl,HS2.out,?_⟩
 clear hb2 hra hgr HMK HPA
 go_simp
 apply qcF rfl
 . go_simp
   exact ⟨rfl,rfl⟩
 with_reducible refine HMK2.out.mono ?_
 rintro e w3 ⟨⟨B',c',G,R',k',rfl,hi3,hr3,hl3⟩,hb3⟩
 have HS3:=Lib.hid (HS2.out.grow hb3)
 have HI3:=Lib.hid hi3
 have HR3:=Lib.hid hr3
 have hs2:=HS2.out.2.2.2
 refine ⟨_,rfl,HS3.out,?_⟩
 clear hb3 hi3 hr3 HMK2
 go_simp
 refine qbZ ?_
 show wpList _ _ _ _ _ _
 go_simp
 have HK:=Lib.hid HS3.out.2.1
 have HY:=Lib.hid (HS3.out.set [.int .i64 d.p,.int .i64 d.m,.slice B' d.mod.length c',.int .i64 d.n,.slice G R'.length k'])
 go_wp2_with (refine qaE rfl 32 (.tmp 2) (.tmp 17) rfl w3 (w.heap.size+1) 32 #[.int .i64 0,.int .i64 0,.slice none 0 0,.int .i64 0,.slice none 0 0] #[.int .i64 d.p,.int .i64 d.m,.slice B' d.mod.length c',.int .i64 d.n,.slice G R'.length k'] rfl rfl HK.out codeSize rfl (by simp [Value.oneCell']) ?_)
 refine bodyPost_ret (qaP (P:=Tryz.prog) rfl _ _ (w.heap.size+1) 32 #[.int .i64 d.p,.int .i64 d.m,.slice B' d.mod.length c',.int .i64 d.n,.slice G R'.length k'] (0,0) _ _ rfl rfl HY.out.2.1 Tryz.underlying32 rfl codeSize) rfl ?_
 have hu:IntsUp (w3.setRow (w.heap.size+1) #[.int .i64 d.p,.int .i64 d.m,.slice B' d.mod.length c',.int .i64 d.n,.slice G R'.length k']) w2.heap.size B' d.mod:=HI3.out.of_blocks (by simp) fun k hk _=>setRow_other w3 (w.heap.size+1) k _ (by omega)
 have hv:RowsUp (w3.setRow (w.heap.size+1) #[.int .i64 d.p,.int .i64 d.m,.slice B' d.mod.length c',.int .i64 d.n,.slice G R'.length k']) w2.heap.size G (nzs R'):=HR3.out.of_blocks (by simp) fun k hk _=>setRow_other w3 (w.heap.size+1) k _ (by omega)
 exact ⟨⟨B',c',G,R',k',rfl,hu.ints,hv.rowsAt,hl3⟩,HY.out.below⟩
end Go.Proofs.YtlmglaonldlanaaGreat
