/-
 The program's field: the first primitive element's powers. The program's field: the shape of a description. The program's field: Check.
-/
import Derived.Deep.QuietTactic
import Derived.BigQuiet
import Derived.Test.YtlmglaonldlanaaGreatQ05
namespace Go.Proofs.YtlmglaonldlanaaGreat
open Go.RowKit Pln
def GenV (w:World) (B:Nat) (v:Value) (l:List Nat):Prop:=(l=[]/\v=.slice none 0 0)\/(l≠[]/\OwnI w B v (nz l))
def RelG (w W0:World) (q:Nat) (mul:Nat->Nat->Nat) (g:Nat) (v5:Value) (wr:World):Prop :=
 ∃ x:Nat,1<=x/\x+g=q/\v5=.int .i64 x/\genGo mul q (q-x) x=genM mul q/\Below (w.heap.size+1) W0 wr
def CutG (w W0:World) (l:List Nat) (b:Bool) (v6 v31:Value) (wr:World):Prop:=v31=.bool b/\OwnI wr (w.heap.size+1) v6 (nz l)/\Below (w.heap.size+1) W0 wr
set_option maxHeartbeats 1000000 in
set_option maxRecDepth 100000 in
theorem generator_c (p m:Nat) (A:Option Addr) (n c:Nat) (md:List Nat) (w:World) (hs:Small p m) (hM:ModAt w w.heap.size m A n md) (hmd:∀ d∈md,d<p) :
 Calls Tryz.prog 95 #[.agg #[.int .i64 p,.int .i64 m,.slice A n c],.int .i64 ((p ^ m:Nat):Int)] w fun e w'=>(∃ v,e=.returned v/\GenV w' w.heap.size v (genM (mulM p m md) (p ^ m)))/\Below w.heap.size w w':=by
 have HMON:=Lib.hid (qaU (p:=p) (m:=m) (by have:=hs.p1;omega) hs.m1 md)
 have hq1:=HMON.out.q1
 have hq2:=hs.q
 have HCM:Hid (∀ x y W,x<p ^ m->y<p ^ m->w.heap.size<=W.heap.size->Below w.heap.size w W->Calls Tryz.prog 155 #[.agg #[.int .i64 p,.int .i64 m,.slice A n c],.int .i64 ((x:Nat):Int),.int .i64 ((y:Nat):Int)] W fun e w'=>e=.returned (.int .i64 ((mulM p m md x y:Nat):Int))/\Below W.heap.size W w') :=
  fun x y W hx hy hsz hb=>multiply_c p m x y A n c md W hs ((hM.keep hb).more hsz) hmd hx hy
 have HCP:Hid (∀ x W,x<p ^ m->w.heap.size<=W.heap.size->Below w.heap.size w W->Calls Tryz.prog 154 #[.agg #[.int .i64 p,.int .i64 m,.slice A n c],.int .i64 ((p ^ m:Nat):Int),.int .i64 ((x:Nat):Int)] W fun e w'=>(∃ v,e=.returned v/\OwnI w' W.heap.size v (nz (powers (mulM p m md) (p ^ m) x)))/\Below W.heap.size W w') :=
  fun x W hx hsz hb=>powers_c p m x A n c md W hs ((hM.keep hb).more hsz) hmd hx
 clear hs hM hmd
 generalize hmu:mulM p m md=mul at *
 clear hmu
 generalize hqq:p ^ m=q at *
 clear hqq
 go_enter Tryz.func95,Tryz.ntmps95
 go_wp2_with fail
 have HW0:Hid ((w.alloc (.cells #[.int .i64 p,.int .i64 m,.slice A n c] 29)).heap.size=w.heap.size+1):=by show _=_;simp
 have HBLK:Hid ((w.alloc (.cells #[.int .i64 p,.int .i64 m,.slice A n c] 29)).heap[w.heap.size]?=some (.cells [.int .i64 p,.int .i64 m,.slice A n c].toArray 29 (0,0))):=heap_alloc_new _ _
 have HB0:Hid (Below w.heap.size w (w.alloc (.cells #[.int .i64 p,.int .i64 m,.slice A n c] 29))):=(Below.refl _ _).alloc (Nat.le_refl _) _
 generalize w.alloc (.cells #[.int .i64 p,.int .i64 m,.slice A n c] 29)=W0 at *
 go_loopg [5] (q-1) (fun g v5 wr=>RelG w W0 q mul g v5 wr)
 case atStart=>exact ⟨1,Nat.le_refl _,by omega,rfl,rfl,Below.refl _ _⟩
 case round =>
  obtain ⟨x,hx1,hxg,rfl,hge,hbel⟩:=hrel
  have HGE:=Lib.hid hge
  have HBEL:=Lib.hid hbel
  have HFIN:Hid (Below w.heap.size w wr):=HB0.out.trans (hbel.mono (Nat.le_succ _))
  have hwr:w.heap.size<=wr.heap.size:=by have:=hbel.size;have:=HW0.out;omega
  clear hge hbel
  by_cases hlt:x<q
  . have HRG : Hid (wr.rangeAt w.heap.size 0 [.int .i64 p,.int .i64 m,.slice A n c]) := qaC ((HBEL.out.block _ (Nat.lt_succ_self _)).trans HBLK.out)
    go_wp2_with (refine wpList_load_mid rfl 29 (.tmp 2) rfl w.heap.size 0 rfl [.int .i64 p,.int .i64 m,.slice A n c] _ HRG.out Tryz.underlying29 rfl fieldSize ?_)
    (with_reducible refine (HCP.out x wr hlt hwr HFIN.out).mono ?_)
    rintro e w1 ⟨⟨v,rfl,hown⟩,hb1⟩
    obtain ⟨g,c',rfl,hrow⟩:=hown
    have hg1:=hrow.lt
    have HBEL1:=Lib.hid (HBEL.out.trans (hb1.mono (by have:=HBEL.out.size;have:=HW0.out;omega)))
    have HROW:=Lib.hid (hrow.base (B':=w.heap.size+1) (by have:=HBEL.out.size;have:=HW0.out;omega))
    obtain ⟨kk,hgood,hk1,hpw⟩:=powers_spec HMON.out hlt
    have HPW:=Lib.hid hpw
    have HLLT:Hid (∀ j,(powers mul q x).getD j 0<q):=fun j=>by
     rw [hpw]
     unfold pl
     simp only [List.getD,List.getElem?_map]
     cases (List.range kk)[j]? with
     | none=>simp;omega
     | some i=>exact pw_lt HMON.out x i
    have HSTEP:Hid (genGo mul q (q-x) x=if (powers mul q x).length=q-1/\mul ((powers mul q x).getD (q-2) 0) x=1 then powers mul q x else genGo mul q (q-(x+1)) (x+1)):=by
     show _=_
     rw [show q-x=(q-(x+1))+1 by omega]
     rfl
    clear hrow hb1 hpw hgood HRG HBEL HFIN
    generalize hll:powers mul q x=l at *
    clear hll
    rw [qaB]
    go_upto_region 5 with fail
    have hw1:w.heap.size<=w1.heap.size:=by have:=HBEL1.out.size;have:=HW0.out;omega
    have z0:w1.cell? ⟨w.heap.size,0,none⟩=some (.int .i64 p):=(HBEL1.out.cell (p:=⟨w.heap.size,0,none⟩) (by show w.heap.size < _;omega)).trans (cell_of_row _ _ 0 _ _ _ HBLK.out)
    have z1:w1.cell? ⟨w.heap.size,1,none⟩=some (.int .i64 m):=(HBEL1.out.cell (p:=⟨w.heap.size,1,none⟩) (by show w.heap.size < _;omega)).trans (cell_of_row _ _ 1 _ _ _ HBLK.out)
    have z2:w1.cell? ⟨w.heap.size,2,none⟩=some (.slice A n c):=(HBEL1.out.cell (p:=⟨w.heap.size,2,none⟩) (by show w.heap.size < _;omega)).trans (cell_of_row _ _ 2 _ _ _ HBLK.out)
    have hlb:w.heap.size<w1.heap.size:=by have:=HBEL1.out.size;have:=HW0.out;omega
    go_cut [31] (fun v31 wx=>CutG w W0 l (decide (l.length=q-1/\mul (l.getD (q-2) 0) x=1)) (.slice (some ⟨g,0,none⟩) l.length c') v31 wx)
    case first =>
     by_cases hl:l.length=q-1
     . have hl2 : ((l.length : Int) == (q : Int) - 1) = true := by simp;omega
       have hl3:(l.length:Int)=(q:Int)-1:=by omega
       have HL3:=Lib.hid hl3
       have HDEC:Hid (decide (l.length=q-1/\mul (l.getD (q-2) 0) x=1)=decide (mul (l.getD (q-2) 0) x=1)):=by show _=_;rw [decide_eq_decide];exact ⟨fun h=>h.2,fun h=>⟨hl,h⟩⟩
       have hrc:w1.cell? ⟨g,q-2,none⟩=some (.int .i64 ((l.getD (q-2) 0:Nat):Int)):=by rw [<- qaF];exact HROW.out.cell (by rw [qaB];omega)
       have hyl:=HLLT.out (q-2)
       have hgl:=hg1.2
       have t0:(0:Int)<=(q:Int)-2:=by omega
       have t1:(q:Int)-2<(l.length:Int):=by omega
       have t2:((q:Int)-2).toNat=q-2:=by omega
       have t3:(2:Int)<=(q:Int):=by omega
       have HL:=Lib.hid hl
       clear hl hl3
       generalize hye:l.getD (q-2) 0=y at *
       clear hye
       have HCD:=Lib.hid (HCM.out y x w1.drew hyl hlt (show w.heap.size<=w1.drew.heap.size from hw1) (HB0.out.trans (HBEL1.out.mono (Nat.le_succ _))).drew)
       have e1:IntKind.i64.wrap ((q:Int)-1)=(q:Int)-1:=IntWalk.i64_in _ (by omega)
       have e2:IntKind.i64.wrap ((q:Int)-2)=(q:Int)-2:=IntWalk.i64_in _ (by omega)
       go_region_held3 (fun w'=>w'.cell? ⟨w.heap.size,0,none⟩=some (.int .i64 p)/\w'.cell? ⟨w.heap.size,1,none⟩=some (.int .i64 m)/\w'.cell? ⟨w.heap.size,2,none⟩=some (.slice A n c)/\w'.cell? ⟨g,q-2,none⟩=some (.int .i64 (y:Int)))
        (first | go_keep | (go_split_ands;exact ⟨(hbd.cell (p:=⟨w.heap.size,0,none⟩) hlb).trans (by assumption),(hbd.cell (p:=⟨w.heap.size,1,none⟩) hlb).trans (by assumption),(hbd.cell (p:=⟨w.heap.size,2,none⟩) hlb).trans (by assumption),(hbd.cell (p:=⟨g,q-2,none⟩) hgl).trans (by assumption)⟩))
        (first | ((with_reducible refine HCD.out.mono ?_);rintro e w2 ⟨rfl,hbd⟩))
       have hbd2:Below w1.heap.size w1 w2:=⟨hbd.os,hbd.tape,hbd.output,hbd.size,hbd.block⟩
       have HY:Hid (CutG w W0 l (decide (l.length=q-1/\mul y x=1)) (.slice (some ⟨g,0,none⟩) l.length c') (.bool (((mul y x:Nat):Int)==1)) w2):=by
        refine ⟨?_,⟨g,c',by rw [qaB],HROW.out.below hbd2 hgl⟩,HBEL1.out.trans (hbd2.mono hlb)⟩
        rw [HDEC.out]
        congr 1
        by_cases h:mul y x=1
        . simp [h]
        . simp [h]
          omega
       clear e1 e2 z0 z1 z2 hbd hbd2
       go_wp2_with fail
       go_meet
       exact HY.out
     . have HX : Hid (decide (l.length = q - 1 /\ mul (l.getD (q - 2) 0) x = 1) = false) := decide_eq_false (fun h => hl h.1)
       have hl2:((l.length:Int)==(q:Int)-1)=false:=by simp;omega
       have hl3:¬ (l.length:Int)=(q:Int)-1:=by omega
       have e1:IntKind.i64.wrap ((q:Int)-1)=(q:Int)-1:=IntWalk.i64_in _ (by omega)
       go_quiet (fail)
       have HY:Hid (CutG w W0 l (decide (l.length=q-1/\mul (l.getD (q-2) 0) x=1)) (.slice (some ⟨g,0,none⟩) l.length c') (.bool false) (w1.drewN nq)) :=
        ⟨by rw [HX.out],⟨g,c',by rw [qaB],HROW.out⟩,qaA HBEL1.out nq⟩
       clear e1 z0 z1 z2
       go_wp2_with fail
       go_meet
       exact HY.out
    case rest =>
     obtain ⟨rfl,⟨g',c2,he,hr⟩,hb⟩:=hcut
     have HR:=Lib.hid hr
     have HB:=Lib.hid hb
     have HE:=Lib.hid he
     clear hr hb he z0 z1 z2
     by_cases hd:l.length=q-1/\mul (l.getD (q-2) 0) x=1
     . have HG1 : Hid (genM mul q = l) := by show _ = _;rw [<- HGE.out,HSTEP.out,if_pos hd]
       have hdd:decide (l.length=q-1/\mul (l.getD (q-2) 0) x=1)=true:=decide_eq_true hd
       have HNE:Hid (l≠[]):=fun h=>by subst h;have:=hd.1;simp at this;omega
       rw [hdd]
       clear hd hdd HSTEP HGE HLLT
       go_wp2_with fail
       go_ret
       refine ⟨⟨.slice (some ⟨g,0,none⟩) l.length c',rfl,.inr ⟨by rw [HG1.out];exact HNE.out,?_⟩⟩,HB0.out.trans (HB.out.mono (Nat.le_succ _))⟩
       rw [HG1.out]
       exact ⟨g',c2,HE.out,HR.out.base (by have:=HR.out.lt;omega)⟩
     . have HG1 : Hid (genGo mul q (q - (x + 1)) (x + 1) = genM mul q) := by show _ = _;rw [<- HGE.out,HSTEP.out,if_neg hd]
       have hdd:decide (l.length=q-1/\mul (l.getD (q-2) 0) x=1)=false:=decide_eq_false hd
       rw [hdd]
       clear hd hdd HSTEP HGE HLLT
       go_wp2_with fail
       go_roundg (q-(x+1))
       case measure=>omega
       case rel=>exact ⟨x+1,by omega,by omega,by go_num,HG1.out,HB.out⟩
  . obtain rfl : x = q := by omega
    have HG0:Hid (genM mul x=[]):=by show _=_;rw [<- HGE.out,Nat.sub_self];rfl
    clear HGE
    go_wp2_with fail
    go_ret
    exact ⟨⟨_,rfl,.inl ⟨HG0.out,rfl⟩⟩,HFIN.out⟩
end Go.Proofs.YtlmglaonldlanaaGreat
namespace Go.Proofs.YtlmglaonldlanaaGreat
open Go.RowKit Pln
def mdOf (m:Int) (mod:List Int):List Nat:=if m=1 then [0] else mod.map Int.toNat
def inB (p c:Int):Bool:=decide (0<=c) && decide (c<p)
def shapeM (p m:Int) (mod:List Int):Bool :=
 !(orderM p m==0) && primeP p.toNat && (if m=1 then mod.length==0 else ((mod.length:Int)==m) && mod.all (inB p))
structure ShapeIs (p m:Int) (mod:List Int):Prop where
 p0:((p.toNat:Nat):Int)=p
 m0:((m.toNat:Nat):Int)=m
 small:Small p.toNat m.toNat
 prime:primeP p.toNat=true
 ord:orderM p m=((p.toNat ^ m.toNat:Nat):Int)
 one:m=1->mod=[]
 len:m≠1->mod.length=m.toNat
 nat:m≠1->nz (mdOf m mod)=mod
 lt:∀ d∈mdOf m mod,d<p.toNat
theorem orderM_ne {p m:Int} (h:orderM p m≠0):((p.toNat:Nat):Int)=p/\((m.toNat:Nat):Int)=m/\Small p.toNat m.toNat/\orderM p m=((p.toNat ^ m.toNat:Nat):Int):=by
 unfold orderM at h ⊢
 by_cases h1:p<2\/256<p\/m<1\/8<m
 . rw [if_pos h1] at h
   exact absurd rfl h
 . rw [if_neg h1] at h ⊢
   by_cases h2:256<p.toNat ^ m.toNat
   . rw [if_pos h2] at h
     exact absurd rfl h
   . rw [if_neg h2]
     exact ⟨by omega,by omega,⟨by omega,by omega,by omega,by omega,by omega⟩,rfl⟩
theorem qbJ {p m:Int} {mod:List Int} (h:shapeM p m mod=true):ShapeIs p m mod:=by
 unfold shapeM at h
 simp only [Bool.and_eq_true,Bool.not_eq_true',beq_eq_false_iff_ne,ne_eq] at h
 obtain ⟨⟨h1,h2⟩,h3⟩:=h
 obtain ⟨a,b,c,d⟩:=orderM_ne h1
 by_cases hm:m=1
 . rw [if_pos hm] at h3
   refine ⟨a,b,c,h2,d,fun _=>by simpa using h3,fun h=>absurd hm h,fun h=>absurd hm h,?_⟩
   intro x hx
   unfold mdOf at hx
   rw [if_pos hm] at hx
   simp at hx
   have:=c.p1
   omega
 . rw [if_neg hm] at h3
   simp only [Bool.and_eq_true,beq_iff_eq] at h3
   have hall:∀ z∈mod,0<=z/\z<p:=fun z hz=>by
    have:=List.all_eq_true.1 h3.2 z hz
    simpa [inB] using this
   refine ⟨a,b,c,h2,d,fun h=>absurd h hm,fun _=>by omega,fun _=>?_,?_⟩
   . unfold mdOf nz
     rw [if_neg hm,List.map_map]
     conv=>rhs;rw [<- List.map_id mod]
     apply List.map_congr_left
     intro z hz
     have:=hall z hz
     simp
     omega
   . intro x hx
     unfold mdOf at hx
     rw [if_neg hm] at hx
     obtain ⟨z,hz,rfl⟩:=List.mem_map.1 hx
     have:=hall z hz
     omega
theorem ShapeIs.mod {w:World} {p m:Int} {mod:List Int} {B:Nat} {A:Option Addr} (h:ShapeIs p m mod) (hA:IntsAt w B A mod):ModAt w B m.toNat A mod.length (mdOf m mod):=by
 by_cases hm:m=1
 . refine .inl ⟨by omega,?_⟩
   unfold mdOf
   rw [if_pos hm]
 . have h1 := h.small.m1
   have h2:=h.m0
   refine .inr ⟨by omega,h.len hm,?_,?_⟩
   . have := h.nat hm
     rw [<- h.len hm,<- this,qaB,this]
   . rw [h.nat hm]
     exact hA
set_option maxHeartbeats 1000000 in
set_option maxRecDepth 100000 in
theorem shape_c (p m:Int) (mod:List Int) (A:Option Addr) (c:Nat) (w:World) (hA:IntsAt w w.heap.size A mod) (hl:mod.length<=9223372036854775807) :
 Calls Tryz.prog 94 #[.agg #[.int .i64 p,.int .i64 m,.slice A mod.length c]] w fun e w'=>e=.returned (.bool (shapeM p m mod))/\Below w.heap.size w w':=by
 have HA:=Lib.hid hA
 have HBN:Hid (Below w.heap.size w (w.alloc (.cells #[.int .i64 p,.int .i64 m,.slice A mod.length c] 29))):=(Below.refl _ _).alloc (Nat.le_refl _) _
 clear hA
 by_cases ho:orderM p m=0
 . have HS : Hid (shapeM p m mod = false) := by show _ = _;unfold shapeM;rw [ho];rfl
   have hob:(orderM p m==0)=true:=by rw [ho];rfl
   clear ho
   go_enter Tryz.func94,Tryz.ntmps94
   go_wp2_with (go_at_call 96;refine (qdU _ _ _).mono ?_;rintro e w' ⟨rfl,rfl⟩)
   go_ret
   exact ⟨qaO HS.out.symm,HBN.out⟩
 . obtain ⟨hp0,hm0,hsm,hord⟩ := orderM_ne ho
   have hob:(orderM p m==0)=false:=by simpa using ho
   obtain ⟨p,rfl⟩:∃ p':Nat,p=p':=⟨p.toNat,hp0.symm⟩
   obtain ⟨m,rfl⟩:∃ m':Nat,m=m':=⟨m.toNat,hm0.symm⟩
   obtain ⟨hp1,hp2,hm1,hm2,hq⟩:=hsm
   simp only [Int.toNat_natCast] at hp1 hp2 hm1 hm2
   have HSH:Hid (shapeM p m mod=(primeP p && (if (m:Int)=1 then mod.length==0 else ((mod.length:Int)==(m:Int)) && mod.all (inB p)))):=by
    show _=_
    unfold shapeM
    rw [hob]
    simp
   clear hp0 hm0 ho hq hord
   cases hpr:primeP p
   . have HS : Hid (shapeM p m mod = false) := by show _ = _;rw [HSH.out,hpr];rfl
     have HP:Hid (∀ W:World,Calls Tryz.prog 153 #[.int .i64 (p:Int)] W fun e w'=>e=.returned (.bool false)/\W=w'):=fun W=>by
      have:=isPrime_c p hp2 W
      rw [hpr] at this
      exact this
     clear hpr HSH
     go_enter Tryz.func94,Tryz.ntmps94
     go_wp2_with (first | (go_at_call 96;refine (qdU _ _ _).mono ?_;rintro e w' ⟨rfl,rfl⟩) | (go_at_call 153;refine (HP.out _).mono ?_;rintro e w' ⟨rfl,rfl⟩))
     go_ret
     exact ⟨qaO HS.out.symm,HBN.out⟩
   . have HP : Hid (∀ W : World,Calls Tryz.prog 153 #[.int .i64 (p : Int)] W fun e w' => e = .returned (.bool true) /\ W = w') := fun W => by
      have:=isPrime_c p hp2 W
      rw [hpr] at this
      exact this
     rw [hpr] at HSH
     clear hpr
     have HZ1:Hid ((w.alloc (.cells #[.int .i64 p,.int .i64 m,.slice A mod.length c] 29)).heap[w.heap.size]?=some (.cells #[.int .i64 p,.int .i64 m,.slice A mod.length c] 29 (0,0))):=heap_alloc_new _ _
     by_cases hmm:m=1
     . have HS : Hid (shapeM p m mod = (mod.length == 0)) := by show _ = _;rw [HSH.out,if_pos (by omega)];rfl
       have hmb:((m:Int)==1)=true:=by simp;omega
       have hmc:(m:Int)=1:=by omega
       clear HSH hmm hmc
       go_enter Tryz.func94,Tryz.ntmps94
       go_wp2_with (first | (go_at_call 96;refine (qdU _ _ _).mono ?_;rintro e w' ⟨rfl,rfl⟩) | (go_at_call 153;refine (HP.out _).mono ?_;rintro e w' ⟨rfl,rfl⟩))
       go_ret
       refine ⟨qaO ?_,HBN.out⟩
       rw [HS.out]
       have hz:((mod.length:Int)==0)=(mod.length==0):=by
        by_cases h0:mod.length=0
        . rw [h0];rfl
        . have h1 : ¬ (mod.length : Int) = 0 := by omega
          rw [beq_eq_false_iff_ne.2 h1,beq_eq_false_iff_ne.2 h0]
       exact hz
     . have hmb : ((m : Int) == 1) = false := by simp;omega
       have HSH2:Hid (shapeM p m mod=(((mod.length:Int)==(m:Int)) && mod.all (inB p))):=by show _=_;rw [HSH.out,if_neg (by omega)];rfl
       clear HSH
       by_cases hlen:mod.length=m
       . have hlb : ((mod.length : Int) == (m : Int)) = true := by simp;omega
         have hlb2:((mod.length:Int) != (m:Int))=false:=by simp;omega
         have HS:Hid (shapeM p m mod=mod.all (inB p)):=by show _=_;rw [HSH2.out,hlb];rfl
         have HLEN:=Lib.hid hlen
         have hl8:mod.length<=8:=by omega
         clear HSH2 hlb hlen
         go_enter Tryz.func94,Tryz.ntmps94
         go_wp2_with (first | (go_at_call 96;refine (qdU _ _ _).mono ?_;rintro e w' ⟨rfl,rfl⟩) | (go_at_call 153;refine (HP.out _).mono ?_;rintro e w' ⟨rfl,rfl⟩))
         generalize w.alloc (.cells #[.int .i64 p,.int .i64 m,.slice A mod.length c] 29)=W at *
         go_loop [33] (fun v33=>∃ k:Nat,k<=mod.length/\v33=.int .i64 k/\(mod.take k).all (inB p)=true) (fun v33=>mod.length-(intOf v33).toNat)
         case atStart=>exact ⟨0,by omega,rfl,by simp⟩
         case round =>
          obtain ⟨k,hk,rfl,hall⟩:=hrel
          have HALL:=Lib.hid hall
          clear hall
          have z0:W.cell? ⟨w.heap.size,0,none⟩=some (.int .i64 p):=cell_of_row _ _ 0 _ _ _ HZ1.out
          by_cases hlt:k<mod.length
          . obtain ⟨b,o,rfl,hb,hc⟩ := (HA.out.keep HBN.out).at_ hlt
            have HTK:Hid ((mod.take (k+1)).all (inB p)=((mod.take k).all (inB p) && inB p (mod.getD k 0))):=by
             show _=_
             rw [List.take_succ_eq_append_getElem hlt,List.all_append]
             simp [List.getD,hlt]
            have HMEM:Hid (inB p (mod.getD k 0)=false->mod.all (inB p)=false):=fun h=>by
             rw [List.all_eq_false]
             exact ⟨mod.getD k 0,by rw [List.getD_eq_getElem?_getD,List.getElem?_eq_getElem hlt];exact List.getElem_mem hlt,by rw [h];simp⟩
            generalize mod.getD k 0=z at *
            by_cases h0:z<0
            . have HE := Lib.hid (HMEM.out (by unfold inB;rw [decide_eq_false (by omega)];rfl))
              go_wp2_with fail
              go_ret
              exact ⟨qaO (by rw [HS.out,HE.out]),HBN.out⟩
            . by_cases h1 : z < p
              . have HE : Hid (inB p z = true) := by show _ = _;unfold inB;rw [decide_eq_true (by omega),decide_eq_true h1];rfl
                go_wp2_with fail
                go_round
                case rel=>exact ⟨k+1,by omega,by go_num,by rw [HTK.out,HALL.out,HE.out];rfl⟩
                case measure=>simp [intOf];omega
              . have HE := Lib.hid (HMEM.out (by unfold inB;rw [decide_eq_false h1,Bool.and_false]))
                go_wp2_with fail
                go_ret
                exact ⟨qaO (by rw [HS.out,HE.out]),HBN.out⟩
          . go_wp2_with fail
            go_ret
            refine ⟨qaO ?_,HBN.out⟩
            have:=HALL.out
            rw [List.take_of_length_le (by omega)] at this
            rw [HS.out,this]
       . have hlb : ((mod.length : Int) == (m : Int)) = false := by simp;omega
         have hlb2:((mod.length:Int) != (m:Int))=true:=by simp;omega
         have hlb3:¬ mod.length=m:=hlen
         have HS:Hid (shapeM p m mod=false):=by show _=_;rw [HSH2.out,hlb];rfl
         clear HSH2 hlb hlen
         go_enter Tryz.func94,Tryz.ntmps94
         go_wp2_with (first | (go_at_call 96;refine (qdU _ _ _).mono ?_;rintro e w' ⟨rfl,rfl⟩) | (go_at_call 153;refine (HP.out _).mono ?_;rintro e w' ⟨rfl,rfl⟩))
         go_ret
         exact ⟨qaO HS.out.symm,HBN.out⟩
end Go.Proofs.YtlmglaonldlanaaGreat
namespace Go.Proofs.YtlmglaonldlanaaGreat
open Go.RowKit Pln
def fieldOK (p m:Int) (mod:List Int):Bool:=shapeM p m mod && !(genM (mulM p.toNat m.toNat (mdOf m mod)) (p.toNat ^ m.toNat)).isEmpty
def errF (b:Bool):Int:=if b=true then 0 else 1
def SBoxF (w:World) (p m:Int) (A:Option Addr) (n c:Nat) (W:World):Prop :=
 Below w.heap.size w W/\w.heap.size<W.heap.size/\W.heap[w.heap.size]?=some (.cells #[.int .i64 p,.int .i64 m,.slice A n c] 29 (0,0))
theorem SBoxF.grow {w:World} {p m:Int} {A:Option Addr} {n c:Nat} {W W':World} (h:SBoxF w p m A n c W) (hb:Below W.heap.size W W'):SBoxF w p m A n c W' :=
 ⟨h.1.trans (hb.mono (Nat.le_of_lt h.2.1)),Nat.lt_of_lt_of_le h.2.1 hb.size,(hb.block _ h.2.1).trans h.2.2⟩
def CutC (w _W0:World) (b:Bool) (v15:Value) (wx:World):Prop:=v15=.bool b/\Below w.heap.size w wx
theorem qeF {p m:Int} {mod:List Int} (hs:ShapeIs p m mod) (A:Option Addr) (c:Nat) (w:World) (hA:IntsAt w w.heap.size A mod) :
 Calls Tryz.prog 95 #[.agg #[.int .i64 p,.int .i64 m,.slice A mod.length c],.int .i64 (orderM p m)] w fun e w'=>(∃ v,e=.returned v/\GenV w' w.heap.size v (genM (mulM p.toNat m.toNat (mdOf m mod)) (p.toNat ^ m.toNat)))/\Below w.heap.size w w':=by
 have h:=generator_c p.toNat m.toNat A mod.length c (mdOf m mod) w hs.small (hs.mod hA) hs.lt
 rw [hs.p0,hs.m0] at h
 rw [hs.ord]
 exact h
set_option maxHeartbeats 1000000 in
set_option maxRecDepth 100000 in
theorem fcheck_c (p m:Int) (mod:List Int) (A:Option Addr) (c:Nat) (w:World) (hA:IntsAt w w.heap.size A mod) (hl:mod.length<=9223372036854775807) :
 Calls Tryz.prog 46 #[.agg #[.int .i64 p,.int .i64 m,.slice A mod.length c]] w fun e w'=>e=.returned (.int .i64 (errF (fieldOK p m mod)))/\Below w.heap.size w w':=by
 have HA:=Lib.hid hA
 have HCS:Hid (∀ W,w.heap.size<=W.heap.size->Below w.heap.size w W->Calls Tryz.prog 94 #[.agg #[.int .i64 p,.int .i64 m,.slice A mod.length c]] W fun e w'=>e=.returned (.bool (shapeM p m mod))/\Below W.heap.size W w') :=
  fun W h1 h2=>shape_c p m mod A c W ((hA.keep h2).more h1) hl
 have HCG:Hid (ShapeIs p m mod->∀ W,w.heap.size<=W.heap.size->Below w.heap.size w W->Calls Tryz.prog 95 #[.agg #[.int .i64 p,.int .i64 m,.slice A mod.length c],.int .i64 (orderM p m)] W fun e w'=>(∃ v,e=.returned v/\GenV w' W.heap.size v (genM (mulM p.toNat m.toNat (mdOf m mod)) (p.toNat ^ m.toNat)))/\Below W.heap.size W w') :=
  fun hs W h1 h2=>qeF hs A c W ((hA.keep h2).more h1)
 clear hA
 go_enter Tryz.func46,Tryz.ntmps46
 go_upto_region 1 with fail
 have HW0:Hid ((w.alloc (.cells #[.int .i64 p,.int .i64 m,.slice A mod.length c] 29)).heap.size=w.heap.size+1):=by show _=_;simp
 have HBLK:Hid ((w.alloc (.cells #[.int .i64 p,.int .i64 m,.slice A mod.length c] 29)).heap[w.heap.size]?=some (.cells [.int .i64 p,.int .i64 m,.slice A mod.length c].toArray 29 (0,0))):=heap_alloc_new _ _
 have HB0:Hid (Below w.heap.size w (w.alloc (.cells #[.int .i64 p,.int .i64 m,.slice A mod.length c] 29))):=(Below.refl _ _).alloc (Nat.le_refl _) _
 generalize w.alloc (.cells #[.int .i64 p,.int .i64 m,.slice A mod.length c] 29)=W0 at *
 have z0:W0.cell? ⟨w.heap.size,0,none⟩=some (.int .i64 p):=cell_of_row _ _ 0 _ _ _ HBLK.out
 have z1:W0.cell? ⟨w.heap.size,1,none⟩=some (.int .i64 m):=cell_of_row _ _ 1 _ _ _ HBLK.out
 have z2:W0.cell? ⟨w.heap.size,2,none⟩=some (.slice A mod.length c):=cell_of_row _ _ 2 _ _ _ HBLK.out
 have hlb:w.heap.size<W0.heap.size:=by have:=HW0.out;omega
 go_cut [15] (fun v15 wx=>CutC w W0 (!fieldOK p m mod) v15 wx)
 case first =>
  have HC1:=Lib.hid (HCS.out W0.drew (Nat.le_of_lt hlb) HB0.out.drew)
  cases hsh:shapeM p m mod
  . have HF : Hid (fieldOK p m mod = false) := by show _ = _;unfold fieldOK;rw [hsh];rfl
    have HC0:=Lib.hid (fun W h1 h2=>HCS.out W h1 h2)
    rw [hsh] at HC0
    clear hsh HCG HC1
    refine qaH (SBoxF w p m A mod.length c) (by kernel_rfl) (by kernel_rfl) ⟨HB0.out.drew,hlb,HBLK.out⟩ ?_
    repeat (first
     | (apply qaM rfl
        . intro W hS
          obtain ⟨_,_,hblk⟩:=hS
          have e0:W.cell? ⟨w.heap.size,0,none⟩=some (.int .i64 p):=cell_of_row _ _ 0 _ _ _ hblk
          have e1:W.cell? ⟨w.heap.size,1,none⟩=some (.int .i64 m):=cell_of_row _ _ 1 _ _ _ hblk
          have e2:W.cell? ⟨w.heap.size,2,none⟩=some (.slice A mod.length c):=cell_of_row _ _ 2 _ _ _ hblk
          go_simp
          rfl
        go_simp)
     | (apply qaV rfl
        . intro W hS
          go_simp
          exact ⟨rfl,rfl⟩
        . intro W hS
          exact (HC0.out W (Nat.le_of_lt hS.2.1) hS.1).mono (by rintro e w' ⟨rfl,hbw⟩;exact ⟨rfl,hS.grow hbw⟩)
        go_simp)
     | (apply qcJ rfl;go_simp))
    refine qaJ ?_
    intro w1 hS
    have HY:Hid (CutC w W0 (!fieldOK p m mod) (.bool true) w1):=⟨by rw [HF.out];rfl,hS.1⟩
    clear hS z0 z1 z2
    go_wp2_with fail
    go_meet
    exact HY.out
  . have hshape := qbJ hsh
    rw [hsh] at HC1
    have HCG2:=Lib.hid (HCG.out hshape)
    have HFE:Hid (fieldOK p m mod=!(genM (mulM p.toNat m.toNat (mdOf m mod)) (p.toNat ^ m.toNat)).isEmpty):=by show _=_;unfold fieldOK;rw [hsh];rfl
    clear hsh HCG hshape
    generalize genM (mulM p.toNat m.toNat (mdOf m mod)) (p.toNat ^ m.toNat)=gl at *
    by_cases hgl:gl=[]
    . have HF : Hid (fieldOK p m mod = false) := by show _ = _;rw [HFE.out,hgl];rfl
      have HCG3:Hid (∀ W,w.heap.size<=W.heap.size->Below w.heap.size w W->Calls Tryz.prog 95 #[.agg #[.int .i64 p,.int .i64 m,.slice A mod.length c],.int .i64 (orderM p m)] W fun e w'=>e=.returned (.slice none 0 0)/\Below W.heap.size W w'):=fun W h1 h2 =>
       (HCG2.out W h1 h2).mono fun e w' ⟨⟨v,he,hv⟩,hb⟩ => by
         rcases hv with ⟨_,rfl⟩ | ⟨h,_⟩
         . exact ⟨he,hb⟩
         . exact absurd hgl h
      clear hgl HCG2 HFE
      have hen:∀ (W:World) (a:Option Addr) (n c n' c':Nat),(binOp .eql 23 (.slice a n c) (.slice none n' c')).run Tryz.prog W=.ok (.bool a.isNone) W:=fun W a n c n' c'=>Lib.run_eql_slice_nil W 23 3 a n c n' c' Tryz.underlying23
      go_region_held3 (fun w'=>w'.cell? ⟨w.heap.size,0,none⟩=some (.int .i64 p)/\w'.cell? ⟨w.heap.size,1,none⟩=some (.int .i64 m)/\w'.cell? ⟨w.heap.size,2,none⟩=some (.slice A mod.length c))
       (first | go_keep | (go_split_ands;exact ⟨(hb3.cell (p:=⟨w.heap.size,0,none⟩) hlb1).trans (by assumption),(hb3.cell (p:=⟨w.heap.size,1,none⟩) hlb1).trans (by assumption),(hb3.cell (p:=⟨w.heap.size,2,none⟩) hlb1).trans (by assumption)⟩) | (go_split_ands;exact ⟨(hb1.cell (p:=⟨w.heap.size,0,none⟩) hlb).trans (by assumption),(hb1.cell (p:=⟨w.heap.size,1,none⟩) hlb).trans (by assumption),(hb1.cell (p:=⟨w.heap.size,2,none⟩) hlb).trans (by assumption)⟩))
       (first | ((with_reducible refine HC1.out.mono ?_);rintro e w1 ⟨rfl,hb1⟩;have hlb1:w.heap.size<w1.heap.size:=Nat.lt_of_lt_of_le hlb hb1.size;have HB1:Hid (Below w.heap.size w w1):=HB0.out.drew.trans (hb1.mono (Nat.le_of_lt hlb))) | ((with_reducible refine (qdU _ _ _).mono ?_);rintro e w2 ⟨rfl,rfl⟩) | ((with_reducible refine (HCG3.out _ (Nat.le_of_lt hlb1) HB1.out).mono ?_);rintro e w3 ⟨rfl,hb3⟩))
      have HY:Hid (CutC w W0 (!fieldOK p m mod) (.bool true) w3):=⟨by rw [HF.out];rfl,HB1.out.trans (hb3.mono (Nat.le_of_lt hlb1))⟩
      clear hb1 hb3 z0 z1 z2 hen
      go_wp2_with fail
      go_meet
      exact HY.out
    . have HF : Hid (fieldOK p m mod = true) := by
       show _=_
       rw [HFE.out]
       cases gl with
       | nil=>exact absurd rfl hgl
       | cons a r=>rfl
      have HCG3:Hid (∀ W,w.heap.size<=W.heap.size->Below w.heap.size w W->Calls Tryz.prog 95 #[.agg #[.int .i64 p,.int .i64 m,.slice A mod.length c],.int .i64 (orderM p m)] W fun e w'=>(∃ (g k c':Nat),e=.returned (.slice (some ⟨g,0,none⟩) k c'))/\Below W.heap.size W w'):=fun W h1 h2 =>
       (HCG2.out W h1 h2).mono fun e w' ⟨⟨v,he,hv⟩,hb⟩ => by
         rcases hv with ⟨h,_⟩ | ⟨_,g,c',rfl,_⟩
         . exact absurd h hgl
         . exact ⟨⟨g,_,c',he⟩,hb⟩
      clear hgl HCG2 HFE
      have hen:∀ (W:World) (a:Option Addr) (n c n' c':Nat),(binOp .eql 23 (.slice a n c) (.slice none n' c')).run Tryz.prog W=.ok (.bool a.isNone) W:=fun W a n c n' c'=>Lib.run_eql_slice_nil W 23 3 a n c n' c' Tryz.underlying23
      go_region_held3 (fun w'=>w'.cell? ⟨w.heap.size,0,none⟩=some (.int .i64 p)/\w'.cell? ⟨w.heap.size,1,none⟩=some (.int .i64 m)/\w'.cell? ⟨w.heap.size,2,none⟩=some (.slice A mod.length c))
       (first | go_keep | (go_split_ands;exact ⟨(hb3.cell (p:=⟨w.heap.size,0,none⟩) hlb1).trans (by assumption),(hb3.cell (p:=⟨w.heap.size,1,none⟩) hlb1).trans (by assumption),(hb3.cell (p:=⟨w.heap.size,2,none⟩) hlb1).trans (by assumption)⟩) | (go_split_ands;exact ⟨(hb1.cell (p:=⟨w.heap.size,0,none⟩) hlb).trans (by assumption),(hb1.cell (p:=⟨w.heap.size,1,none⟩) hlb).trans (by assumption),(hb1.cell (p:=⟨w.heap.size,2,none⟩) hlb).trans (by assumption)⟩))
       (first | ((with_reducible refine HC1.out.mono ?_);rintro e w1 ⟨rfl,hb1⟩;have hlb1:w.heap.size<w1.heap.size:=Nat.lt_of_lt_of_le hlb hb1.size;have HB1:Hid (Below w.heap.size w w1):=HB0.out.drew.trans (hb1.mono (Nat.le_of_lt hlb))) | ((with_reducible refine (qdU _ _ _).mono ?_);rintro e w2 ⟨rfl,rfl⟩) | ((with_reducible refine (HCG3.out _ (Nat.le_of_lt hlb1) HB1.out).mono ?_);rintro e w3 ⟨⟨g,k,c',rfl⟩,hb3⟩))
      have HY:Hid (CutC w W0 (!fieldOK p m mod) (.bool false) w3):=⟨by rw [HF.out];rfl,HB1.out.trans (hb3.mono (Nat.le_of_lt hlb1))⟩
      clear hb1 hb3 z0 z1 z2 hen
      go_wp2_with fail
      go_meet
      exact HY.out
 case rest =>
  obtain ⟨rfl,hb⟩:=hcut
  have HB:=Lib.hid hb
  clear hb z0 z1 z2 HCG HCS
  by_cases hf:fieldOK p m mod=true
  . have HF : Hid (errF (fieldOK p m mod) = 0) := by show _ = _;rw [hf];rfl
    have hv:(!fieldOK p m mod)=false:=by rw [hf];rfl
    rw [hv]
    clear hv hf
    go_wp2_with fail
    go_ret
    exact ⟨qaD HF.out.symm,HB.out⟩
  . have HF : Hid (errF (fieldOK p m mod) = 1) := by show _ = _;rw [show fieldOK p m mod = false by simpa using hf];rfl
    have hv:(!fieldOK p m mod)=true:=by simpa using hf
    rw [hv]
    clear hv hf
    go_wp2_with fail
    go_ret
    exact ⟨qaD HF.out.symm,HB.out⟩
end Go.Proofs.YtlmglaonldlanaaGreat
