/- Parts of the proof. -/
import Derived.Test.YtkcdlealipfnbaaGreatR13
set_option maxRecDepth 100000
set_option maxHeartbeats 8000000
namespace Go.Proofs.YtkcdlealipfnbaaGreat
open Go.RowKit Pln Go.Proofs.Tryz
theorem mem_nz{x:Nat}{l:LN}:((x:Int)∈nz l) ↔ x∈l:=by
 unfold nz;constructor
 . intro h;obtain⟨y,b,e⟩:=List.mem_map.1 h;have:y=x:=U0;rwa [<- this]
 . intro h;exact List.mem_map.2 ⟨x,h,rfl⟩
theorem kernel_c(p m:Int)(mod:LI)(Am:OA)(cm:Nat)(cols:Nat)(rows:LL)(A:OA)(c:Nat)(w:Wo)(hM:zI w Am mod)(hl:mod.length<=9223372036854775807)(hA:zR w A (nzs rows))(h1:1<=cols)(cr:errC p m mod cols (nzs rows)=0):
 zC 156 #[C6 p m Am mod.length cm,Cx cols A rows.length c] w (MatPost w cols (kerM (opsT p.toNat m.toNat (lOf p m mod)) rows cols)):=by
 obtain⟨al,hz,q,_,dg,hn⟩:=errC_grid cr;rw[Int.toNat_natCast] at q;have hF:=field_ft al;have E:=qdA hF;have cy:1<p.toNat^m.toNat:=by have h1:=hF.small.p1;have h2:=hF.small.m1;exact Nat.one_lt_pow U0 U0
 obtain⟨i0,L,bq,bt,bu⟩:=qaF infoInt;obtain⟨c7,bg,X,Z,aa⟩:=qaF infoInts;have HI:=zH L;have cj:=zH bq;have cl:=zH bt;have b2:=zH bg;have bb:=zH X;have bc:=zH Z;have bd:=zH aa;have bv:=zH (show i0.bytes*cols<=281474976710656 by rw[bu];omega);have d:=zH (show cols<=maxLen by unfold maxLen;omega);have HX:=zH ((box3 w p m Am mod.length cm cols A rows.length c 54 (Cv)).keep (zV.alloc zn (Cc cols A rows.length c)));have az:zK (((((w.alloc (C3 p m Am mod.length cm)).alloc (Cc cols A rows.length c)).alloc (Cy)).alloc (Cc cols A rows.length c)).heap[w.heap.size+1+1+1]?=some (Cc cols A rows.length c)):=alloc_at U2 _;have HM:=zH hM;have HA:=zH hA;have ac:=zH hF;have b1:=zH q;have av:=zH (canon_grid E q);have cd:zK (∀i,i<(elGo (opsT p.toNat m.toNat (lOf p m mod)) rows cols).piv.length->(elGo (opsT p.toNat m.toNat (lOf p m mod)) rows cols).piv.getD i 0<cols):=fun i L=>by
  have:∀(l:LN)(hj:i<l.length),l.getD i 0=l[i]:=fun l hj=>by simp[List.getD,hj]
  rw[this _ L];exact elGo_piv_lt _ _ _ _ (List.getElem_mem _)
 have b6:=zH (kerRows_grid (piv:=(elGo (opsT p.toNat m.toNat (lOf p m mod)) rows cols).piv) E cy (canon_grid E q) rfl);have a3:=zH (kerRows_len (opsT p.toNat m.toNat (lOf p m mod)) (canonM (opsT p.toNat m.toNat (lOf p m mod)) rows cols) (elGo (opsT p.toNat m.toNat (lOf p m mod)) rows cols).piv cols);have b3:=zH (kerRows_at (opsT p.toNat m.toNat (lOf p m mod)) (canonM (opsT p.toNat m.toNat (lOf p m mod)) rows cols) (elGo (opsT p.toNat m.toNat (lOf p m mod)) rows cols).piv cols);have y:=zH (canonM_len (opsT p.toNat m.toNat (lOf p m mod)) rows cols);have b7:zK (kerM (opsT p.toNat m.toNat (lOf p m mod)) rows cols=canonM (opsT p.toNat m.toNat (lOf p m mod)) (kerRows (opsT p.toNat m.toNat (lOf p m mod)) (canonM (opsT p.toNat m.toNat (lOf p m mod)) rows cols) (elGo (opsT p.toNat m.toNat (lOf p m mod)) rows cols).piv cols) cols):=rfl;have a8:=zH (elGo_piv (O:=opsT p.toNat m.toNat (lOf p m mod)) rows cols);have b0:zK ((freeC (elGo (opsT p.toNat m.toNat (lOf p m mod)) rows cols).piv cols).length<=cols):=freeC_le _ _;clear hM hA L bq bt bu bg X Z aa hF E cr;generalize kerM (opsT p.toNat m.toNat (lOf p m mod)) rows cols=s at *;go_enter func156,ntmps156;go_wp2_with fail;generalize (((w.alloc (C3 p m Am mod.length cm)).alloc (Cc cols A rows.length c)).alloc (Cy)).alloc (Cc cols A rows.length c)=W0 at *;have bj:(nzs rows).length<=9223372036854775807:=by rw[nzs_len];omega
 have HC:=zH (open_c p m mod Am cm cols (nzs rows) A c (w.heap.size+1+1+1) 1 W0 ((HM.o.keep HX.o.below).more HX.o.below.size) hl ((HA.o.keep HX.o.below).more HX.o.below.size) bj (by rw[nzs_len];exact az.o));go_fit HC.o;rintro e w1 ⟨hb1,hcase⟩;have g:=zH (HX.o.keep hb1);have ao:=zH ((HA.o.keep g.o.below).more g.o.below.size);clear HX HM HA HC az hb1;clear W0;rcases hcase with⟨S,_⟩|⟨_,c6,_⟩|⟨_,_,gb,rfl,K⟩
 . rw[al] at S;cases S
 . exact absurd hz c6
 clear al hz;have HG:=zH K;have aq:=zH (canon2_c gb w1.heap.size p.toNat m.toNat cols (mdOf m mod) (lOf p m mod) rows A c w1 ac.o K zn ao.o b1.o h1 U0 hn);have dm:=g.o.size;have dn:w.heap.size+1<w1.heap.size:=U0;have a0:w1.cell? (zA (w.heap.size+1) 0)=some (Y (cols:Int)):=cell_of_row _ _ 0 _ _ _ g.o.k1;have a1:w1.cell? (zA (w.heap.size+1) 1)=some (zL A rows.length c):=cell_of_row _ _ 1 _ _ _ g.o.k1;clear K ao;have a6:zK (∀(B:Nat)(W:Wo)(x:Nat),GFAt W B gb p.toNat m.toNat (lOf p m mod) (logL (lOf p m mod) (p.toNat^m.toNat))->x<p.toNat^m.toNat->zC 132 (Cm gb x) W (Quiet (Y (((opsT p.toNat m.toNat (lOf p m mod)).neg x:Nat):Int)) W)):=fun B W x hG hx=>neg_c x gb p.toNat m.toNat B _ _ W ac.o.small hG hx
 have ar:zK (∀(W:Wo)(b:LL)(J:OA)(co:Nat),GFAt W W.heap.size gb p.toNat m.toNat (lOf p m mod) (logL (lOf p m mod) (p.toNat^m.toNat))->zR W J (nzs b)->Grid (p.toNat^m.toNat) b.length cols b->b.length<=256->zC 194 #[zP gb,zL J b.length co,Y (cols:Int)] W fun e w'=>(∃(R:Nat)(VA:OA)(ck:Nat),e=.returned (.tuple #[zS R (canonM (opsT p.toNat m.toNat (lOf p m mod)) b cols).length (canonM (opsT p.toNat m.toNat (lOf p m mod)) b cols).length,zL VA (canonM (opsT p.toNat m.toNat (lOf p m mod)) b cols).length ck])/\RowsUp w' W.heap.size (zO R) (nzs (canonM (opsT p.toNat m.toNat (lOf p m mod)) b cols)))/\zB W w'):=fun W b J co hG hA q hn=>
  (canon2_c gb W.heap.size p.toNat m.toNat cols (mdOf m mod) (lOf p m mod) b J co W ac.o hG zn hA q h1 U0 hn).mono fun e w' ⟨⟨R,VA,ck,h1,h2,_⟩,h3⟩=>⟨⟨R,VA,ck,h1,h2⟩,h3⟩
 generalize opsT p.toNat m.toNat (lOf p m mod)=O at *;generalize (elGo O rows cols).piv=piv at *;generalize canonM O rows cols=I at *;generalize bi:kerRows O I piv cols=b at *;have da:=zH bi;clear bi;go_wp2_with fail;go_fit aq.o;rintro e w2 ⟨⟨R,VA,ck,rfl,hru,N⟩,hb2⟩;have af:=zH (g.o.keep hb2);have ce:=zH hru.rowsAt;have a9:=zH N.ints;have aw:=zH ((HG.o.keep hb2).more hb2.size);have dp:=hb2.size;have bm:w.heap.size+1<w2.heap.size:=U0;clear g aq hru N HG a0 a1;have a0:w2.cell? (zA (w.heap.size+1) 0)=some (Y (cols:Int)):=cell_of_row _ _ 0 _ _ _ af.o.k1;have a4:zK (RelKer w2 piv cols b (zL none 0 0) (Y ((0:Nat):Int)) w2):=⟨0,[],U0,rfl,⟨rfl,Nat.zero_le _,World.ownsRow_nil _ _ _ _,fun i L=>by simp[freeC] at L,fun i L=>by simp[freeC] at L⟩,Below.refl _ _⟩;clear hb2;go_wp2;go_loopw [10,37] (fun v10 v37 wr=>RelKer w2 piv cols b v10 v37 wr) (fun _ v37 _=>cols-(intOf v37).toNat);case atStart=>exact a4.o
 case round =>
  obtain⟨t,bs,ht,rfl,ak,hb⟩:=hrel;obtain⟨J,co,rfl,_⟩:=own_slice' ak.out;have C:=zH ak;have h:=zH hb;have r:=hb.size;clear ak hb a4;by_cases D:t<cols
  . (have z : zK (zC 77 #[zL VA I.length ck,Y (t : Int)] wr (Quiet (.bool (decide (t ∈ piv))) wr)) := by have:=contains_c (nz piv) t VA ck wr ((a9.o.keep h.o).more r) (by rw [qaA];have:=a8.o.2;omega);rw [qaA,<- y.o,show decide ((t:Int)∈nz piv)=decide (t∈piv) by simp [mem_nz]] at this;exact this);have c0:=(h.o.cell (p:=(zA (w.heap.size+1) 0)) bm).trans a0;by_cases U:t∈piv
    . rw[decide_eq_true U] at z;(have ab:zK (freeC piv (t+1)=freeC piv t):=by show _=_;rw[freeC_succ,if_pos U,List.append_nil]);clear U;go_wp2_with fail;go_fit z.o;rintro e w3 ⟨rfl,n,rfl⟩;have d:zK (zB wr (wr.drewN n)):=qaB zV n;generalize wr.drewN n=f at *;go_wp2;go_roundw;case rel=>exact⟨t+1,bs,U0,U3,by rw[ab.o];exact C.o.grow d.o,h.o.trans (d.o.mono r)⟩
      case measure=>simp[intOf];omega
    . rw [decide_eq_false U] at z;(have ab:zK ((freeC piv (t+1)).length=(freeC piv t).length+1):=by show _=_;rw [freeC_succ,if_neg U];simp);have a2:=zH (b3.o t D U);(have ct:(freeC piv t).length<b.length:=by rw [a3.o];exact (freeC_at piv cols t D U).1);clear U;go_wp2_with fail;go_fit z.o;rintro e w3 ⟨rfl,n,rfl⟩;have d:zK (zB wr (wr.drewN n)):=qaB zV n;have ad:=zH (C.o.grow d.o);have ap:=zH (h.o.trans (d.o.mono r));have c4:(wr.drewN n).cell? (zA (w.heap.size+1) 0)=some (Y (cols:Int)):=c0;clear d C h z c0;generalize wr.drewN n=f at *;clear r;clear wr;have bn:=ap.o.size;go_upto_region 11 with (refine wpList_make_full f rfl (.tmp 44) (.tmp 44) 23 rfl f.heap.size 3 i0 (Y 0) 1 underlying23 HI.o cj.o cl.o .i64 .i64 cols cols cols rfl rfl rfl rfl bv.o d.o zn ?_;intro w5 T Q);(have ae:zK (Row w5 f.heap.size f.heap.size cols (nz (List.replicate cols 0))):=by have:=Row.of_make T;exact this);(have bw:=zH<|qaL Q);have r0:=ae.o.cell (j:=t) (by rw [qaA,List.length_replicate];exact D);have rf:=ae.o.frozen t;(have ax:zK (RelKi f O I piv cols t (Y ((0:Nat):Int)) (w5.setCell (zA f.heap.size t) (Y 1))):=by refine ⟨0,U0,rfl,?_,bw.o.setCell (p:=(zA f.heap.size t)) zn _⟩;have:=ae.o.set t 1;rw [show (1:Int)=((1:Nat):Int) from rfl,qbC] at this;exact this);(have dj:(I.length:Int)=(piv.length:Int):=by rw [y.o]);(have di:piv.length<=256:=by have:=a8.o.2;omega);have t0:(0:Int)<=(t:Int):=U0;have t1:(t:Int)<(cols:Int):=U0;clear T Q;go_wp2_with fail;generalize w5.setCell (zA f.heap.size t) (Y 1)=W6 at *;clear r0 rf;go_loopw [51] (fun v51 wr=>RelKi f O I piv cols t v51 wr) (fun v51 _=>piv.length-(intOf v51).toNat);case atStart=>exact ax.o
      case round =>
       obtain⟨i,L,rfl,V,hb⟩:=hrel;have HR:=zH V;have h:=zH hb;have r:=hb.size;clear V hb ax;have v:=zH (ap.o.trans (h.o.mono bn));by_cases M:i<piv.length
       . obtain⟨bp,op,rfl,db,cn⟩:=(a9.o.keep v.o).at_ (k:=i) (by rw[qaA];exact M);rw[qaC] at cn;obtain⟨br,ds,Ai,ci,e,dd,ai,an⟩:=(ce.o.keep v.o).at_ (i:=i) (by rw[nzs_len,y.o];exact M);injection e with e;injection e with e1 e2 _;subst e1 e2;rw[Nat.zero_add] at ai;rw[nzs_getD] at ai an;have K:=av.o.row (i:=i) M;rw[qaA,K.1] at ai;obtain⟨bx,ox,rfl,de,cq⟩:=an.at_ (k:=t) (by rw[qaA,K.1];exact D);rw[qaC] at cq;(have bo:(I.getD i []).getD t 0<p.toNat^m.toNat:=by(have:∀(l:LN)(hj:t<l.length),l.getD t 0=l[t]:=fun l hj=>by simp[List.getD,hj]);rw[this _ (by rw[K.1];exact D)];exact K.2 _ (List.getElem_mem _));have N:=cd.o i M;have b8:zK (kerK O I piv cols t (i+1)=(kerK O I piv cols t i).set (piv.getD i 0) (O.neg ((I.getD i []).getD t 0))):=rfl;have b9:=zH (a6.o w2.heap.size wr _ (aw.o.keep v.o) bo);have f0:=HR.o.frozen (piv.getD i 0);have y0:=HR.o.cell (j:=piv.getD i 0) (by rw[qaA,kerK_len];exact N);have dq:(0:Int)<=(i:Int):=U0;have dr:(i:Int)<(piv.length:Int):=U0;have p0:(0:Int)<=((piv.getD i 0:Nat):Int):=U0;have p1:((piv.getD i 0:Nat):Int)<(cols:Int):=U0;clear an K bo;generalize (I.getD i []).getD t 0=x at *;generalize piv.getD i 0=pv at *;go_wp2_with fail;go_fit b9.o;rintro e w7 ⟨rfl,n,rfl⟩;go_wp2;go_roundw;case rel=>refine⟨i+1,U0,U3,?_,(qaB h.o n).setCell (p:=(zA f.heap.size pv)) zn _⟩;rw[b8.o,<- qbC];exact Row.set (w:=wr.drewN n) HR.o pv _
         case measure=>simp[intOf];omega
       . (obtain rfl : i = piv.length:=by omega);(have cf:zK (Row wr f.heap.size f.heap.size cols (nz (b.getD (freeC piv t).length []))):=by show Row _ _ _ _ _;rw[a2.o];exact HR.o);(have cx:(b.getD (freeC piv t).length []).length=cols:=by rw[a2.o,kerK_len]);(have a7:zK ((wr.alloc (.cells #[zS f.heap.size cols cols] 23)).ownsRow w2.heap.size 23 1 (zL J (freeC piv t).length co) (freeC piv t).length ((List.range (freeC piv t).length).map (hdr b bs))):=by have cw:=(ad.o.grow h.o).out;exact World.ownsRow.alloc cw _);have dh:(freeC piv t).length<=t:=freeC_le _ _;have c9:=v.o.size;clear HR;go_wp2_with (at_builtin;refine wpList_append_own_at _ rfl (.tmp 69) (.tmp 71) 30 rfl w2.heap.size 23 c7 _ 1 24 underlying30 b2.o bb.o bc.o bd.o rfl dc (zL J (freeC piv t).length co) (freeC piv t).length ((List.range (freeC piv t).length).map (hdr b bs)) rfl a7.o (zA wr.heap.size 0) 1 1 [zS f.heap.size cols cols] rfl rfl ?c1 ?c2 ?c3 ?c4 ?c5 ?_);case c1=>exact World.news_of_block (cs:=#[zS f.heap.size cols cols]) (t:=23) (fr:=(0,0)) (heap_alloc_new wr _)
         case c2=>intro u hu;simp at hu;subst hu;rfl
         case c3=>unfold maxLen;omega
         case c4=>omega
         case c5=>simp;omega
         intro v' w7 H aj _ be;(have cg:=zH<|ad.o.step ct bn h.o cf.o (by rw[cx];exact H) aj (by simpa using be));(have bz:=zH<|(v.o.alloc U0 _).grown aj so (fun j hj=>(ad.o.out.lt j hj).1));clear H aj be a7;go_wp2;go_roundw;case rel=>exact⟨t+1,_,U0,U3,by rw[ab.o];exact cg.o,bz.o⟩
         case measure=>simp[intOf];omega
  . (obtain rfl:t=cols:=by omega);have bh:=a3.o.symm;(have a5:zK (zR wr J (nzs b)):=by have bf:=C.o;rw[bh] at bf;exact bf.up.rowsAt);have au:=zH (ar.o wr b J co ((aw.o.keep h.o).more r) a5.o b6.o (by rw[<- bh];have:=b0.o;omega));rw[b7.o.symm] at au;have c0:=(h.o.cell (p:=(zA (w.heap.size+1) 0)) bm).trans a0;have ag:=zH (af.o.keep h.o);clear a5 C a0;go_wp2_with fail;go_fit au.o;rintro e w8 ⟨⟨R2,VA2,ck2,rfl,hru2⟩,hb8⟩;have ah:=zH (ag.o.keep hb8);have ay:=zH ah.o.k2;have ba:=zH hru2;have cz:w.heap.size+1+1<wr.heap.size:=ag.o.size;have c8:w8.cell? (zA (w.heap.size+1) 0)=some (Y (t:Int)):=cell_of_row _ _ 0 _ _ _ ah.o.k1;have HY:=zH (ah.o.set (Cp t R2 s.length s.length));clear hb8 hru2 c0 ag af;go_wp2_with (refine wpList_store_row rfl 54 (.tmp 4) (.tmp 85) rfl w8 (w.heap.size+1+1) 54 (Cv) (Cp t R2 s.length s.length) rfl rfl ay.o matSize rfl sc ?_);refine bodyPost_ret (results_row_one (P:=prog) rfl _ _ (w.heap.size+1+1) 54 (Cp t R2 s.length s.length) (0,0) _ _ rfl rfl HY.o.k2 underlying54 rfl matSize) rfl ?_;exact⟨⟨_,_,rfl,(ba.o.setRow cz _).lower U0⟩,HY.o.below⟩
end Go.Proofs.YtkcdlealipfnbaaGreat
namespace Go.Proofs.YtkcdlealipfnbaaGreat
open Go.RowKit Pln
structure BoxC (w:Wo) (f a r:List Value) (W:Wo):Prop where
 below:zB w W
 size:w.heap.size+2<W.heap.size
 k0:W.heap[w.heap.size]?=some (.cells f.toArray 29 (0,0))
 k1:W.heap[w.heap.size+1]?=some (.cells a.toArray 54 (0,0))
 k2:W.heap[w.heap.size+1+1]?=some (.cells r.toArray 32 (0,0))
section
variable {w:Wo} {f a r:List Value} {W W':Wo}
theorem BoxC.keep(h:BoxC w f a r W)(c:zB W W'):BoxC w f a r W':=by have b:=h.size;exact⟨h.below.trans (c.mono U0),Nat.lt_of_lt_of_le b c.size,(c.block _ U0).trans h.k0,(c.block _ U0).trans h.k1,(c.block _ U0).trans h.k2⟩
theorem BoxC.set(h:BoxC w f a r W)(b:List Value):BoxC w f a b (W.setRow (w.heap.size+1+1) b.toArray):=
 ⟨qaR h.below U0 _,by simpa using h.size,(setRow_other W _ _ _ U0).trans h.k0,(setRow_other W _ _ _ U0).trans h.k1,setRow_same W _ _ _ _ h.k2⟩
theorem boxC(w:Wo)(f a r:Array Value):BoxC w f.toList a.toList r.toList (((w.alloc (.cells f 29)).alloc (.cells a 54)).alloc (.cells r 32)):=by
 refine⟨((zV.alloc zn _).alloc U2 _).alloc so _,U2,?_,?_,?_⟩
 . exact(heap_alloc_old _ _ so).trans ((heap_alloc_old _ _ U2).trans (heap_alloc_new _ _))
 . exact(heap_alloc_old _ _ U2).trans (alloc_at U2 _)
 . exact alloc_at U2 _
end
def Num(w:Wo)(B:Nat)(v:Value)(l:LN):Prop:=w.ownsRow B 3 1 v l.length ((nz l).map (Value.int .i64))
section
variable {w w':Wo} {B:Nat} {v:Value} {l:LN}
theorem Num.nil(w:Wo)(B:Nat):Num w B (zL none 0 0) []:=World.ownsRow_nil _ _ _ _
theorem Num.grow(h:Num w B v l)(b:zB w w'):Num w' B v l:=
 World.ownsRow.kept h (row:=none) ⟨b.os,b.tape,b.output,b.size,fun j hj _=>b.block j hj⟩ (by cases v.ownBlock<;>simp)
theorem Num.slice(h:Num w B v l):∃VA ck,v=zL VA l.length ck:=own_slice h
theorem Num.step{c:Wo}{b:Value}{x:Nat}(h:c.ownsRow B 3 1 b (l.length+1) ((nz l).map (Value.int .i64)++[Y (x:Int)])):Num c B b (l++[x]):=by unfold Num;rw[List.length_append,nz,List.map_append,List.map_append];exact h
end
section
variable {P:Program} {S:Wo->Prop} {K:Act->Wo->Prop} {o:Oper} {r:List (Nat × Oper)} {a:Act} {w:Wo}
theorem qcA(j:o.guard=none)(f:TypeId)(x y:Operand)(l:o.op=.store f x y)(b:Nat)(t:TypeId)(c d:Array Value)(n:a.eval x=zP b)(p:a.eval y=.agg d)(i:w.heap[b]?=some (.cells c t (0,0)))(k:(P.info? f).map (·.size)=some d.size)(m:c.size=d.size)(g:d.all (·.oneCell')=true)(h:wpMixF P S K r (a.put o.dst undef) (w.setRow b d)):wpMixF P S K ((3,o):: r) a w:=
 mixf_store j (by
  unfold execOp
  simp only[l,n,p,Instr.storeAt,Instr.sureAddr,Sem.run_bind,Sem.run_pure,Result.andThen_ok,run_storeVar_row w b t f c d i k m g]) h
end
structure BoxK (w:Wo) (a r:List Value) (W:Wo):Prop where
 below:zB w W
 size:w.heap.size+1<W.heap.size
 k0:W.heap[w.heap.size]?=some (.cells a.toArray 32 (0,0))
 k1:W.heap[w.heap.size+1]?=some (.cells r.toArray 32 (0,0))
end Go.Proofs.YtkcdlealipfnbaaGreat
namespace Go.Proofs.YtkcdlealipfnbaaGreat
open Go.RowKit Pln Go.Proofs.Tryz
theorem ft_T:FT 2 1 (mdOf 1 []) lT:=field_ft (p:=2) (m:=1) (mod:=[]) U1
theorem mul_T:mulT lT (logL lT (2^1)) (2^1) 1 1=1:=U1
theorem add_T:addD 2 1 0 1=1:=U1
def mixL(a j:Nat):LN:=List.replicate j a++List.replicate (3-j) 0
theorem mixL_len{a j:Nat}(h:j<=3):(mixL a j).length=3:=by unfold mixL;simp;omega
theorem mixL_at{a j:Nat}(h:j<3):(mixL a j).getD j 0=0:=by
 match j,h with
 |0,_=>rfl
 |1,_=>rfl
 |2,_=>rfl
theorem mixL_set{a j:Nat}(h:j<3):(mixL a j).set j a=mixL a (j+1):=by
 match j,h with
 |0,_=>rfl
 |1,_=>rfl
 |2,_=>rfl
theorem mixL_z{j:Nat}(h:j<3):mixL 0 j=mixL 0 (j+1):=by
 match j,h with
 |0,_=>rfl
 |1,_=>rfl
 |2,_=>rfl
def RelFa(l bo Ba Bc By Bg Bf gb G:Nat)(lb:Array Value)(J:Nat->Wo->Prop)(W:Wo)(v29:Value)(wr:Wo):Prop:=
 ∃a:Nat,a<=2/\v29=Y a/\WkS l bo Ba Bc By Bg Bf gb G lb a wr/\J a wr/\SameBut l bo Ba W wr
def RelFb(wo:Wo)(g c a:Nat)(v40:Value)(wr:Wo):Prop:=
 ∃j:Nat,j<=3/\v40=Y j/\Row wr wo.heap.size g c (nz (mixL a j))/\zB wo wr
theorem from0_c(l bo Ba Bc By Bg Bf gb G Bz:Nat)(J:Nat->Wo->Prop)(hJ:∀ j A B,J j A->Below Bz A B->J j B)(hz:Bz<=Ba)(ah:l<Bz)(ai:bo<Bz)(hY:RndsOk l bo Bz J)(bw cw:Nat)(ag:Far l bo Ba bw)(W:Wo)(hS:WkS l bo Ba Bc By Bg Bf gb G (C5 Bc Ba By Bg Bf) 0 W)(h0:J 0 W)(hA:zI W (zO bw) (nz (List.replicate 3 0))):
 zC 168 #[Y 0,zS bw 3 cw,zP Bc,zP Ba,zP By,zP Bg,zP Bf] W (FromOk l bo Ba Bc By Bg Bf gb G (C5 Bc Ba By Bg Bf) J 2 W):=by
 have O:zK (∀(k:Nat)(bw ow cw:Nat)(W:Wo),k<2->Far l bo Ba bw->WkS l bo Ba Bc By Bg Bf gb G (C5 Bc Ba By Bg Bf) k W->J k W->zI W (some (zA bw ow)) (nz (List.replicate 3 k))->zC 168 (Ce 1 (some (zA bw ow)) 3 cw Bc Ba By Bg Bf) W (FromOk l bo Ba Bc By Bg Bf gb G (C5 Bc Ba By Bg Bf) J (k+1) W)):=
  fun k bw ow cw W hk hf hS h0 hA=>from1_c l bo Ba Bc By Bg Bf gb G Bz _ J hJ hz U0 U0 hY k hk bw ow cw hf W hS h0 hA
 have d:=zH hS;have HJ:=zH hJ;have HA:=zH hA;have HG:=zH hS.gf.at_;have HO:=zH (gorder_e gb W.heap.size 2 1 lT (logL lT (2^1)) W HG.o);have T:W.cell? (zA Bc 4)=some (zS G 1 1):=d.o.code 4 _ rfl;have cg:=d.o.gee.2;have H:zK (RelFa l bo Ba Bc By Bg Bf gb G (C5 Bc Ba By Bg Bf) J W (Y ((0:Nat):Int)) W):=⟨0,U0,rfl,hS,h0,.refl⟩;clear hS hY hJ h0 hA HG;go_enter func168,ntmps168;go_wp2_with fail;refine HO.o.mono ?_;rintro e w' ⟨rfl,rfl⟩;clear HO cg T d;go_wp2;go_loopw [29] (fun v29 wr=>RelFa l bo Ba Bc By Bg Bf gb G (C5 Bc Ba By Bg Bf) J W v29 wr) (fun v29 _=>2-(intOf v29).toNat);case atStart=>exact H.o
 case round =>
  obtain⟨a,ha,rfl,hS,hj,hE⟩:=hrel;have d:=zH hS;have t:=zH hj;have K:=zH hE;clear hS hj hE H;by_cases ab:a<2
  . (have a0 : (0 : Int) <= (a : Int) := by omega);have a1:(a:Int)<2:=U0;have ad:IntKind.i64.wrap ((a:Int)+1)=(a:Int)+1:=IntWalk.i64_in _ U0;(have E:zK ((nz (List.replicate 3 0)).length=3):=by show _=_;rw [qaA,List.length_replicate]);have M:=zH (sclone_c (nz (List.replicate 3 0)) (zO bw) cw wr (K.o.ints ag HA.o) (by rw [qaA,List.length_replicate];omega) (by rw [qaA,List.length_replicate];omega));rw [E.o] at M;go_wp2_with fail;go_fit M.o;rintro e w1 ⟨⟨g,c,rfl,b⟩,hb1⟩;have Z:=b.lt;have ac:=d.o.lt;have P:zK (Far l bo Ba g):=⟨U0,U0,U0⟩;have z:zK (RelFb wr g c a (Y ((0:Nat):Int)) w1):=⟨0,U0,rfl,b,hb1⟩;obtain ⟨_,R,ro,cr,_,x,I⟩:=d.o.gen;have r:=zH I;have T:w1.cell? (zA Bc 4)=some (zS G 1 1):=(d.o.grow hb1).code 4 _ rfl;have cG:=(hb1.cell (p:=(zA G 0)) (World.block_lt_of_cell? wr _ x)).trans x;clear b hb1 x I M;generalize wr=wo at *;go_wp2_with fail;clear T cG;go_loopw [40] (fun v40 wr=>RelFb wo g c a v40 wr) (fun v40 _=>3-(intOf v40).toNat);case atStart=>exact z.o
    case round =>
     obtain⟨j,aa,rfl,b,hb⟩:=hrel;have u:=zH b;have m:=zH hb;clear b hb z;by_cases f:j<3
     . (have j0 : (0 : Int) <= (j : Int) := by omega);have j1:(j:Int)<3:=U0;have ae:IntKind.i64.wrap ((j:Int)+1)=(j:Int)+1:=IntWalk.i64_in _ U0;have cR:=(m.o.cell (p:=(zA R (ro+j))) (World.block_lt_of_cell? wo _ (r.o j f))).trans (r.o j f);by_cases X:a=0
       . subst X;go_wp2;go_roundw;case rel=>exact⟨j+1,U0,U3,by rw[<- mixL_z f];exact u.o,m.o⟩
         case measure=>first|(simp[intOf];done)|(simp[intOf];omega)
       . (have y : zK (a = 1) := by show _ = _;omega);(have af:((a:Int) != 0)=true:=by rw [bne_iff_ne];omega);have s:=zH ((d.o.grow m.o).gf.at_);have cg:=(d.o.grow m.o).gee.2;(have y1:wr.cell? (zA g j)=some (Y ((0:Nat):Int)):=by have:=u.o.cell (j:=j) (by rw [qaA,mixL_len aa];exact f);rw [qaC,mixL_at f] at this;exact this);have f1:=u.o.frozen j;(have HM:zK (∀ V,SDrew wr V->zC 142 (Cf gb a 1) V fun e w'=>e=.returned (Y (a:Int))/\SDrew wr w'):=fun V ⟨n,q⟩=>by subst q;rw [y.o];have h:=mul_c 1 1 gb 2 1 wr.heap.size _ lT (wr.drewN n) ft_T (s.o.keep (qaB (Below.refl wr.heap.size wr) n)) U0 U0;rw [mul_T] at h;refine h.mono ?_;rintro e w' ⟨he,k,rfl⟩;exact ⟨he,n+k,U9⟩);(have L:zK (∀ V,SDrew wr V->zC 143 #[zP gb,Y 0,Y (a:Int)] V fun e w'=>e=.returned (Y (a:Int))/\SDrew wr w'):=fun V ⟨n,q⟩=>by subst q;rw [y.o];have h:=add_c 0 1 gb 2 1 wr.heap.size lT _ (wr.drewN n) ft_T.small (s.o.keep (qaB (Below.refl wr.heap.size wr) n)) U0 U0;rw [add_T] at h;refine h.mono ?_;rintro e w' ⟨he,k,rfl⟩;exact ⟨he,n+k,U9⟩);clear s;go_upto_region 12 with fail;refine qaI 12 (SDrew wr) U1 U1 ⟨1,rfl⟩ ?_;simp only [List.take_succ_cons,List.take_zero,List.drop_succ_cons,List.drop_zero]
         repeat (first
          | (apply qaJ rfl
             . intro V q
               obtain⟨n,rfl⟩:=q
               go_simp
               rfl
             go_simp)
          | (apply qaO rfl
             . intro V q
               go_simp
               exact⟨rfl,rfl⟩
             . intro V q
               first
                |exact HM.o V q
                |exact L.o V q
             go_simp))
         refine qaE ?_;intro w2 U;obtain⟨n,rfl⟩:=U;go_wp2;go_roundw;case rel=>refine⟨j+1,U0,U3,?_,(m.o.trans ((qaB (Below.refl wr.heap.size wr) n).mono m.o.size)).setCell (p:=(zA g j)) Z.1 _⟩;rw[<- mixL_set f,<- qbC];exact Row.set (w:=wr.drewN n) u.o j _
         case measure=>first|(simp[intOf];done)|(simp[intOf];omega)
     . (obtain rfl : j = 3:=by omega);have v:=zH (d.o.grow m.o);have D:=zH (HJ.o a wo wr t.o (m.o.mono (Nat.le_of_lt (Nat.lt_of_le_of_lt hz d.o.lt))));(have C:=zH<|K.o.trans (.of_below m.o));have i:=zH (O.o a g 0 c wr ab P.o v.o D.o (u.o.ints u.o.lt.2));have cf:=v.o.frm.2;clear d t K m u r;go_wp2_with fail;refine i.o.mono ?_;rintro e w3 ⟨rfl,hs3,hj3',he3⟩;have S:=zH hs3;have Q:=zH hj3';(have N:=zH<|C.o.trans he3);clear hs3 hj3' he3 cf i v D C;go_wp2;go_roundw;case rel=>exact⟨a+1,U0,U3,S.o,Q.o,N.o⟩
       case measure=>first|(simp[intOf];done)|(simp[intOf];omega)
  . (obtain rfl:a=2:=by omega);go_wp2;go_ret;exact⟨rfl,d.o,t.o,K.o⟩
end Go.Proofs.YtkcdlealipfnbaaGreat
