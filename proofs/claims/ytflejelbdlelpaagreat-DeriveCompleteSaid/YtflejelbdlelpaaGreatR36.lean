/- Parts of the proof. -/
import Derived.Test.YtflejelbdlelpaaGreatR35
set_option maxRecDepth 100000
set_option maxHeartbeats 8000000
namespace Go.Proofs.YtflejelbdlelpaaGreat
open Go.RowKit Pln Go.Proofs.Tryz
theorem natV_single{w:Wo}{lo:Nat}{v:Value}{N:Nat}(h:NatV w lo v N)(m:0<N)(j:N<BB):∃A c,v=zL A 1 c/\1<=c/\WordsAt w w.heap.size A [N]:=by
 obtain⟨A,l,c,rfl,g,f,d,wl⟩:=h;have b:l.length=1:=by
  have:=cn_len (k:=1) f (by rw[d,Nat.pow_one];exact j);have:l.length≠0:=fun e=>by rw[List.length_eq_zero_iff.1 e] at d;have:val BB []=0:=rfl;omega
  omega
 obtain⟨x,rfl⟩:∃x,l=[x]:=by
  rcases l with _|⟨x,_|⟨y,l⟩⟩
  . simp at b
  . exact⟨x,rfl⟩
  . simp at b
 have i:x=N:=by
  have:val BB [x]=x:=by show x+BB*0=x;omega
  omega
 subst i;exact⟨A,c,rfl,g,wl.words⟩
theorem first_val{q n k:Nat}(b:2<=q):(Al.ch n k*(q-1)^k:Nat)=Al.pp q n k:=by rw[Al.pp_ch,Int.natCast_mul,Int.natCast_pow,show((q-1:Nat):Int)=(q:Int)-1 by omega]
theorem first_lim{q n k:Nat}(p:2<=q)(o:q<=256)(m:n<=64)(l:k<=64):Al.ch n k<LIM/\(q-1)^k<LIM/\Al.ch n k*(q-1)^k<LIM:=by
 have b:=ch_lim (n:=n) (k:=k) m;have c:(q-1)^k<=256^k:=Nat.pow_le_pow_left U0 k;have d:256^k<=256^64:=Nat.pow_le_pow_right dc l;have f:(256:Nat)^64<BB^17:=dc;have g:BB^3<=BB^200:=Nat.pow_le_pow_right dc dc;have h:BB^17<=BB^200:=Nat.pow_le_pow_right dc dc;have i:BB^3*BB^17<=BB^200:=by rw[<- Nat.pow_add];exact Nat.pow_le_pow_right dc dc
 have j:Al.ch n k*(q-1)^k<BB^3*BB^17:=Nat.mul_lt_mul'' b U0;unfold LIM;omega
def RelT1(w:Wo)(q n g c:Nat)(v21:Value)(wr:Wo):Prop:=
 ∃(k:Nat)(Zs:LI),k<=n+1/\v21=Y (k:Int)/\Zs.length=n+1/\(∀j,j<k->Zs.getD j 0=Al.pp q n j)/\IOwn wr w.heap.size (fun _=>True) (zS g (n+1) c) Zs/\zB w wr
theorem sg_pos{s:Bool}{M k:Nat}(h:(k:Int)=sg s M)(b:0<k):s=false/\M=k:=by
 unfold sg at h;cases s
 . simp only[Bool.false_eq_true,if_false] at h;exact⟨rfl,U0⟩
 . simp only[if_true] at h;omega
def RowQ(q n x:Nat):LI:=(List.range (n+1)).map (Al.tb q n x)
theorem qfA(q n x:Nat):(RowQ q n x).length=n+1:=by simp[RowQ]
theorem rowQ_at{q n x k:Nat}(b:k<n+1):(RowQ q n x).getD k 0=Al.tb q n x k:=by simp[RowQ,List.getD,b]
theorem rowQ_eq{q n x:Nat}{i:LI}(l:i.length=n+1)(h:∀j,j<n+1->i.getD j 0=Al.tb q n x j):i=RowQ q n x:=by
 apply List.ext_getElem
 . rw[l,qfA]
 . intro j f g;have e:=h j U0;(have b:i.getD j 0=i[j]:=by simp[List.getD,f]);have c:=rowQ_at (q:=q) (x:=x) (n:=n) (k:=j) U0;(have d:(RowQ q n x).getD j 0=(RowQ q n x)[j]:=by simp[List.getD,g]);rw[<- b,<- d,e,c]
theorem tab_lim{q n x k:Nat}(i:2<=q)(g:q<=256)(h:n<=64)(j:x<=n):(Al.tb q n x k).natAbs<BB^17:=by have b:=Al.tb_le (q:=q) (n:=n) (x:=x) (k:=k) i j;have c:q^n<=256^n:=Nat.pow_le_pow_left g n;have d:256^n<=256^64:=Nat.pow_le_pow_right dc h;have f:(256:Nat)^64<BB^17:=dc;omega
def FacP(w:Wo)(p:Nat->Prop)(b q:Nat):Prop:=∃f,w.heap[b]?=some (.cells #[.bool false,f] 189 (0,0))/\p b/\NatP w p f (q-1)
theorem FacP.of_blocks{w w':Wo}{p:Nat->Prop}{b q:Nat}(h:FacP w p b q)(j:w.heap.size<=w'.heap.size)(i:∀k,p k->k<w.heap.size->w'.heap[k]?=w.heap[k]?):FacP w' p b q:=by obtain⟨f,c,d,g⟩:=h;exact⟨f,(i b d (Array.getElem?_eq_some_iff.1 c).1).trans c,d,g.of_blocks j i⟩
theorem FacP.imp{w:Wo}{p r:Nat->Prop}{b q:Nat}(h:FacP w p b q)(i:∀k,k<w.heap.size->p k->r k):FacP w r b q:=by obtain⟨f,c,d,g⟩:=h;exact⟨f,c,i b (Array.getElem?_eq_some_iff.1 c).1 d,g.imp i⟩
theorem qeZ{w w':Wo}{b o:Nat}{v:Value}{cs:List Value}(h:w.rangeAt b o (v :: cs))(c:zB w w'):w'.rangeAt b o (v :: cs):=fun j u hu=>
 (c.cell (p:=(zA b (o+j))) (World.block_lt_of_cell? w (zA b (o+0)) (h 0 v rfl))).trans (h j u hu)
theorem lim_17:BB^17*3<LIM/\256*BB^17<=BB^18/\BB^18*3<LIM/\BB^17<=BB^18:=by have c:BB^18=BB^17*BB:=Nat.pow_succ BB 17;have d:BB^19=BB^18*BB:=Nat.pow_succ BB 18;have f:BB^19<=BB^200:=Nat.pow_le_pow_right dc dc;have g:0<BB^17:=Nat.pow_pos dc;have b:(256:Nat)<=BB:=dc;have h:BB^17*256<=BB^17*BB:=Nat.mul_le_mul_left _ b;have i:BB^18*256<=BB^18*BB:=Nat.mul_le_mul_left _ b;unfold LIM;omega
theorem tb_next{q n x k:Nat}(b:1<=k):Al.tb q n (x+1) k=Al.tb q n x k-Al.tb q n x (k-1)-((q:Int)-1)*Al.tb q n (x+1) (k-1):=by obtain⟨j,rfl⟩:∃j,k=j+1:=⟨k-1,U0⟩;rfl
def LSq(w V:Wo):Prop:=zB w V
def TabAt(w:Wo)(q n:Nat)(A:OA):Prop:=∃b,A=some (zA b 0)/\b<w.heap.size/\∀x,x<=n->∃A' c,w.cell? (zA b x)=some (zL A' (n+1) c)/\IntsL w (fun _=>True) A' (RowQ q n x)
theorem TabAt.grow{w w':Wo}{q n:Nat}{A:OA}(h:TabAt w q n A)(k:zB w w'):TabAt w' q n A:=by obtain⟨b,e,d,g⟩:=h;refine⟨b,e,Nat.lt_of_lt_of_le d k.size,fun x hx=>?_⟩;obtain⟨f,c,i,j⟩:=g x hx;exact⟨f,c,(k.cell (p:=(zA b x)) d).trans i,j.grow k⟩
def RelT2(w:Wo)(q n bf:Nat)(v11 v54:Value)(wr:Wo):Prop:=
 ∃(x:Nat)(Ls:List LI),x<=n/\v54=Y (x:Int)/\Ls.length=x+1/\(∀i,i<=x->Ls.getD i []=RowQ q n i)/\ROwn wr w.heap.size v11 Ls/\FacP wr (fun b=>v11.ownBlock≠some b) bf q/\zB w wr
def RelT3(wo:Wo)(p:Nat->Prop)(q n x:Nat)(v14 v15:Value)(wr:Wo):Prop:=
 ∃(k:Nat)(Zs:LI),1<=k/\k<=n+1/\v15=Y (k:Int)/\Zs.length=k/\(∀j,j<k->Zs.getD j 0=Al.tb q n (x+1) j)/\IOwn wr wo.heap.size p v14 Zs/\zB wo wr
theorem table_c(q n:Nat)(w:Wo)(hq:2<=q)(fo:q<=256)(hn:n<=64):zC 205 #[Y (q:Int),Y (n:Int)] w fun e w'=>(∃ A c,e=.returned (zL A (n+1) c)/\TabAt w' q n A)/\zB w w':=by
 obtain⟨i0,hi,U,W,X⟩:=qaF infoInteger;have HI:=zH hi;have dn:=zH U;have dp:=zH W;have J:=zH (show i0.bytes*(n+1)<=281474976710656 by rw[X];omega);have cw:=zH (show n+1<=maxLen by unfold maxLen;omega);clear hi U W X;go_enter func205,ntmps205;go_wp2_with (refine wpList_make_full w rfl (.tmp 17) (.tmp 17) 187 rfl w.heap.size 189 i0 (.agg #[.bool false,zL none 0 0]) 2 underlying187 HI.o dn.o dp.o .i64 .i64 (n+1) (n+1) (n+1) rfl rfl U3 U3 J.o cw.o zn ?_;intro w1 an b3);have HR:zK (RelT1 w q n w.heap.size (n+1) (Y 0) w1):=⟨0,_,U0,rfl,U2,fun j hj=>U0,IOwn.of_make an,qaL b3⟩;clear an b3;go_loopw [21] (fun v21 wr=>RelT1 w q n w.heap.size (n+1) v21 wr) (fun v21 _=>n+1-(intOf v21).toNat);case atStart=>exact HR.o
 case round =>
  obtain⟨k,r,H,rfl,m,Z,E,s⟩:=hrel;have HB:=zH s;have HO:=zH E;have HZ:=zH Z;clear E s Z HR;by_cases ag:k<n+1
  . (have d1 : (k : Int) < (n : Int) + 1 := by omega);have K:=zH (binomial_c n k wr hn U0);have aq:=zH (first_lim (q:=q) (n:=n) (k:=k) hq fo hn U0);have cy:=zH (first_val (q:=q) (n:=n) (k:=k) hq);(have ex:IntKind.u64.wrap ((q:Int)-1)=((q-1:Nat):Int):=by rw [IntWalk.u64_in _ U0];omega);go_wp2_with fail;refine K.o.mono ?_;rintro e w2 ⟨vb,rfl,hvb,hb2⟩;obtain ⟨Ab,kb,cb,rfl⟩:=qeS hvb;have bv:=zH hvb;have ai:=zH (HB.o.trans (hb2.mono HB.o.size));have bg:=zH (HO.o.grow hb2);have bm:=zH (natOf_c (q-1) w2 (by unfold BB;omega));clear hvb hb2 K HO;go_wp2_with fail;refine bm.o.mono ?_;rintro e w3 ⟨vq,rfl,hvq,hb3⟩;obtain ⟨Aq,cq,rfl,dt,cl⟩:=natV_single hvq U0 (by unfold BB;omega);have ak:=zH (bv.o.grow hb3);have aj:=zH (ai.o.trans (hb3.mono ai.o.size));have bh:=zH (bg.o.grow hb3);have bp:=zH (natPow_c Aq (q-1) cq k w3 cl dt U0 U0 U0);clear hvq hb3 cl bm bv bg;go_wp2_with fail;refine bp.o.mono ?_;rintro e z ⟨vp,rfl,hvp,hb4⟩;obtain ⟨Ap,kp,cp,rfl⟩:=qeS hvp;have bw:=zH hvp;have al:=zH (ak.o.grow hb4);have ao:=zH (aj.o.trans (hb4.mono aj.o.size));have aw:=zH (bh.o.grow hb4);have bu:=zH (nats_two (w:=z) (al.o.low (Nat.zero_le _)) (bw.o.low (Nat.zero_le _)));have l:zK (zB z (z.alloc (.cells #[zL Ab kb cb,zL Ap kp cp] 138))):=zV.alloc zn _;have bf:=zH (natMul_two (c:=2) bu.o aq.o.1 aq.o.2.1 aq.o.2.2);clear hvp hb4 bp ak bh ex;go_wp2_with fail;refine bf.o.mono ?_;rintro e w5 ⟨vr,rfl,hvr,hb5⟩;obtain ⟨Ar,kr,cr,rfl⟩:=qeS hvr;have dm:=zH hvr;have cx:=zH (ao.o.trans ((l.o.trans (hb5.mono l.o.size)).mono ao.o.size));have bi:=zH (aw.o.grow (l.o.trans (hb5.mono l.o.size)));(have az:zK (w.heap.size<(z.alloc (.cells #[zL Ab kb cb,zL Ap kp cp] 138)).heap.size):=by obtain ⟨xs,h,_⟩:=aw.o;have:=(World.ownsRow.lt h w.heap.size rfl).2;exact Nat.lt_of_lt_of_le this l.o.size);clear hvr hb5 bf bu al bw aw l ao;(have bj:zK (IOwn w5 w.heap.size (fun _=>True) (zS w.heap.size r.length (n+1)) r):=by show IOwn _ _ _ _ _;rw [m];exact bi.o);obtain ⟨g,_,_,u,_,_,_,cj,_⟩:=bj.o.read (j:=k) U0;injection u with u;injection u with u;subst u;have dh:=zH cj;have c4:zK (IntP w5 (fun b=>True/\b≠w.heap.size) false (zL Ar kr cr) (Al.pp q n k)):=⟨_,dm.o.toP fun b s _=>⟨trivial,by have:=az.o;omega⟩,by rw [<- cy.o];rfl⟩;clear cj bi;go_wp2_with (refine wpList_store_mid rfl 189 (.tmp 46) (.tmp 45) rfl w.heap.size (k*2) #[.bool false,zL Ar kr cr] rfl rfl dh.o intSize sc ?_);go_roundw;case rel =>
     refine⟨k+1,r.set k (Al.pp q n k),U0,U3,by rw[List.length_set,m],fun j hj=>?_,?_,?_⟩
     . by_cases e : j = k
       . rw[e];simp[List.getD,show k<r.length by omega]
       . (have:(r.set k (Al.pp q n k)).getD j 0=r.getD j 0:=by simp[List.getD,show k≠j by omega]);rw[this];exact HZ.o j U0
     . have:=bj.o.set (j:=k) U0 c4.o;rw[m] at this;exact this
     . exact(cx.o.setCell (p:=(zA w.heap.size (k*2))) zn _).setCell (p:=(zA w.heap.size (k*2+1))) zn _
    case measure=>simp[intOf];omega
  . (obtain rfl : k = n + 1 := by omega);have cm:r=RowQ q n 0:=rowQ_eq m fun j hj=>HZ.o j hj;(have be:zK (IntsL wr (fun _=>True) (zO w.heap.size) (RowQ q n 0)):=by have h:=HO.o;rw [<- m,cm] at h;exact h.toL (fun _ _ _ _=>trivial) fun _ _ _=>trivial);have ax:=zH (ROwn.lit (c:=n+1) be.o);rw [qfA] at ax;have bb:zK (zB wr (wr.alloc (.cells #[zS w.heap.size (n+1) (n+1)] 187))):=zV.alloc zn _;have fj:(q:Int)-1=((q-1:Nat):Int):=U0;have bt:=zH (small_n (q-1) (wr.alloc (.cells #[zS w.heap.size (n+1) (n+1)] 187)) U0);have l:=zH (HB.o.trans (bb.o.mono HB.o.size));have az:=zH HB.o.size;have ct:zK ((wr.alloc (.cells #[zS w.heap.size (n+1) (n+1)] 187)).heap.size=wr.heap.size+1):=U7;clear m cm HO HZ be HB bb;go_wp2_with fail;refine bt.o.mono ?_;clear bt;generalize wr.alloc (.cells #[zS w.heap.size (n+1) (n+1)] 187)=wa at *;rintro e I ⟨sn,sv,rfl,⟨M,hM,hz⟩,hbs⟩;obtain ⟨As,ks,cs,rfl⟩:=qeS hM;have dr:=sg_pos hz U0;obtain ⟨rfl,rfl⟩:=dr;have br:=zH (ax.o.grow hbs);have J:=zH (l.o.trans (hbs.mono l.o.size));have HM:=zH hM;have bs:=zH hbs.size;clear hz hbs hM ax l;go_wp2_with (refine qaH rfl 189 (.tmp 12) (.tmp 52) rfl I _ #[.bool false,zL As ks cs] rfl rfl intSize rfl sc ?_);have ap:zK (zB I (I.alloc (.cells #[.bool false,zL As ks cs] 189))):=zV.alloc zn _;have N:zK (RelT2 w q n I.heap.size (zS wr.heap.size 1 1) (zN 0) (I.alloc (.cells #[.bool false,zL As ks cs] 189))):=by
     have h1:=ct.o;have h2:=bs.o;refine⟨0,[RowQ q n 0],U0,rfl,rfl,fun i hi=>?_,?_,⟨_,heap_alloc_new _ _,fun e=>?_,?_⟩,J.o.trans (ap.o.mono J.o.size)⟩
     . (obtain rfl:i=0:=by omega);rfl
     . exact(br.o.grow ap.o).low az.o
     . injection e with e;simp only at e;omega
     . refine NatP.of_blocks (HM.o.toP fun b s ag e=>?_) U2 fun k _ H=>heap_alloc_old _ _ H;injection e with e;simp only at e;omega
    clear br J HM bs ap;generalize I.alloc (.cells #[.bool false,zL As ks cs] 189)=wb at *;go_loopw [11,54] (fun v11 v54 wr=>RelT2 w q n I.heap.size v11 v54 wr) (fun _ v54 _=>n-(intOf v54).toNat);case atStart=>exact N.o
    case round =>
     obtain⟨x,Ls,hx,rfl,a7,T,E,hf,s⟩:=hrel;have l:=zH s;have HF:=zH hf;have O:=zH E;have aa:=zH T;obtain⟨A,c,rfl,hc,_⟩:=E.form;clear s hf E T N;by_cases fg:x<n
     . obtain ⟨g,Ao,co,u,d3,a2,yo,af⟩ := O.o.read (j := x) U0;subst u;rw [aa.o x zn] at yo af;have fc:((Ls.length:Nat):Int)-1=(x:Int):=U0;rw [qfA] at yo;have c5:=zH af;obtain ⟨bo,oo,rfl,d6,d5,D⟩:=af (by rw [qfA];omega);obtain ⟨n0,u0,b9,a3⟩:=D 0 (by rw [qfA];omega);obtain ⟨A0,k0,c0,rfl⟩:=a3.slice;have bq:=zH b9;have bd:=zH a3;clear D b9 a3 af;go_wp2_with (refine wpList_load_mid rfl 189 (.tmp 63) rfl bo (oo+0*2) rfl [.bool n0,zL A0 k0 c0] _ bq.o underlying189 rfl intSize ?_);have U:(RowQ q n x).getD 0 0=Al.tb q n (x+1) 0:=rowQ_at U0;(have N:zK (RelT3 wr (fun b=>b≠g) q n x (zS wr.heap.size 1 1) (zN 1) (wr.alloc (.cells #[.bool n0,zL A0 k0 c0] 189))):=by refine ⟨1,[(RowQ q n x).getD 0 0],U0,U0,rfl,rfl,fun j hj=>?_,IOwn.lit bd.o,zV.alloc zn _⟩;obtain rfl:j=0:=U0;exact U);clear bq bd U;generalize wr.alloc (.cells #[.bool n0,zL A0 k0 c0] 189)=wi at *;generalize wr=wo at *;go_loopw [14,15] (fun v14 v15 wr=>RelT3 wo (fun b=>b≠g) q n x v14 v15 wr) (fun _ v15 _=>n+1-(intOf v15).toNat);case atStart=>exact N.o
       case round =>
        obtain⟨k,r,dv,fa,rfl,m,Z,E,s⟩:=hrel;have K:=zH s;have bn:=zH E;have ad:=zH Z;clear Z N;by_cases fe:k<=n
        . (have b7 : (k : Int) <= (n : Int) := by omega);have d9:(k:Int)-1=((k-1:Nat):Int):=U0;obtain ⟨d2,fn,eo,dx,dw,D⟩:=(c5.o.grow s) (by rw [qfA];omega);injection eo with eo;injection eo with eo1 eo2;subst eo1;subst eo2;obtain ⟨na,ua,cd,a4⟩:=D k (by rw [qfA];omega);obtain ⟨nb,ub,ce,a5⟩:=D (k-1) (by rw [qfA];omega);obtain ⟨Aa,ka,ca,rfl⟩:=a4.slice;obtain ⟨Ab,kb,cb,rfl⟩:=a5.slice;rw [rowQ_at U0] at a4 a5;obtain ⟨f,b2,du,a1⟩:=HF.o.of_blocks s.size fun k _ H=>s.block k H;obtain ⟨Af,kf,cf,rfl⟩:=qeS a1.toV;obtain ⟨An,cn,rfl,ds,_⟩:=E.form;obtain ⟨gn,nn,un,u,d4,ff,ci,_,a6⟩:=E.read (j:=k-1) U0;subst u;obtain ⟨Au,ku,cu,rfl⟩:=a6.slice;rw [ad.o (k-1) U0] at a6;have cg:wr.rangeAt I.heap.size 0 [.bool false,zL Af kf cf]:=qeL b2;have db:=zH cd;have dd:=zH ce;have de:=zH cg;have dg:=zH ci;obtain ⟨Ma,bz,a8⟩:=a4;obtain ⟨Mb,b0,a9⟩:=a5;obtain ⟨Mu,b1,ba⟩:=a6;(have la:Ma<BB ^ 17:=by rw [<- qfE na Ma,<- a8];exact tab_lim hq fo hn hx);(have lb:Mb<BB ^ 17:=by rw [<- qfE nb Mb,<- a9];exact tab_lim hq fo hn hx);(have lu:Mu<BB ^ 17:=by rw [<- qfE nn Mu,<- ba];exact tab_lim hq fo hn U0);obtain ⟨L1,L2,L3,L4⟩:=lim_17;have lm:(q-1)*Mu<=BB ^ 18:=Nat.le_trans (Nat.mul_le_mul U0 (Nat.le_of_lt lu)) L2;have c6:=zH bz.toV;have c7:=zH b0.toV;have c9:=zH b1.toV;have c8:=zH a1.toV;have d8:g<wo.heap.size:=a2;have ck:=s.size;clear cd ce cg ci bz b0 b1 b2 du a1 s E D;go_upto_region 18 with fail;have P:zK (LSq wr wr.drew):=zV.drew;refine qaS 20 20 (LSq wr) [(1,0),(1,1),(1,2),(1,3),(0,4),(1,5),(1,6),(1,7),(1,8),(0,9),(0,11),(1,12),(1,13),(1,14),(1,15),(0,16),(2,10),(2,17),(2,18),(2,19)] default U1 U1 (fun _ _ d _ _ h=>by cases d <;> exact h) P.o ?_;have dy:(k:Int)<(n:Int)+1:=U0;have dz:((k-1:Nat):Int)<(n:Int)+1:=U0;have d0:((k-1:Nat):Int)<(k:Int):=U0;have fb:IntKind.i64.wrap ((k-1:Nat):Int)=((k-1:Nat):Int):=IntWalk.i64_in _ U0;simp only [List.map_cons,List.map_nil,List.getD_cons_zero,List.getD_cons_succ]
          iterate 3
           apply qaM rfl
           . intro V
             go_simp
             rfl
           go_simp
          apply qaM rfl
          . intro V;go_simp;rfl
          go_simp;refine qaT rfl 189 (.tmp 74) rfl bo (oo+k*2) rfl [.bool na,zL Aa ka ca] _ (fun V hV=>qeZ db.o hV) underlying189 rfl intSize ?_;go_simp
          iterate 3
           apply qaM rfl
           . intro V
             go_simp
             rfl
           go_simp
          apply qaM rfl
          . intro V;go_simp;rfl
          go_simp;refine qaT rfl 189 (.tmp 79) rfl bo (oo+(k-1)*2) rfl [.bool nb,zL Ab kb cb] _ (fun V hV=>qeZ dd.o hV) underlying189 rfl intSize ?_;go_simp;refine qaT rfl 189 (.tmp 12) rfl I.heap.size 0 rfl [.bool false,zL Af kf cf] _ (fun V hV=>qeZ de.o hV) underlying189 rfl intSize ?_;go_simp
          iterate 3
           apply qaM rfl
           . intro V
             go_simp
             rfl
           go_simp
          apply qaM rfl
          . intro V;go_simp;rfl
          go_simp;refine qaT rfl 189 (.tmp 86) rfl gn ((k-1)*2) rfl [.bool nn,zL Au ku cu] _ (fun V hV=>qeZ dg.o hV) underlying189 rfl intSize ?_;go_simp;have ar:=zH (minusI_c na nb _ _ Ma Mb wr.drew (c6.o.grow P.o) (c7.o.grow P.o) U0);rw[<- a8,<- a9] at ar;apply qbE rfl
          . go_simp;exact⟨rfl,rfl⟩
          go_fit ar.o;rintro e w2 ⟨n1,v1,rfl,⟨M1,hM1,W⟩,hb2⟩;obtain⟨A1,k1,c1,rfl⟩:=qeS hM1;have Q:zK (LSq wr w2):=P.o.trans (hb2.mono P.o.size);have di:=zH (hM1.low (Nat.zero_le _));(have fk:M1<=Ma+Mb:=by have h1:=qfE n1 M1;rw[<- W,a8,a9] at h1;have h2:=qfE na Ma;have h3:=qfE nb Mb;omega);have au:=zH (timesI_c false nn _ _ (q-1) Mu w2 (c8.o.grow Q.o) (c9.o.grow Q.o) U0 U0 U0);rw[<- ba] at au;refine⟨_,rfl,Q.o,?_⟩;clear ar hM1 hb2;go_simp;apply qbE rfl
          . go_simp;exact⟨rfl,rfl⟩
          go_fit au.o;rintro e w3 ⟨n2,v2,rfl,⟨M2,hM2,X⟩,hb3⟩;obtain⟨A2,k2,c2,rfl⟩:=qeS hM2;have ab:zK (LSq wr w3):=Q.o.trans (hb3.mono Q.o.size);have dj:=zH (hM2.low (Nat.zero_le _));(have fm:M2=(q-1)*Mu:=by have h1:=qfE n2 M2;rw[<- X,Int.natAbs_mul,qfE,ba,qfE] at h1;exact h1.symm);have av:=zH (minusI_c n1 n2 _ _ M1 M2 w3 (di.o.grow hb3) dj.o U0);rw[<- W,<- X] at av;refine⟨_,rfl,ab.o,?_⟩;clear au hM2 hb3;go_simp;apply qbE rfl
          . go_simp;exact⟨rfl,rfl⟩
          go_fit av.o;rintro e z ⟨n3,v3,rfl,hv3,hb4⟩;obtain⟨A3,k3,c3,rfl⟩:=qeS hv3.choose_spec.1;have ay:zK (LSq wr z):=ab.o.trans (hb4.mono ab.o.size);refine⟨_,rfl,ay.o,?_⟩;have B:zK (zB z (z.alloc (.cells #[.bool n3,zL A3 k3 c3] 189))):=zV.alloc zn _;have ac:zK (LSq wr (z.alloc (.cells #[.bool n3,zL A3 k3 c3] 189))):=ay.o.trans (B.o.mono ay.o.size);(have bx:IntP (z.alloc (.cells #[.bool n3,zL A3 k3 c3] 189)) (fun b=>b≠g/\(Value.slice (zO gn) r.length cn).ownBlock≠some b) n3 (zL A3 k3 c3) (Al.tb q n (x+1) k):=by rw[tb_next dv];have fi:=ab.o.size;(have e:Al.tb q n x k-Al.tb q n x (k-1)-sg false (q-1)*Al.tb q n (x+1) (k-1)=Al.tb q n x k-Al.tb q n x (k-1)-((q:Int)-1)*Al.tb q n (x+1) (k-1):=by(have:sg false (q-1)=(q:Int)-1:=by unfold sg;simp only[Bool.false_eq_true,if_false];omega);rw[this]);rw[<- e];refine(hv3.toP fun b s ag=>(⟨U0,fun e=>?_⟩:b≠g/\(Value.slice (zO gn) r.length cn).ownBlock≠some b)).of_blocks U2 fun k _ H=>heap_alloc_old _ _ H;injection e with e;simp only at e;omega);obtain⟨vn,w6,y,S,R,ah,ae⟩:=(bn.o.grow (ac.o)).append (b:=z.heap.size) (Nat.le_trans ck ac.o.size) (heap_alloc_new _ _) bx rfl U0;have t:zK ((Builtin.append_ #[187,187] 187 #[zS gn r.length cn,zS z.heap.size 1 1]).run prog (z.alloc (.cells #[.bool n3,zL A3 k3 c3] 189))=.ok vn w6):=y;have cz:=zH S;have bc:=zH (K.o.trans ((ac.o.mono ck).trans R));clear bx y S R ah ae av hv3 hb4 B;go_simp;refine qdM (v:=zS z.heap.size 1 1) (w':=z.alloc (.cells #[.bool n3,zL A3 k3 c3] 189)) rfl ?_ ac.o ?_
          . go_simp
          go_simp;refine qbH ?_;rw[m] at t;go_wp2_with (at_builtin;refine qeU rfl _ (.tmp 90) 187 rfl rfl rfl t.o ?_);go_roundw;case rel=>
           refine⟨k+1,r++[Al.tb q n (x+1) k],U0,U0,U3,by rw[List.length_append,m];rfl,fun j hj=>?_,cz.o,bc.o⟩;by_cases e:j=k
           . rw[e];simp[List.getD,m]
           . (have:(r++[Al.tb q n (x+1) k]).getD j 0=r.getD j 0:=by simp[List.getD,List.getElem?_append_left (show j<r.length by omega)]);rw[this];exact ad.o j U0
          case measure=>simp[intOf];omega
        . (obtain rfl : k = n + 1 := by omega);have b7:¬ ((n+1:Nat):Int)<=(n:Int):=U0;have dq:zK (r=RowQ q n (x+1)):=rowQ_eq m fun j hj=>ad.o j hj;obtain ⟨An,cn,rfl,ds,d7⟩:=E.form
          have hL:=E.toL (q:=fun b=>(Value.slice (zO g) Ls.length c).ownBlock≠some b) (fun b s _ _ e=>by
           injection e with e
           simp only at e
           omega) fun b _ s e=>s (by injection e with e;exact e.symm)
          have B:zK (zB wr (wr.alloc (.cells #[zL An r.length cn] 187))):=zV.alloc zn _;have C:zK (zB wo (wr.alloc (.cells #[zL An r.length cn] 187))):=s.trans (B.o.mono s.size);obtain ⟨vn,w6,y,S,R,ah,ae,b8⟩:=(O.o.grow C.o).append (b:=wr.heap.size) (L:=r) (c:=cn) (A:=An) (by have:=l.o.size;have:=C.o.size;omega) (heap_alloc_new _ _) (hL.grow B.o) U0;have t:=zH y;rw [m,a7] at t;have da:zK (RelT2 w q n I.heap.size vn (Y ((x:Int)+1)) w6):=by
           refine⟨x+1,Ls++[RowQ q n (x+1)],U0,U3,by rw[List.length_append,a7];rfl,fun i hi=>?_,by rw[<- dq.o];exact S,?_,(l.o.trans (C.o.mono l.o.size)).trans R⟩
           . by_cases e : i = x + 1
             . rw[e];simp[List.getD,a7]
             . (have:(Ls++[RowQ q n (x+1)]).getD i []=Ls.getD i []:=by simp[List.getD,List.getElem?_append_left (show i<Ls.length by omega)]);rw[this];exact aa.o i U0
           . have h1:=HF.o.of_blocks C.o.size fun k _ H=>C.o.block k H;have h2:FacP w6 (fun b=>(Value.slice (zO g) Ls.length c).ownBlock≠some b/\b<(wr.alloc (.cells #[zL An r.length cn] 187)).heap.size) I.heap.size q:=(h1.imp fun k H hp=>⟨hp,H⟩).of_blocks ah fun k H ag=>ae k ag H.1;refine h2.imp fun k _ hp e=>?_;rcases b8 with h|h
             . exact hp.1 (by rw[h];exact e)
             . rw[h] at e;injection e with e;have:=hp.2;omega
          clear y S R ah ae b8 hL K bn ad O HF aa l B C;go_wp2_with (at_builtin;refine qeU rfl _ (.tmp 94) 222 rfl rfl rfl t.o ?_);go_roundw;case rel=>exact da.o
          case measure=>simp[intOf];omega
     . (obtain rfl:x=n:=by omega);have fh:¬(x:Int)<(x:Int):=U0;go_wp2;go_ret;refine⟨⟨A,⟨c,rfl⟩,?_⟩,l.o⟩;obtain⟨g,A',c',u,_,a2,_,_⟩:=O.o.read (j:=0) U0;subst u;refine⟨g,rfl,a2,fun i hi=>?_⟩;obtain⟨g',A',c',u,_,_,a0,b6⟩:=O.o.read (j:=i) U0;injection u with u;injection u with u;subst u;rw[aa.o i hi] at a0 b6;rw[qfA] at a0;exact⟨A',c',a0,b6.imp fun _ _ _=>trivial⟩
def trO(q n:Nat)(As:LI)(j i:Nat):Int:=Al.zs i fun x=>As.getD x 0*Al.tb q n x j
theorem intP_zero{w:Wo}{p:Nat->Prop}{n:Bool}{A:OA}{c:Nat}{Z:Int}(h:IntP w p n (zL A 0 c) Z):Z=0:=by obtain⟨N,⟨f,l,g,e,_,_,b,_⟩,d⟩:=h;injection e with _ e _;rw[List.length_eq_zero_iff.1 e.symm] at b;rw[d,<- b];unfold sg;split<;>rfl
def RelQs1(w1:Wo)(q n c:Nat)(As:LI)(v20:Value)(wr:Wo):Prop:=
 ∃(j:Nat)(Zs:LI),j<=n+1/\v20=Y (j:Int)/\Zs.length=n+1/\(∀l,l<j->Zs.getD l 0=trO q n As l (n+1))/\(∀l,j<=l->Zs.getD l 0=0)/\IOwn wr w1.heap.size (fun _=>True) (zS w1.heap.size (n+1) c) Zs/\zB w1 wr
def RelQs2(w1:Wo)(q n c j:Nat)(As:LI)(v25:Value)(wr:Wo):Prop:=
 ∃(i:Nat)(Zs:LI),i<=n+1/\v25=Y (i:Int)/\Zs.length=n+1/\(∀l,l<j->Zs.getD l 0=trO q n As l (n+1))/\(∀l,j+1<=l->Zs.getD l 0=0)/\Zs.getD j 0=trO q n As j i/\IOwn wr w1.heap.size (fun _=>True) (zS w1.heap.size (n+1) c) Zs/\zB w1 wr
theorem trO_lim{q n:Nat}{As:LI}(o:2<=q)(h:q<=256)(m:n<=64)(l:∀ x,(As.getD x 0).natAbs<=BB)(j:Nat):∀ i,i<=n+1->(trO q n As j i).natAbs<=i*BB ^ 18
 |0,_=>by
   rw[Nat.zero_mul]
   exact Nat.le_refl 0
 |i + 1,hi=>by
   have ih:=trO_lim o h m l j i U0
   have b:=tab_lim (k:=j) o h m (show i<=n by omega)
   have c:=l i
   show(trO q n As j i+As.getD i 0*Al.tb q n i j).natAbs<=_
   have d:=Int.natAbs_add_le (trO q n As j i) (As.getD i 0*Al.tb q n i j)
   rw[Int.natAbs_mul] at d
   have f:(As.getD i 0).natAbs*(Al.tb q n i j).natAbs<=BB*BB^17:=Nat.mul_le_mul c (Nat.le_of_lt b)
   have g:BB^18=BB^17*BB:=Nat.pow_succ BB 17
   rw[Nat.add_mul,Nat.one_mul]
   rw[Nat.mul_comm BB] at f
   omega
theorem lim_18:70*BB^18<LIM/\BB*BB^17=BB^18/\BB<LIM/\BB^17<LIM:=by have c:BB^18=BB^17*BB:=Nat.pow_succ BB 17;have h:BB^19=BB^18*BB:=Nat.pow_succ BB 18;have i:BB^19<BB^200:=Nat.pow_lt_pow_right dc dc;have d:(70:Nat)<=BB:=dc;have f:BB^18*70<=BB^18*BB:=Nat.mul_le_mul_left _ d;have b:BB^1<BB^200:=Nat.pow_lt_pow_right dc dc;have g:BB^17<BB^200:=Nat.pow_lt_pow_right dc dc;unfold LIM;rw[Nat.pow_one] at b;rw[Nat.mul_comm] at f;exact⟨U0,by rw[c,Nat.mul_comm],b,g⟩
theorem sums_c(q n:Nat)(A:OA)(c:Nat)(As:LI)(w:Wo)(hq:2<=q)(cg:q<=256)(hn:n<=64)(hl:As.length=n+1)(hA:IntsL w (fun _=>True) A As)(cf:∀ x,(As.getD x 0).natAbs<=BB):
 zC 163 #[Y (q:Int),zL A (n+1) c] w fun e w'=>(∃Ao co,e=.returned (zL Ao (n+1) co)/\IntsL w' (fun _=>True) Ao ((List.range (n+1)).map fun j=>trO q n As j (n+1)))/\zB w w':=by
 obtain⟨i0,hi,a9,f,m⟩:=qaF infoInteger;have HI:=zH hi;have ac:=zH a9;have bp:=zH f;have be:=zH (show i0.bytes*(n+1)<=281474976710656 by rw[m];omega);have bf:=zH (show n+1<=maxLen by unfold maxLen;omega);have HA:=zH hA;have ap:=zH cf;have HL:=zH hl;have aw:=zH (table_c q n w hq cg hn);clear hi a9 f m hA cf hl;go_enter func163,ntmps163;go_wp2_with fail;refine aw.o.mono ?_;rintro e r ⟨⟨At,ct,rfl,ht⟩,hb1⟩;have HT:=zH ht;have ai:=zH hb1;have bd:=zH (HA.o.grow hb1);clear ht hb1 aw HA;go_wp2_with (refine wpList_make_full r rfl (.tmp 16) (.tmp 16) 187 rfl r.heap.size 189 i0 (.agg #[.bool false,zL none 0 0]) 2 underlying187 HI.o ac.o bp.o .i64 .i64 (n+1) (n+1) (n+1) rfl rfl U3 U3 be.o bf.o zn ?_;intro w2 Q a3);have HR:zK (RelQs1 r q n (n+1) As (Y 0) w2):=⟨0,List.replicate (n+1) 0,U0,rfl,U2,fun l h=>U0,fun l _=>by simp[List.getD,List.getElem?_replicate];split<;>rfl,IOwn.of_make Q,qaL a3⟩;clear Q a3;go_loopw [20] (fun v20 wr=>RelQs1 r q n (n+1) As v20 wr) (fun v20 _=>n+1-(intOf v20).toNat);case atStart=>exact HR.o
 case round =>
  obtain⟨j,s,hj,rfl,g,f,m,P,H⟩:=hrel;by_cases b8:j<n+1
  . (have bx : (j : Int) < (n : Int) + 1 := by omega);have X:zK (RelQs2 r q n (n+1) j As (Y 0) wr):=⟨0,s,U0,rfl,g,f,fun l hl=>m l U0,by rw [m j zn];rfl,P,H⟩;clear g f m P H HR;go_wp2_with fail;generalize wr=wo at *;go_loopw [25] (fun v25 wr=>RelQs2 r q n (n+1) j As v25 wr) (fun v25 _=>n+1-(intOf v25).toNat);case atStart=>exact X.o
    case round =>
     obtain⟨i,s,hi,rfl,g,f,m,M,P,H⟩:=hrel;by_cases b3:i<n+1
     . (have bw : (i : Int) < (n : Int) + 1 := by omega);obtain ⟨ba,oa,rfl,_,bv,C⟩:=(bd.o.grow H) (by rw [HL.o];omega);obtain ⟨E,ua,a5,ad⟩:=C i (by rw [HL.o];omega);obtain ⟨J,I,ca,rfl⟩:=ad.slice;have aa:=zH a5;have HO:=zH P;have HB:=zH H;have N:=zH f;have O:=zH m;have ay:=zH M;have S:=zH ad;clear a5 P H f m M ad C X;have v:zK (zB wr (wr.alloc (.cells #[.bool E,zL J I ca] 189))):=zV.alloc zn _;have ao:zK ((wr.alloc (.cells #[.bool E,zL J I ca] 189)).heap[wr.heap.size]?=some (.cells [.bool E,zL J I ca].toArray 189 (0,0))):=heap_alloc_new _ _;have W:=zH (HO.o.grow v.o);have K:=zH (HB.o.trans (v.o.mono HB.o.size));by_cases bu:I=0
       . subst bu;have ac:=zH (intP_zero S.o);go_wp2_with (refine wpList_load_mid rfl 189 (.tmp 28) rfl ba (oa+i*2) rfl [.bool E,zL J 0 ca] _ aa.o underlying189 rfl intSize ?_);go_roundw;case rel=>refine⟨i+1,s,U0,U3,g,N.o,O.o,?_,W.o,K.o⟩;show _=trO q n As j i+As.getD i 0*Al.tb q n i j;rw[ac.o,Int.zero_mul,Int.add_zero,ay.o]
         case measure=>simp[intOf];omega
       . (have b7 : (0 : Int) < (I : Int) := by omega);have an:=zH (S.o.of_blocks v.o.size fun k _ hk=>v.o.block k hk);go_wp2_with (refine wpList_load_mid rfl 189 (.tmp 28) rfl ba (oa+i*2) rfl [.bool E,zL J I ca] _ aa.o underlying189 rfl intSize ?_);have av:zK ((wr.alloc (.cells #[.bool E,zL J I ca] 189)).rangeAt wr.heap.size 0 [.bool E,zL J I ca]):=qeL ao.o;obtain ⟨bt,rfl,bq,D⟩:=HT.o.grow K.o;obtain ⟨Ar,cr,a2,a4⟩:=D i U0;obtain ⟨br,bc,rfl,_,bz,C⟩:=a4 (by rw [qfA];omega);obtain ⟨nk,uk,a6,ae⟩:=C j (by rw [qfA];omega);rw [rowQ_at U0] at ae;obtain ⟨Ak,kk,ck,rfl⟩:=ae.slice;have t:=W.o;rw [<- g] at t;obtain ⟨go,no,uo,e0,bs,b1,a7,_,af⟩:=t.read (j:=j) U0;injection e0 with e0;injection e0 with e0;subst e0;obtain ⟨Ao,ko,co,rfl⟩:=af.slice;rw [ay.o] at af;have au:=zH a7;have ar:=zH a6;have ak:=zH a2;obtain ⟨Ma,az,ag⟩:=an.o;obtain ⟨Mk,a0,ah⟩:=ae;obtain ⟨Mo,a1,bb⟩:=af;have bh:=zH az.toV;have bi:=zH a0.toV;have bj:=zH a1.toV;(have la:Ma<=BB:=by rw [<- qfE E Ma,<- ag];exact ap.o i);(have lk:Mk<BB ^ 17:=by rw [<- qfE nk Mk,<- ah];exact tab_lim hq cg hn U0);(have lo:Mo<=i*BB ^ 18:=by rw [<- qfE no Mo,<- bb];exact trO_lim hq cg hn ap.o j i U0);have bg:zK (Mo<=66*BB ^ 18):=Nat.le_trans lo (Nat.mul_le_mul_right _ U0);clear ao an D a4 C t a7 a6 a2 az a0 a1 aa S;generalize wr.alloc (.cells #[.bool E,zL J I ca] 189)=wx at *;have z:zK (LSq wx wx.drew):=zV.drew;have al:zK (∀ V,LSq wx V->V.cell? (zA bt i)=some (zL (some (zA br bc)) (n+1) cr)):=fun V L=>(Below.cell (p:=(zA bt i)) L bq).trans ak.o;refine qaS 16 16 (LSq wx) [(1,0),(1,1),(1,2),(1,3),(1,4),(0,5),(0,6),(1,7),(1,8),(1,9),(0,10),(1,11),(1,12),(0,13),(2,14),(2,15)] default U1 U1 (fun _ _ d _ _ h=>by cases d <;> exact h) z.o ?_;have b6:(j:Int)<(n:Int)+1:=U0;have b2:(i:Int)<(n:Int)+1:=U0;simp only [List.map_cons,List.map_nil,List.getD_cons_zero,List.getD_cons_succ]
         iterate 5
          apply qaM rfl
          . intro V
            go_simp
            rfl
          go_simp
         refine qaT rfl 189 (.tmp 38) rfl r.heap.size (j*2) rfl [.bool no,zL Ao ko co] _ (fun V L=>qeZ au.o L) underlying189 rfl intSize ?_;go_simp;refine qaT rfl 189 (.tmp 9) rfl wr.heap.size 0 rfl [.bool E,zL J I ca] _ (fun V L=>qeZ av.o L) underlying189 rfl intSize ?_;go_simp
         iterate 3
          apply qaM rfl
          . intro V
            go_simp
            rfl
          go_simp
         apply qbF rfl
         . intro V L;have y:=al.o V L;go_simp;rfl
         go_simp
         iterate 2
          apply qaM rfl
          . intro V
            go_simp
            rfl
          go_simp
         refine qaT rfl 189 (.tmp 46) rfl br (bc+j*2) rfl [.bool nk,zL Ak kk ck] _ (fun V L=>qeZ ar.o L) underlying189 rfl intSize ?_;go_simp;obtain⟨L1,L2,L3,L4⟩:=lim_18;have ce:=bg.o;(have lp:Ma*Mk<=BB^18:=by rw[<- L2];exact Nat.mul_le_mul la (Nat.le_of_lt lk));have T:=zH (timesI_c E nk _ _ Ma Mk wx.drew (bh.o.grow z.o) (bi.o.grow z.o) U0 U0 U0);rw[<- ag,<- ah] at T;apply qbE rfl
         . go_simp;exact⟨rfl,rfl⟩
         go_fit T.o;rintro e w2 ⟨n1,v1,rfl,⟨M1,hM1,f⟩,hb2⟩;obtain⟨A1,k1,c1,rfl⟩:=qeS hM1;have B:zK (LSq wx w2):=z.o.trans (hb2.mono z.o.size);have ax:=zH (hM1.low (Nat.zero_le _));(have cd:M1=Ma*Mk:=by have h1:=qfE n1 M1;rw[<- f,Int.natAbs_mul,ag,ah,qfE,qfE] at h1;exact h1.symm);have U:=zH (plusI_c no n1 _ _ Mo M1 w2 (bj.o.grow B.o) ax.o U0);rw[<- bb,<- f] at U;refine⟨_,rfl,B.o,?_⟩;clear T hM1 hb2;go_simp;apply qbE rfl
         . go_simp;exact⟨rfl,rfl⟩
         go_fit U.o;rintro e w3 ⟨n2,v2,rfl,hv2,hb3⟩;obtain⟨A2,k2,c2,rfl⟩:=qeS hv2.choose_spec.1;have ab:zK (LSq wx w3):=B.o.trans (hb3.mono B.o.size);have bo:=zH hv2;refine⟨_,rfl,ab.o,?_⟩;have b9:=B.o.size;clear U hv2 hb3 ax al ar ak av au;go_simp;refine qbH ?_;(have aq:zK (IOwn w3 r.heap.size (fun _=>True) (zS r.heap.size s.length (n+1)) s):=by show IOwn _ _ _ _ _;rw[g];exact(HO.o.grow v.o).grow ab.o);obtain⟨g3,_,_,e3,_,b0,_,a8,_⟩:=aq.o.read (j:=j) U0;injection e3 with e3;injection e3 with e3;subst e3;have bn:=zH a8;have aj:zK (zB r w3):=K.o.trans (Below.mono ab.o K.o.size);clear a8;go_wp2_with (refine wpList_store_mid rfl 189 (.tmp 50) (.tmp 49) rfl r.heap.size (j*2) #[.bool n2,zL A2 k2 c2] rfl rfl bn.o intSize sc ?_);go_roundw;case rel=>
          (have bs:r.heap.size<w2.heap.size:=by obtain⟨xs,h,_⟩:=W.o;have:=(World.ownsRow.lt h r.heap.size rfl).2;omega)
          have R:=aq.o.set (j:=j) (Z:=trO q n As j (i+1)) (n:=n2) (u:=zL A2 k2 c2) U0 (by
           refine IntV.toP (lo:=w2.heap.size) ?_ fun b H _=>⟨trivial,U0⟩
           show IntV _ _ _ _ (trO q n As j i+As.getD i 0*Al.tb q n i j)
           exact bo.o)
          rw[g] at R;refine⟨i+1,s.set j (trO q n As j (i+1)),U0,U3,by rw[List.length_set,g],fun l hl=>?_,fun l hl=>?_,?_,R,(aj.o.setCell (p:=(zA r.heap.size (j*2))) zn _).setCell (p:=(zA r.heap.size (j*2+1))) zn _⟩
          . (have:(s.set j (trO q n As j (i+1))).getD l 0=s.getD l 0:=by simp[List.getD,show j≠l by omega]);rw[this];exact N.o l hl
          . (have:(s.set j (trO q n As j (i+1))).getD l 0=s.getD l 0:=by simp[List.getD,show j≠l by omega]);rw[this];exact O.o l hl
          . simp[List.getD,show j<s.length by omega]
         case measure=>simp[intOf];omega
     . (obtain rfl : i = n + 1 := by omega)
       have bm:zK (RelQs1 r q n (n+1) As (Y ((j:Int)+1)) wr):=⟨j+1,s,U0,U3,g,fun l hl=>by
        by_cases e:l=j
        . rw[e,M]
        . exact f l U0,m,P,H⟩
       clear g f m M P H X;go_wp2;go_roundw;case rel=>exact bm.o
       case measure=>simp[intOf];omega
  . (obtain rfl : j = n + 1 := by omega);go_wp2;go_ret;have e:s=(List.range (n+1)).map fun j=>trO q n As j (n+1):=by
     apply List.ext_getElem
     . simp[g]
     . intro l h1 h2;have h3:=f l U0;(have h4:s.getD l 0=s[l]:=by simp[List.getD,h1]);rw[<- h4,h3];simp
    have t:=P;rw[<- g] at t;refine⟨⟨_,_,rfl,?_⟩,ai.o.trans (H.mono ai.o.size)⟩;rw[<- e];exact t.toL (fun _ _ _ _=>trivial) fun _ _ _=>trivial
end Go.Proofs.YtflejelbdlelpaaGreat
