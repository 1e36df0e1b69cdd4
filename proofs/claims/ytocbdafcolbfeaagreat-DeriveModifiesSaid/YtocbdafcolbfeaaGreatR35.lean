/- Parts of the proof. -/
import Derived.Test.YtocbdafcolbfeaaGreatR33
set_option maxRecDepth 100000
set_option maxHeartbeats 8000000
namespace Go.Proofs.YtocbdafcolbfeaaGreat
open Go.RowKit Pln Go.Proofs.Tryz
def StM(w:Wo)(B:Nat)(ps ss:LI)(cs:List Value):Prop:=
 ∃(Ap As:OA)(cp cs':Nat),cs[19]?=some (zL Ap ps.length cp)/\cs[20]?=some (zL As ss.length cs')/\IntsAt w B Ap ps/\IntsAt w B As ss/\ps.length<=cp
def lowX(p:StD):Int:=if Int.tmod p.low 2=1/\p.p=2/\p.m=1 then p.low+1 else p.low
def CPost(w:Wo)(s:StD)(G:Prop)(e:Ending)(w':Wo):Prop:=
 zB w w'/\((∃z:Int,z≠0/\e=.returned (.tuple #[Da,Y z]))\/
  ∃(p' m':Int)(mod':LI)(A':OA)(c':Nat)(N':Int)(R':OA)(out:List LI)(k':Nat),e=.returned (.tuple #[C8 p' m' A' mod'.length c' N' R' out.length k',Y 0])/\IntsUp w' w.heap.size A' mod'/\RowsUp w' w.heap.size R' out/\(s.p=p'/\s.m=m'/\s.mod=mod'/\s.n=N'/\s.gen=out->G))
def OneR(w:Wo)(cs cp:List Value)(s:StD)(G:Prop)(low:Int)(v6 v7:Value)(W:Wo):Prop :=
 (∃z : Int,z ≠ 0/\v6 = Y z/\BXT w [(cs,40),(cp,40),((Cd),32)] W)\/
   ∃(p' m':Int)(mod':LI)(A':OA)(c':Nat)(N':Int)(R':OA)(out:List LI)(k':Nat),v6=Y 0/\v7=Y low/\(s.p=p'/\s.m=m'/\s.mod=mod'/\s.n=N'/\s.gen=out->G)/\BXT w [(cs,40),(cp,40),((C2 p' m' A' mod'.length c' N' R' out.length k'),32)] W/\zI W A' mod'/\zR W R' out
theorem conC{w:Wo}{s:StD}{p m:Int}{mod:LI}{N:Nat}{F:Prop}{Q:LN->Prop}{e:Ending}{w':Wo}(h:ConPost w p m mod N F Q e w'):CPost w s (MadeC s p m mod N F Q) e w':=by
 obtain⟨b,h|⟨rows,c,R,d,k,f,g,i,j,l,n,o⟩⟩:=h
 . exact⟨b,.inl h⟩
 . exact⟨b,.inr ⟨p,m,mod,c,d,N,R,_,k,by rw[f,nzs_len],g,i,fun⟨g1,g2,g3,g4,g5⟩=>⟨rows,g1,g2,g3,g4,g5,j,l,n,o⟩⟩⟩
theorem con_arm{w wc w1:Wo}{cs cp:List Value}{s:StD}{G:Prop}{e:Ending}(B:BXT w [(cs,40),(cp,40),((Cd),32)] wc)(h:CPost wc s G e w1):
 ∃(c0 c1 c2 c3 c4:Value)(z:Int),e=.returned (.tuple #[.agg #[c0,c1,c2,c3,c4],Y z])/\(#[c0,c1,c2,c3,c4]).all (·.oneCell')=true/\w1.heap[w.heap.size+1+1]?=some (Ca)/\BXT w [(cs,40),(cp,40),([c0,c1,c2,c3,c4],32)] (w1.setRow (w.heap.size+1+1) #[c0,c1,c2,c3,c4])/\
  ∀low:Int,OneR w cs cp s G low (Y z) (Y low) (w1.setRow (w.heap.size+1+1) #[c0,c1,c2,c3,c4]):=by
 obtain⟨t,h⟩:=h;have n:=B.grow t;have r:=n.box 2 _ _ rfl;have A:w.heap.size+3<=wc.heap.size:=B.size;rcases h with⟨z,u,rfl⟩|⟨q,p,c,i,m,k,l,f,o,rfl,v,x,y⟩
 . have g:=n.set 2 rfl (Cd);exact⟨_,_,_,_,_,z,rfl,U3,r,g,fun low=>.inl ⟨z,u,rfl,g⟩⟩
 . have g:=n.set 2 rfl (C2 q p i c.length m k l f.length o);have d:∀b,b≠w.heap.size+1+1->(w1.setRow (w.heap.size+1+1) (Cc q p i c.length m k l f.length o)).heap[b]?=w1.heap[b]?:=fun b hne=>setRow_other _ _ _ _ hne;exact⟨_,_,_,_,_,0,rfl,U3,r,g,fun low=>.inr ⟨q,p,c,i,m,k,l,f,o,rfl,rfl,y,g,qcD (v.of_blocks U2 fun j hj _=>d j U0),RowsUp.rowsAt (x.of_blocks U2 fun j hj _=>d j U0)⟩⟩
def OneArm(k:Int)(s p:StD)(cs:List Value)(w:Wo)(low:Int)(G:Prop):Prop:=
 (k=4/\low=p.low-(s.at_.length:Int)/\∀(W:Wo)(B:OA)(c:Nat)(B1:OA)(c1:Nat)(A:OA)(a:Nat),zB w W->zI W B p.mod->zR W B1 p.gen->zI W A s.at_->zC 59 #[C8 p.p p.m B p.mod.length c p.n B1 p.gen.length c1,zL A s.at_.length a] W (CPost W s G))\/
 (k=5/\low=p.low/\∀(W:Wo)(B:OA)(c:Nat)(B1:OA)(c1:Nat)(A:OA)(a:Nat),zB w W->zI W B p.mod->zR W B1 p.gen->zI W A s.at_->zC 60 #[C8 p.p p.m B p.mod.length c p.n B1 p.gen.length c1,zL A s.at_.length a] W (CPost W s G))\/
 (k=7/\low=lowX p/\∀(W:Wo)(B:OA)(c:Nat)(B1:OA)(c1:Nat),zB w W->zI W B p.mod->zR W B1 p.gen->zC 62 #[C8 p.p p.m B p.mod.length c p.n B1 p.gen.length c1] W (CPost W s G))\/
 (k=12/\low=p.low/\∀(W:Wo)(B:OA)(c:Nat)(B1:OA)(c1:Nat)(A:OA)(a:Nat),zB w W->zI W B p.mod->zR W B1 p.gen->zI W A s.mod->zC 63 #[C8 p.p p.m B p.mod.length c p.n B1 p.gen.length c1,C7 s.p s.m A s.mod.length a] W (CPost W s G))\/
 (k=13/\low=p.low/\∃ps ss,StM w w.heap.size ps ss cs/\∀(W:Wo)(B:OA)(c:Nat)(B1:OA)(c1:Nat)(Ap As:OA)(cp cs':Nat),zB w W->zI W B p.mod->zR W B1 p.gen->zI W Ap ps->zI W As ss->ps.length<=cp->zC 64 #[C8 p.p p.m B p.mod.length c p.n B1 p.gen.length c1,.agg #[zL Ap ps.length cp,zL As ss.length cs',Y s.frob]] W (CPost W s G))\/
 (k=18/\low=p.low/\∃a0,s.at_=[a0]/\∀(W:Wo)(B:OA)(c:Nat)(B1:OA)(c1:Nat),zB w W->zI W B p.mod->zR W B1 p.gen->zC 66 #[C8 p.p p.m B p.mod.length c p.n B1 p.gen.length c1,Y a0] W (CPost W s G))
theorem one_m(s p:StD)(cs cp:List Value)(w:Wo)(k:Int)(hs:StC w w.heap.size s cs)(hp:StC w w.heap.size p cp)(ks:s.ok)(fs:formZ s=0)(fp:formZ p=0)(hk:s.rule=k)(low:Int)(G:Prop)(bp:OneArm k s p cs w low G):
 zC 29 #[.agg cs.toArray,.agg cp.toArray] w (ItPost w (G/\s.low<=low)):=by
 obtain⟨A0,A1,A2,A3,A4,A5,A6,A7,A8,A9,u,E,Q,q,R,S,T,U,V,X,rfl,_,H,I,_,J,_⟩:=hs;obtain⟨M,N,B2,B3,B4,B5,B6,B7,B8,B9,f,g,Z,aa,ab,ac,ad,ae,af,ag,rfl,_,j1,j2,_⟩:=hp;have hS:=form_is fs;have hP:=form_is fp;have ak:zK (BXT w [(stCells s A0 A1 A2 A3 A4 A5 A6 A7 A8 A9 u E Q q R S T U V X,40),(stCells p M N B2 B3 B4 B5 B6 B7 B8 B9 f g Z aa ab ac ad ae af ag,40)] _):=((BXT.nil w).push rfl (stCells s A0 A1 A2 A3 A4 A5 A6 A7 A8 A9 u E Q q R S T U V X) 40).push U2 (stCells p M N B2 B3 B4 B5 B6 B7 B8 B9 f g Z aa ab ac ad ae af ag) 40;have ax:zK (((w.alloc (.cells (stCells s A0 A1 A2 A3 A4 A5 A6 A7 A8 A9 u E Q q R S T U V X).toArray 40)).alloc (.cells (stCells p M N B2 B3 B4 B5 B6 B7 B8 B9 f g Z aa ab ac ad ae af ag).toArray 40)).heap.size=w.heap.size+2):=U8
 have aj:zK (∀(W:Wo)(p' m':Int)(t:LI)(A':OA)(c':Nat)(N':Int)(ys:List LI)(G':OA)(g':Nat),zB w W->zI W A' t->zR W G' ys->zC 32 #[C8 s.p s.m A0 s.mod.length u s.n A1 s.gen.length E,C8 p' m' A' t.length c' N' G' ys.length g'] W fun e w'=>∃b,e=.returned (.bool b)/\zB W w'/\(b=true->s.p=p'/\s.m=m'/\s.mod=t/\s.n=N'/\s.gen=ys)):=fun W p' m' t A' c' N' ys G' g' D hA' hG'=>
  dsame_c s.p s.m p' m' s.mod t A0 A' u c' s.n N' s.gen ys A1 G' E g' W ((H.keep D).more D.size) hA' (qbA hS).1 ((I.keep D).more D.size) hG' (qbA hS).2.1 (qbA hS).2.2
 have bn:0<=p.low/\p.low<=65:=by have:=hP.low1;have:=hP.low2;have:=hP.n2;omega
 have bb:IntKind.i64.wrap (p.low-(s.at_.length:Int))=p.low-(s.at_.length:Int):=IntWalk.i64_in _ (by have:=ks.2.2.2.1;have e:maxLen=9223372036854775807:=rfl;omega);have a9:IntKind.i64.wrap (p.low+1)=p.low+1:=IntWalk.i64_in _ U0;have HR:=zH hk;have r:=zH bp;have HM:zK (∀W,zB w W->zI W M p.mod/\zR W N p.gen/\zI W A0 s.mod/\zI W A3 s.at_):=fun W D=>⟨(j1.keep D).more D.size,(j2.keep D).more D.size,(H.keep D).more D.size,(J.keep D).more D.size⟩;clear H I J j1 j2 hS hP fs fp hk ks bp;go_enter func29,ntmps29;go_upto_region 1 with fail;generalize (w.alloc (.cells (stCells s A0 A1 A2 A3 A4 A5 A6 A7 A8 A9 u E Q q R S T U V X).toArray 40)).alloc (.cells (stCells p M N B2 B3 B4 B5 B6 B7 B8 B9 f g Z aa ab ac ad ae af ag).toArray 40)=W0 at *;have y3:W0.cell? (zA (w.heap.size+1) 6)=some (Y p.low):=ak.o.cell (i:=1) rfl rfl;have a6:zB W0 (W0.alloc (Ca)):=zV.alloc zn _;have y4:(W0.alloc (Ca)).cell? (zA (w.heap.size+1) 6)=some (Y p.low):=(ak.o.grow a6).cell (i:=1) rfl rfl;have bh:=ax.o;clear a6;go_cut [5,6,7] (fun v5 v6 v7 wx=>v5=zP (w.heap.size+2)/\v6=Y 0/\v7=Y p.low/\wx=(W0.alloc (Ca)).drew);case first=>
  clear ak aj HR r HM bb a9;go_region
  all_goals
   go_wp2
   go_meet
   exact⟨rfl,rfl,rfl,rfl⟩
 case rest =>
  obtain⟨rfl,rfl,rfl,bc⟩:=hcut;have c:zK (BXT w [(stCells s A0 A1 A2 A3 A4 A5 A6 A7 A8 A9 u E Q q R S T U V X,40),(stCells p M N B2 B3 B4 B5 B6 B7 B8 B9 f g Z aa ab ac ad ae af ag,40),((Cd),32)] wc):=by show BXT _ _ _;rw[bc];exact(ak.o.push ax.o (Cd) 32).grow zV.drew
  clear bc y3 y4 ak bh ax;clear W0;have y0:wc.cell? (zA w.heap.size 0)=some (Y k):=by rw[<- HR.o];exact c.o.cell (i:=0) rfl rfl
  go_upto_block 0 with fail;go_cut [6,7] (fun v6 v7 wx=>OneR w (stCells s A0 A1 A2 A3 A4 A5 A6 A7 A8 A9 u E Q q R S T U V X) (stCells p M N B2 B3 B4 B5 B6 B7 B8 B9 f g Z aa ab ac ad ae af ag) s G low v6 v7 wx);case first =>
   have p1:wc.cell? (zA (w.heap.size+1) 1)=some (Y p.p):=c.o.cell (i:=1) rfl rfl;have p2:wc.cell? (zA (w.heap.size+1) 2)=some (Y p.m):=c.o.cell (i:=1) rfl rfl;have p3:wc.cell? (zA (w.heap.size+1) 3)=some (zL M p.mod.length f):=c.o.cell (i:=1) rfl rfl;have p4:wc.cell? (zA (w.heap.size+1) 4)=some (Y p.n):=c.o.cell (i:=1) rfl rfl;have p5:wc.cell? (zA (w.heap.size+1) 5)=some (zL N p.gen.length g):=c.o.cell (i:=1) rfl rfl;obtain⟨b1,b2,b3,b4⟩:=HM.o wc c.o.below;have y:=zH b1;have A:=zH b2;have ah:=zH b3;have L:=zH b4;clear b1 b2 b3 b4 aj;rcases r.o with⟨rfl,rfl,O⟩|⟨rfl,rfl,O⟩|⟨rfl,rfl,O⟩|⟨rfl,rfl,O⟩|⟨rfl,rfl,ps,ss,⟨P7,P8,K7,K8,m1,m2,q1,q2,q3⟩,O⟩|⟨rfl,rfl,a0,ha,O⟩
   . have l:=zH (O wc M f N g A3 q c.o.below y.o A.o L.o);clear O;have y8:wc.cell? (zA w.heap.size 8)=some (zL A3 s.at_.length q):=c.o.cell (i:=0) rfl rfl;go_wp2_with fail;go_fit l.o;rintro e w1 h;obtain⟨c0,c1,c2,c3,c4,z,rfl,H,I,P,J⟩:=con_arm c.o h;have x:=zH H;have B:=zH I;have v:=zH P;have C:=zH J;clear h H I P J l c r HM HR y A ah L y0 p1 p2 p3 p4 p5 y8;go_upto_region 5 with(refine wpList_store_row rfl 32 (.tmp 5) (.tmp 24) rfl w1 (w.heap.size+1+1) 32 (C6) #[c0,c1,c2,c3,c4] rfl rfl B.o codeSz rfl x.o ?_);generalize w1.setRow (w.heap.size+1+1) #[c0,c1,c2,c3,c4]=K at *;have y8:K.cell? (zA w.heap.size 8)=some (zL A3 s.at_.length q):=v.o.cell (i:=0) rfl rfl;have p6:K.cell? (zA (w.heap.size+1) 6)=some (Y p.low):=v.o.cell (i:=1) rfl rfl;go_wp2;go_meet;exact C.o _
   . have l:=zH (O wc M f N g A3 q c.o.below y.o A.o L.o);clear O;have y8:wc.cell? (zA w.heap.size 8)=some (zL A3 s.at_.length q):=c.o.cell (i:=0) rfl rfl;go_wp2_with fail;go_fit l.o;rintro e w1 h;obtain⟨c0,c1,c2,c3,c4,z,rfl,H,I,P,J⟩:=con_arm c.o h;have x:=zH H;have B:=zH I;have v:=zH P;have C:=zH J;clear h H I P J l c r HM HR y A ah L y0 p1 p2 p3 p4 p5 y8;go_wp2_with (refine wpList_store_row rfl 32 (.tmp 5) (.tmp 40) rfl w1 (w.heap.size+1+1) 32 (C6) #[c0,c1,c2,c3,c4] rfl rfl B.o codeSz rfl x.o ?_);go_meet;exact C.o _
   . have l := zH (O wc M f N g c.o.below y.o A.o);clear O;go_wp2_with fail;go_fit l.o;rintro e w1 h;obtain ⟨c0,c1,c2,c3,c4,z,rfl,H,I,P,J⟩:=con_arm c.o h;have x:=zH H;have B:=zH I;have v:=zH P;have C:=zH J;clear h H I P J l c r HM HR y A ah L y0 p1 p2 p3 p4 p5;obtain ⟨r2,bg⟩:∃ r2,Int.tmod p.low 2=r2:=⟨_,rfl⟩;(have an:zK (lowX p=if r2=1/\p.p=2/\p.m=1 then p.low+1 else p.low):=by show _=_;unfold lowX;rw [bg]);go_upto_region 13 with (refine wpList_store_row rfl 32 (.tmp 5) (.tmp 69) rfl w1 (w.heap.size+1+1) 32 (C6) #[c0,c1,c2,c3,c4] rfl rfl B.o codeSz rfl x.o ?_);generalize w1.setRow (w.heap.size+1+1) #[c0,c1,c2,c3,c4]=K at *;have p6:K.cell? (zA (w.heap.size+1) 6)=some (Y p.low):=v.o.cell (i:=1) rfl rfl;have p1:K.cell? (zA (w.heap.size+1) 1)=some (Y p.p):=v.o.cell (i:=1) rfl rfl;have p2:K.cell? (zA (w.heap.size+1) 2)=some (Y p.m):=v.o.cell (i:=1) rfl rfl;by_cases ay:r2=1;case' neg => have a8:=beq_false_of_ne ay;have HL:zK (lowX p=p.low):=by show _=_;rw [an.o,if_neg fun h=>ay h.1]
     case' pos=>
      subst ay;by_cases ap:p.p=2;case' neg=>have a8:=beq_false_of_ne ap;have HL:zK (lowX p=p.low):=by show _=_;rw[an.o,if_neg fun h=>ap h.2.1]
      case' pos=>
       rw[ap] at p1;by_cases aq:p.m=1;case' neg=>have a8:=beq_false_of_ne aq;have HL:zK (lowX p=p.low):=by show _=_;rw[an.o,if_neg fun h=>aq h.2.2]
       case' pos=>rw[aq] at p2;have HL:zK (lowX p=p.low+1):=by show _=_;rw[an.o,if_pos ⟨rfl,ap,aq⟩]
     all_goals
      go_wp2
      go_meet
      rw[HL.o]
      exact C.o _
   . have l:=zH (O wc M f N g A0 u c.o.below y.o A.o ah.o);clear O;have s1:wc.cell? (zA w.heap.size 1)=some (Y s.p):=c.o.cell (i:=0) rfl rfl;have s2:wc.cell? (zA w.heap.size 2)=some (Y s.m):=c.o.cell (i:=0) rfl rfl;have s3:wc.cell? (zA w.heap.size 3)=some (zL A0 s.mod.length u):=c.o.cell (i:=0) rfl rfl;go_wp2_with fail;go_fit l.o;rintro e w1 h;obtain⟨c0,c1,c2,c3,c4,z,rfl,H,I,P,J⟩:=con_arm c.o h;have x:=zH H;have B:=zH I;have v:=zH P;have C:=zH J;clear h H I P J l c r HM HR y A ah L y0 p1 p2 p3 p4 p5 s1 s2 s3;go_wp2_with (refine wpList_store_row rfl 32 (.tmp 5) (.tmp 100) rfl w1 (w.heap.size+1+1) 32 (C6) #[c0,c1,c2,c3,c4] rfl rfl B.o codeSz rfl x.o ?_);go_meet;exact C.o _
   . have l:=zH (O wc M f N g P7 P8 K7 K8 c.o.below y.o A.o ((q1.keep c.o.below).more c.o.below.size) ((q2.keep c.o.below).more c.o.below.size) q3);clear O;have bi:wc.cell? (zA w.heap.size 19)=some (zL P7 ps.length K7):=(c.o.cell (i:=0) (k:=19) rfl rfl).trans m1;have bj:wc.cell? (zA w.heap.size 20)=some (zL P8 ss.length K8):=(c.o.cell (i:=0) (k:=20) rfl rfl).trans m2;have bm:wc.cell? (zA w.heap.size 21)=some (Y s.frob):=c.o.cell (i:=0) rfl rfl;clear m1 m2 q1 q2 q3;go_wp2_with fail;go_fit l.o;rintro e w1 h;obtain⟨c0,c1,c2,c3,c4,z,rfl,H,I,P,J⟩:=con_arm c.o h;have x:=zH H;have B:=zH I;have v:=zH P;have C:=zH J;clear h H I P J l c r HM HR y A ah L y0 p1 p2 p3 p4 p5 bi bj bm;go_wp2_with (refine wpList_store_row rfl 32 (.tmp 5) (.tmp 110) rfl w1 (w.heap.size+1+1) 32 (C6) #[c0,c1,c2,c3,c4] rfl rfl B.o codeSz rfl x.o ?_);go_meet;exact C.o _
   . have ar := zH ha;obtain ⟨ba,oa,a3,a4,al⟩:=L.o.at_ (k:=0) (by rw [ar.o];exact Nat.zero_lt_one);(have y8:wc.cell? (zA w.heap.size 8)=some (zL (some (zA ba oa)) 1 q):=by have:=c.o.cell (i:=0) (k:=8) rfl rfl;rw [ar.o,a3] at this;exact this);(have a7:wc.cell? (zA ba oa)=some (Y a0):=by rw [ar.o] at al;exact al);clear al a3 ha;(have a5:w.heap.size<wc.heap.size:=by have:=c.o.size;simp only [List.length_cons,List.length_nil] at this;omega);have az:zK (∀ W,LSt wc W->W.rangeAt (w.heap.size+1) 1 (C2 p.p p.m M p.mod.length f p.n N p.gen.length g)):=fun W D=>qbO ((c.o.grow D).range (i:=1) rfl) 1 _ (fun j hj=>by rcases j with _|_|_|_|_|j <;> first|rfl|(simp at hj;omega));have av:zK (∀ W,LSt wc W->W.cell? (zA w.heap.size 8)=some (zL (some (zA ba oa)) 1 q)/\W.cell? (zA ba oa)=some (Y a0)):=fun W D=>⟨(D.cell (p:=(zA w.heap.size 8)) a5).trans y8,(D.cell (p:=(zA ba oa)) a4).trans a7⟩;have ai:zK (LSt wc wc.drew):=zV.drew;(have l:zK (zC 66 #[C8 p.p p.m M p.mod.length f p.n N p.gen.length g,Y a0] wc.drew (CPost wc.drew s G)):=by have hb:=c.o.below.trans (Below.mono ai.o c.o.below.size);exact O wc.drew M f N g hb (HM.o _ hb).1 (HM.o _ hb).2.1);clear O y8 a7 a4 a5;go_upto_region 25 with fail;refine qaS 11 10 (LSt wc) [(1,0),(0,1),(1,2),(0,3),(1,4),(0,5),(2,6),(1,7),(1,8),(1,9),(3,10)] default U1 U1 (fun _ _ d _ _ h=>by cases d <;> exact h) ai.o ?_;have a2:zK (BXT w [(stCells s A0 A1 A2 A3 A4 A5 A6 A7 A8 A9 u E Q q R S T U V X,40),(stCells p M N B2 B3 B4 B5 B6 B7 B8 B9 f g Z aa ab ac ad ae af ag,40),((Cd),32)] wc.drew):=c.o.grow ai.o;simp only [List.map_cons,List.map_nil,List.getD_cons_zero,List.getD_cons_succ];apply qaM rfl
     . intro W;go_simp;rfl
     go_simp;refine qaT rfl 32 (.tmp 137) rfl (w.heap.size+1) 1 rfl (C2 p.p p.m M p.mod.length f p.n N p.gen.length g) _ az.o underlying32 rfl codeSz ?_;go_simp;apply qaM rfl
     . intro W;go_simp;rfl
     go_simp;apply qbF rfl
     . intro W D;obtain⟨z8,za⟩:=av.o W D;go_simp;rfl
     go_simp;apply qaM rfl
     . intro W;go_simp;rfl
     go_simp;apply qbF rfl
     . intro W D;obtain⟨z8,za⟩:=av.o W D;go_simp;rfl
     go_simp;apply qbE rfl
     . go_simp;exact⟨rfl,rfl⟩
     go_fit l.o;rintro e w1 h;have be:zK (LSt wc w1):=Below.trans ai.o (Below.mono h.1 (Below.size ai.o));obtain⟨c0,c1,c2,c3,c4,z,rfl,H,I,P,J⟩:=con_arm a2.o h;have x:=zH H;have B:=zH I;have C:=zH J;clear h H I P J l c a2 r HM HR y A ah L y0 p1 p2 p3 p4 p5 az av;refine⟨_,rfl,be.o,?_⟩;go_simp
     iterate 3
      apply qaM rfl
      . intro W
        go_simp
        rfl
      go_simp
     refine qcA rfl 32 (.tmp 5) (.tmp 144) rfl (w.heap.size+1+1) 32 (C6) #[c0,c1,c2,c3,c4] rfl rfl B.o codeSz rfl x.o ?_;go_simp;refine qbH ?_;go_wp2;go_meet;exact C.o _
  case rest =>
   have HC:=zH hcut;clear hcut y0 c r HM HR bb a9;rcases HC.o with⟨z,hz,rfl,hy⟩|⟨p',m',t,A',c',N',R',bd,k',rfl,rfl,hg,hy,hi,hr⟩
   . have bo:(z==0)=false:=beq_false_of_ne hz;have v:=zH hy;clear hz aj HC hy;go_wp2;go_ret;exact⟨⟨false,U5,fun h=>by cases h⟩,v.o.below⟩
   . have v := zH hy;have aw:=zH hg;obtain ⟨K,rfl⟩:∃ K,K=wc:=⟨_,rfl⟩;have a1:=zH (aj.o K p' m' t A' c' N' bd R' k' v.o.below hi hr);have y1:K.cell? (zA w.heap.size 1)=some (Y s.p):=v.o.cell (i:=0) rfl rfl;have y2:K.cell? (zA w.heap.size 2)=some (Y s.m):=v.o.cell (i:=0) rfl rfl;have y3:K.cell? (zA w.heap.size 3)=some (zL A0 s.mod.length u):=v.o.cell (i:=0) rfl rfl;have y4:K.cell? (zA w.heap.size 4)=some (Y s.n):=v.o.cell (i:=0) rfl rfl;have y5:K.cell? (zA w.heap.size 5)=some (zL A1 s.gen.length E):=v.o.cell (i:=0) rfl rfl;have x0:K.cell? (zA (w.heap.size+1+1) 0)=some (Y p'):=v.o.cell (i:=2) rfl rfl;have x1:K.cell? (zA (w.heap.size+1+1) 1)=some (Y m'):=v.o.cell (i:=2) rfl rfl;have x2:K.cell? (zA (w.heap.size+1+1) 2)=some (zL A' t.length c'):=v.o.cell (i:=2) rfl rfl;have x3:K.cell? (zA (w.heap.size+1+1) 3)=some (Y N'):=v.o.cell (i:=2) rfl rfl;have x4:K.cell? (zA (w.heap.size+1+1) 4)=some (zL R' bd.length k'):=v.o.cell (i:=2) rfl rfl;clear aj HC hg hi hr hy;go_wp2_with fail;go_fit a1.o;rintro e w3 ⟨b,rfl,hb3,hbb⟩;have ao:=zH (v.o.grow hb3);have au:=zH hbb;clear hb3 hbb a1 y1 y2 y3 y4 y5 x0 x1 x2 x3 x4 v;rcases Bool.eq_false_or_eq_true b with hbt|hbt;rotate_left
     . subst hbt;clear au aw;go_wp2;go_ret;exact⟨⟨false,U5,fun h=>by cases h⟩,ao.o.below⟩
     . have HQ:=zH (aw.o (au.o hbt));clear au aw;subst hbt;have y6:w3.cell? (zA w.heap.size 6)=some (Y s.low):=ao.o.cell (i:=0) rfl rfl;by_cases bf:s.low<=low
       . have HL:=zH bf;go_wp2;go_ret;exact⟨⟨_,rfl,fun _=>⟨HQ.o,HL.o⟩⟩,ao.o.below⟩
       . go_wp2;go_ret;exact⟨⟨false,U5,fun h=>by cases h⟩,ao.o.below⟩
end Go.Proofs.YtocbdafcolbfeaaGreat
