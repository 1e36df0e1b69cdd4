/- Parts of the proof. -/
import Derived.Test.YtkcdlealipfnbaaGreatR21
set_option maxRecDepth 100000
set_option maxHeartbeats 8000000
namespace Go.Proofs.YtkcdlealipfnbaaGreat
open Go.RowKit Pln Go.Proofs.Tryz
structure StX (X:Wo->Nat->StD->List Value->Prop):Prop where
 keep:∀{w w':Wo}{B:Nat}{d:StD}{cs:List Value},X w B d cs->Below B w w'->X w' B d cs
 more:∀{w:Wo}{B B':Nat}{d:StD}{cs:List Value},X w B d cs->B<=B'->X w B' d cs
 stc:∀{w:Wo}{B:Nat}{d:StD}{cs:List Value},X w B d cs->StC w B d cs
def StsX(X:Wo->Nat->StD->List Value->Prop)(w:Wo)(B:Nat)(A:OA)(ds:List StD):Prop:=
 0<ds.length->∃b o,A=some (zA b o)/\b<B/\∀i d,ds[i]?=some d->∃cs,w.rangeAt b (o+i*23) cs/\X w B d cs
section
variable {X:Wo->Nat->StD->List Value->Prop}
theorem StsX.at_{w:Wo}{B:Nat}{A:OA}{j:List StD}(h:StsX X w B A j){i:Nat}(k:i<j.length):∃b o cs,A=some (zA b o)/\b<B/\w.rangeAt b (o+i*23) cs/\X w B (j[i]'k) cs:=by obtain⟨b,o,e,c,g⟩:=h U0;obtain⟨cs,d,f⟩:=g i _ (List.getElem?_eq_getElem k);exact⟨b,o,cs,e,c,d,f⟩
theorem StsX.sts(m:StX X){w:Wo}{B:Nat}{A:OA}{l:List StD}(h:StsX X w B A l):StsAt w B A l:=fun hz=>by
 obtain⟨b,o,e,c,k⟩:=h hz
 exact⟨b,o,e,c,fun i d hd=>by
  obtain⟨f,g,j⟩:=k i d hd
  exact⟨f,g,m.stc j⟩⟩
theorem StsX.keep(q:StX X){w w':Wo}{B:Nat}{A:OA}{m:List StD}(h:StsX X w B A m)(n:Below B w w'):StsX X w' B A m:=fun hz=>by
 obtain⟨b,o,e,c,l⟩:=h hz
 refine⟨b,o,e,c,fun i d hd=>?_⟩
 obtain⟨f,g,k⟩:=l i d hd
 exact⟨f,fun j v hv=>(n.cell (p:=(zA b (o+i*23+j))) c).trans (g j v hv),q.keep k n⟩
theorem StsX.more(n:StX X){w:Wo}{B B':Nat}{A:OA}{l:List StD}(h:StsX X w B A l)(m:B<=B'):StsX X w B' A l:=fun hz=>by
 obtain⟨b,o,e,k,j⟩:=h hz
 refine⟨b,o,e,U0,fun i d hd=>?_⟩
 obtain⟨c,f,g⟩:=j i d hd
 exact⟨c,f,n.more g m⟩
def FromX(X:Wo->Nat->StD->List Value->Prop)(w:Wo)(B:Nat)(v:Value)(ps:List StD):Prop:=
 ∃xs:List Value,w.ownsRow B 40 23 v ps.length xs/\∀(i:Nat)(p:StD),ps[i]?=some p->∃cp:List Value,X w B p cp/\∀j u,cp[j]?=some u->xs[i*23+j]?=some u
theorem FromX.nil(w:Wo)(B:Nat):FromX X w B (zL none 0 0) []:=⟨[],World.ownsRow_nil _ _ _ _,fun i p h=>by simp at h⟩
theorem own_sliceX{w:Wo}{base n:Nat}{e:TypeId}{s:Nat}{v:Value}{k:List Value}(h:w.ownsRow base e s v n k):∃VA ck,v=zL VA n ck/\(0<n->∃R,VA=some (zA R 0)/\base<=R/\R<w.heap.size/\n<=ck):=by
 rcases h.2 with⟨b,c⟩|⟨g,cap,cur,j,d,i,f,_⟩
 . subst c;exact⟨_,_,b,fun h=>U0⟩
 . exact⟨_,_,j,fun _=>⟨g,rfl,d,block_lt i,f⟩⟩
theorem FromX.form{w:Wo}{B:Nat}{v:Value}{d:List StD}(h:FromX X w B v d):∃VA ck,v=zL VA d.length ck/\(0<d.length->∃R,VA=some (zA R 0)/\B<=R/\R<w.heap.size/\d.length<=ck):=by obtain⟨c,b,_⟩:=h;exact own_sliceX b
theorem FromX.range{w:Wo}{B:Nat}{R n m:Nat}{l:List StD}(h:FromX X w B (zS R n m) l){i:Nat}{p:StD}(o:l[i]?=some p):∃cp,w.rangeAt R (i*23) cp/\X w B p cp:=by obtain⟨k,f,d⟩:=h;obtain⟨cp,b,c⟩:=d i p o;refine⟨cp,fun j u hu=>?_,b⟩;have:=f.cells (g:=R) rfl (i*23+j) u (c j u hu);rw[Addr.add_mid,Nat.zero_add] at this;exact this
theorem own_belowX{w w':Wo}{B n:Nat}{e:TypeId}{s:Nat}{v:Value}{j:List Value}(h:w.ownsRow B e s v n j)(k:zB w w'):w'.ownsRow B e s v n j:=by
 refine⟨h.1,?_⟩;rcases h.2 with⟨c,d⟩|⟨g,cap,cur,i,f,b,r⟩
 . exact .inl ⟨c,d⟩
 . exact .inr ⟨g,cap,cur,i,f,(k.block g (block_lt b)).trans b,r⟩
theorem FromX.grow(m:StX X){w w':Wo}{B:Nat}{v:Value}{k:List StD}(h:FromX X w B v k)(l:B<=w.heap.size)(j:zB w w'):FromX X w' B v k:=by obtain⟨g,f,d⟩:=h;refine⟨g,own_belowX f j,fun i p hp=>?_⟩;obtain⟨cp,b,c⟩:=d i p hp;exact⟨cp,m.keep b (j.mono l),c⟩
theorem FromX.append(M:StX X){w:Wo}{B:Nat}{v:Value}{L:List StD}(h:FromX X w B v L)(N:B<=w.heap.size)(R:L.length<=1000){p:StD}{cp:List Value}(Q:X w B p cp){o:Obj}(O:o=.cells cp.toArray 40):
 ∃(v':Value)(w2:Wo),(Builtin.append_ #[22,22] 22 #[v,zS w.heap.size 1 1]).run prog (w.alloc o)=.ok v' w2/\Below B w w2/\w.heap.size<=w2.heap.size/\FromX X w2 B v' (L++[p]):=by
 subst O;obtain⟨K,m,t,x,y⟩:=qaF infoStep;obtain⟨C,g,J⟩:=h;have l:=(M.stc Q).len;have b:zB w (w.alloc (.cells cp.toArray 40)):=zV.alloc zn _;have s:(w.alloc (.cells cp.toArray 40)).rangeAt w.heap.size 0 cp:=range_of_row (heap_alloc_new _ _)
 obtain⟨v',w2,f,d,A,_,I⟩:=run_append_own_at (P:=prog) (w:=w.alloc (.cells cp.toArray 40)) B 22 22 40 K _ 23 344 underlying22 m t x y rfl dc v L.length C (own_belowX g b) (zA w.heap.size 0) 1 1 cp (by rw[l])
  (fun j u hj=>by rw[Addr.add_mid];exact s j u hj) (M.stc Q).one ml U0 (Nat.le_trans N b.size)
 have c:=(b.mono N).grown A (Nat.le_trans N b.size) fun k hk=>(g.lt k hk).1;refine⟨v',w2,f,c,Nat.le_trans b.size A.size,C++cp,by rw[List.length_append];exact d,fun i q hq=>?_⟩;by_cases m:i<L.length
 . rw[List.getElem?_append_left m] at hq;obtain⟨D,E,H⟩:=J i q hq;refine⟨D,M.keep E c,fun j u hu=>?_⟩;have z:=H j u hu;rw[List.getElem?_append_left (List.getElem?_eq_some_iff.1 z).1];exact z
 . (have n:i=L.length:=by have:=(List.getElem?_eq_some_iff.1 hq).1;simp at this;omega);subst n;(have r:q=p:=by simpa using hq.symm);subst r;refine⟨cp,M.keep Q c,fun j u hu=>?_⟩;rw[List.getElem?_append_right (by rw[g.1];omega),g.1,Nat.add_sub_cancel_left];exact hu
end
theorem SB.low{w:Wo}{b:Nat}{cs:List Value}{W i:Wo}(h:SB w b cs W){B:Nat}(j:Below B W i)(k:b<B)(l:W.heap.size<=i.heap.size):SB w b cs i:=by obtain⟨c,d,f,g⟩:=h;exact⟨(j.block _ k).trans c,d.trans (j.mono U0),f,Nat.lt_of_lt_of_le g l⟩
def AccOk(ds:List StD)(k:Nat)(s:StD)(ps:List StD):Prop:=ps.length=s.frm.length/\∀(i:Nat)(p:StD),ps[i]?=some p->∃a:Nat,s.frm[i]?=some (a:Int)/\a<k/\ds[a]?=some p
def AccPost(w:Wo)(ds:List StD)(k:Nat)(P:StD->List StD->Prop)(e:Ending)(w':Wo):Prop:=
 ∃z,e=.returned (Y z)/\zB w w'/\(z=0->∃(s:StD)(ps:List StD),ds[k]?=some s/\AccOk ds k s ps/\formZ s=0/\(∀p∈ps,formZ p=0)/\P s ps)
def RelGs(X:Wo->Nat->StD->List Value->Prop)(w w2:Wo)(cs:List Value)(ds:List StD)(k:Nat)(s:StD)(v7 v66:Value)(wr:Wo):Prop:=
 SB w w.heap.size cs wr/\w2.heap.size<=wr.heap.size/\∃(j:Nat)(ps:List StD),j<=s.frm.length/\v66=Y j/\ps.length=j/\FromX X wr w2.heap.size v7 ps/\∀(i:Nat)(p:StD),ps[i]?=some p->∃a:Nat,s.frm[i]?=some (a:Int)/\a<k/\ds[a]?=some p
def RelGt(X:Wo->Nat->StD->List Value->Prop)(w w2:Wo)(cs:List Value)(ps:List StD)(v:Value)(v87:Value)(wr:Wo):Prop:=
 SB w w.heap.size cs wr/\w2.heap.size<=wr.heap.size/\FromX X wr w2.heap.size v ps/\∃j:Nat,j<=ps.length/\v87=Y j/\∀(i:Nat)(p:StD),i<j->ps[i]?=some p->formZ p=0
theorem tf_no{P:Prop}(h:true=false):P:=by cases h
def RelSg(w:Wo)(cs:List Value)(np:Nat)(s:StD)(v:Value)(wx:Wo):Prop:=∃bb:Bool,v=.bool bb/\(bb=false->s.frm.length=np/\(s.rule=18->s.at_.length=1))/\SB w w.heap.size cs wx
theorem checkstep_u{X:Wo->Nat->StD->List Value->Prop}(hX:StX X)(P:StD->List StD->Prop)(np:Nat)(fb:np<=3)(ds:List StD)(A:OA)(c k:Nat)(w:Wo)(hA:StsX X w w.heap.size A ds)(hk:∀ d∈ds,d.ok)(hl:ds.length<=1000)(hi:k<ds.length)(h0:¬ (ds[k]'hi).rule<0)(fa:¬ 20<=(ds[k]'hi).rule)(d9:¬ (ds[k]'hi).rule=14)(cf:∀ W:Wo,zC 16 #[Y (ds[k]'hi).rule] W fun e w'=>e=.returned (Y (np:Int))/\W=w')(d8:∀ (cs:List Value)(ps:List StD)(v:Value)(B:Nat)(W:Wo),X W W.heap.size (ds[k]'hi) cs->B<=W.heap.size->FromX X W B v ps->(∀ p∈ps,p.ok/\formZ p=0)->ps.length=np->formZ (ds[k]'hi)=0->((ds[k]'hi).rule=18->(ds[k]'hi).at_.length=1)->zC 17 #[.agg cs.toArray,v] W fun e w'=>∃ b,e=.returned (.bool b)/\zB W w'/\(b=true->P (ds[k]'hi) ps)):
 zC 7 #[zL A ds.length c,Y k] w (AccPost w ds k P):=by
 obtain⟨b,o,dy,rfl,d3,cn,hx⟩:=hA.at_ hi;have cw:ds[k]?=some (ds[k]'hi):=List.getElem?_eq_getElem hi;have cx:(ds[k]'hi).ok:=hk _ (List.getElem_mem hi);generalize ds[k]'hi=s at *;have bw:=zH hx;have cy:=hX.stc hx;have bv:=zH cy;have L:=zH hX;obtain⟨V,U,M,O,T,Z,Aq,Ar,As,At,cm,cg,N,ca,cb,f,cq,cr,g,ct,rfl,dq,h1,h2,h3,h4,h5⟩:=cy;have c7:=zH h3;clear dq h1 h2 h3 h4 h5 hx hX;have HA:=zH hA;have HK:=zH hk;have dh:=zH cw;have di:=zH cx;have br:=zH cn;have HP:=zH cf
 have a3:zK (formZ s=0->(s.rule=18->s.at_.length=1)->∀(ps:List StD)(v:Value)(B:Nat)(W:Wo),zB w W->B<=W.heap.size->FromX X W B v ps->(∀p∈ps,p.ok/\formZ p=0)->ps.length=np->zC 17 #[.agg (stCells s V U M O T Z Aq Ar As At cm cg N ca cb f cq cr g ct).toArray,v] W fun e w'=>∃b,e=.returned (.bool b)/\zB W w'/\(b=true->P s ps)):=
  fun hf ha ps v B W hW hB hF av hlen=>d8 _ ps v B W (L.o.more (L.o.keep bw.o hW) hW.size) hB hF av hlen hf ha
 have HX:=zH (sb_new w (stCells s V U M O T Z Aq Ar As At cm cg N ca cb f cq cr g ct));have k0:¬(k:Int)<0:=U0;have k1:¬(ds.length:Int)<=(k:Int):=U0;have k2:¬(4096:Int)<(ds.length:Int):=U0;have k3:(0:Int)<=(k:Int):=U0;have k4:(k:Int)<(ds.length:Int):=U0;have dz:(s.rule==14)=false:=beq_false_of_ne d9;have bj:zK ((stCells s V U M O T Z Aq Ar As At cm cg N ca cb f cq cr g ct).toArray.all (·.oneCell')=true):=by show _=_;simp[stCells,Value.oneCell']
 have HC:zK (∀W:Wo,zB w W->zC 15 #[.agg (stCells s V U M O T Z Aq Ar As At cm cg N ca cb f cq cr g ct).toArray] W fun e w'=>e=.returned (Y (formZ s))/\zB W w'):=fun W hW=>formed_g s _ W (bv.o.lift hW) di.o;clear hA hk cw cx cn cf d8 bv bw;go_enter func7,ntmps7
 go_upto_region 6 with(first
  |(refine wpList_load_mid rfl 40 (.tmp 25) rfl b (o+k*23) rfl (stCells s V U M O T Z Aq Ar As At cm cg N ca cb f cq cr g ct) _ br.o underlying40 rfl stepSize ?_)
  |(refine qaH rfl 40 (.tmp 5) (.tmp 26) rfl w _ (stCells s V U M O T Z Aq Ar As At cm cg N ca cb f cq cr g ct).toArray rfl rfl stepSize rfl bj.o ?_))
 generalize w.alloc (.cells (stCells s V U M O T Z Aq Ar As At cm cg N ca cb f cq cr g ct).toArray 40)=W0 at *;have bs:=zH HX.o.range;have a9:=zH (HC.o W0 HX.o.2.1);clear HC;go_wp2_with (refine wpList_load_mid rfl 40 (.tmp 5) rfl w.heap.size 0 rfl (stCells s V U M O T Z Aq Ar As At cm cg N ca cb f cq cr g ct) _ bs.o underlying40 rfl stepSize ?_);refine a9.o.mono ?_;rintro e w1 ⟨rfl,hb1⟩;have ai:=zH (HX.o.grow hb1);clear hb1 HX a9 bs br;by_cases ab:formZ s=0;rotate_left
 . have d5:(formZ s != 0)=true:=bne_iff_ne.2 ab;have c9:=zH ab;clear ab a3;generalize formZ s=z at *;go_wp2;go_ret;exact⟨_,rfl,ai.o.2.1,fun h=>absurd h c9.o⟩
 have c4:=zH ab;have ay:=zH (a3.o ab);rw [ab];clear ab a3;have y0:w1.cell? (zA w.heap.size 0)=some (Y s.rule):=ai.o.cell rfl;obtain ⟨bf,ef,ar⟩:∃ bf:Bool,((s.frm.length:Int) != (np:Int))=bf/\(bf=false->s.frm.length=np):=⟨_,rfl,fun h=>by have:=bne_eq_false_iff_eq.1 h;omega⟩;obtain ⟨b8,e8,h8⟩:∃ b8:Bool,(s.rule==18)=b8/\(b8=false->s.rule≠18):=⟨_,rfl,fun h=>beq_eq_false_iff_ne.1 h⟩;obtain ⟨b1,e1,h1⟩:∃ b1:Bool,((s.at_.length:Int) != 1)=b1/\(b1=false->s.at_.length=1):=⟨_,rfl,fun h=>by have:=bne_eq_false_iff_eq.1 h;omega⟩;have a2:=zH ar;have H8:=zH h8;have H1:=zH h1;clear ar h8 h1;go_upto_region 11 with fail;go_cut [62] (fun v62 wx=>RelSg w (stCells s V U M O T Z Aq Ar As At cm cg N ca cb f cq cr g ct) np s v62 wx);case first =>
  cases bf<;>cases b8<;>cases b1
  all_goals
   (try have ah:=zH (a2.o rfl))
   (try have c8:=zH (H8.out rfl))
   (try have cz:=zH (H1.out rfl))
   clear a2 H8 H1
   refine qaD (SB w w.heap.size (stCells s V U M O T Z Aq Ar As At cm cg N ca cb f cq cr g ct)) U1 U1 (ai.o.grow zV.drew) ?_
   repeat (first
    | (apply qaJ rfl
       . intro W hS
         have y0:W.cell? (zA w.heap.size 0)=some (Y s.rule):=hS.cell rfl
         have y7:W.cell? (zA w.heap.size 7)=some (zL M s.frm.length N):=hS.cell rfl
         have y8:W.cell? (zA w.heap.size 8)=some (zL O s.at_.length ca):=hS.cell rfl
         go_simp
         try rfl
       go_simp)
    | (apply qbD rfl
       . intro W hS
         have y0:W.cell? (zA w.heap.size 0)=some (Y s.rule):=hS.cell rfl
         have y7:W.cell? (zA w.heap.size 7)=some (zL M s.frm.length N):=hS.cell rfl
         have y8:W.cell? (zA w.heap.size 8)=some (zL O s.at_.length ca):=hS.cell rfl
         go_simp
         try rfl
       go_simp)
    | (apply qaO rfl
       . intro W hS
         go_simp
         exact⟨rfl,rfl⟩
       . intro W hS
         exact(HP.o W).mono (by rintro e w' ⟨rfl,rfl⟩;exact⟨rfl,hS⟩)
       go_simp)
    |(apply qbI rfl;go_simp))
   refine qaE ?_
   intro w2 hS
   have HS:=zH hS
   clear hS ai y0
   go_wp2
   go_meet
   first|exact⟨true,rfl,tf_no,HS.o⟩|exact⟨false,rfl,fun _=>⟨ah.o,fun h=>absurd h c8.o⟩,HS.o⟩|exact⟨false,rfl,fun _=>⟨ah.o,fun _=>cz.o⟩,HS.o⟩
 case rest =>
  obtain⟨bb,rfl,b3,S⟩:=hcut;obtain⟨w2,rfl⟩:∃w2,w2=wc:=⟨_,rfl⟩;have aj:=zH S;have a1:=zH b3;clear S b3 ai y0 a2 H8 H1 ef e8 e1;cases bb;rotate_left
  . go_wp2;go_ret;exact⟨_,rfl,aj.o.2.1,fun h=>by cases h⟩
  have ah:=zH (a1.o rfl).1;have bd:=zH (ay.o (a1.o rfl).2);clear a1 ay;have y7:w2.cell? (zA w.heap.size 7)=some (zL M s.frm.length N):=aj.o.cell rfl;have dx:s.frm.length<=3:=by have:=ah.o;omega
  have bu:zK (RelGs X w w2 (stCells s V U M O T Z Aq Ar As At cm cg N ca cb f cq cr g ct) ds k s (zL none 0 0) (Y ((0:Nat):Int)) w2):=⟨aj.o,Nat.le_refl _,0,[],U0,rfl,rfl,FromX.nil _ _,fun i p h=>by simp at h⟩;go_upto_region 15 with fail;go_loopw [7,66] (fun v7 v66 wr=>RelGs X w w2 (stCells s V U M O T Z Aq Ar As At cm cg N ca cb f cq cr g ct) ds k s v7 v66 wr) (fun _ v66 _=>s.frm.length-(intOf v66).toNat);case atStart=>exact bu.o
  case round =>
   obtain⟨S,a6,j,ps,hj,rfl,cj,hF,av⟩:=hrel;have aa:=zH S;have ao:=zH hF;have ap:=zH av;have dp:=aj.o.2.2.2;have ae:=zH cj;clear S hF av bu y7 cj;obtain⟨VA,ck,rfl,_⟩:=ao.o.form;by_cases au:j<s.frm.length
   . obtain ⟨bf,of,rfl,ar,b6⟩ := c7.o.at_ (k := j) au;obtain ⟨a,a8⟩:∃ a,zK (s.frm[j]?=some a):=⟨_,List.getElem?_eq_getElem au⟩;(have b0:s.frm.getD j 0=a:=by have:=a8.o;simp [List.getD,this]);rw [b0] at b6;clear b0;have y9:wr.cell? (zA bf (of+j))=some (Y a):=(aa.o.2.1.cell (p:=(zA bf (of+j))) ar).trans b6;have j8:(0:Int)<=(j:Int):=U0;have j9:(j:Int)<(s.frm.length:Int):=U0;by_cases n0:a<0
     . go_wp2;go_ret;exact⟨_,rfl,aa.o.2.1,fun h=>by cases h⟩
     by_cases n1:(k:Int)<=a
     . go_wp2;go_ret;exact⟨_,rfl,aa.o.2.1,fun h=>by cases h⟩
     obtain⟨t,rfl⟩:∃t:Nat,a=t:=⟨a.toNat,U0⟩;have dw:t<k:=U0;have ax:t<ds.length:=U0;obtain⟨b5,o5,cp,e5,d2,Q,ac⟩:=(HA.o.keep L.o aa.o.2.1).at_ ax;have ci:ds[t]?=some (ds[t]'ax):=List.getElem?_eq_getElem ax;generalize ds[t]'ax=p at *;injection e5 with e5;injection e5 with e6 e7;subst e6;subst e7;have b7:=(L.o.stc ac).len;have dr:=(L.o.stc ac).one;have dg:=zH Q;obtain⟨x0,x1,x2,x3,x4,x5,x6,x7,x8,x9,l,m,n,r,x,y,C,D,E,H,I,J,K,rfl⟩:=cells23 b7;obtain⟨v',w4,an,b2,a7,aq⟩:=ao.o.append L.o a6 (by have:=ae.o;omega) (L.o.more ac (Nat.le_trans aj.o.2.1.size zn)) (o:=.cells #[x0,x1,x2,x3,x4,x5,x6,x7,x8,x9,l,m,n,r,x,y,C,D,E,H,I,J,K] 40) rfl;obtain⟨dm,dn,rfl,_⟩:=aq.form;have a0:(ps++[p]).length=ps.length+1:=U2;rw[a0] at an aq;clear a0;have bt:=zH an;have dj:=zH (aa.o.low b2 dp a7);have c5:=zH aq;have bp:zK (∀(i:Nat)(q:StD),(ps++[p])[i]?=some q->∃a:Nat,s.frm[i]?=some (a:Int)/\a<k/\ds[a]?=some q):=fun i q hq=>by
      by_cases hi:i<ps.length
      . rw[List.getElem?_append_left hi] at hq;exact ap.o i q hq
      . (have cd:i=ps.length:=by have:=(List.getElem?_eq_some_iff.1 hq).1;simp at this;omega);(have dt:q=p:=by rw[cd] at hq;simpa using hq.symm);subst dt;rw[cd,ae.o];exact⟨t,a8.o,dw,ci⟩
     have du:=Nat.le_trans a6 a7;have j0:(0:Int)<=(t:Int):=U0;have j1:(t:Int)<(ds.length:Int):=U0;have j2:¬(k:Int)<=(t:Int):=U0;have j3:¬(t:Int)<0:=U0;clear Q an b2 ci b7 dr ac aq a7
     go_wp2_with (first
      |(refine wpList_load_mid rfl 40 (.tmp 80) rfl b (o+t*23) rfl [x0,x1,x2,x3,x4,x5,x6,x7,x8,x9,l,m,n,r,x,y,C,D,E,H,I,J,K] _ dg.o underlying40 rfl stepSize ?_)
      |(at_builtin;refine wpList_appD rfl (.tmp 77) (.tmp 82) 22 rfl rfl rfl bt.o ?_))
     go_roundw;case rel=>exact⟨dj.o,du,j+1,ps++[p],U0,U3,by rw[List.length_append,ae.o];rfl,c5.o,bp.o⟩
     case measure=>simp[intOf];omega
   . (obtain rfl : j = s.frm.length := by omega);have c3:zK (AccOk ds k s ps):=⟨ae.o,ap.o⟩;(have d6:ps.length<=3:=by have:=ae.o;omega);have bx:zK (RelGt X w w2 (stCells s V U M O T Z Aq Ar As At cm cg N ca cb f cq cr g ct) ps (zL VA ps.length ck) (Y ((0:Nat):Int)) wr):=⟨aa.o,a6,ao.o,0,U0,rfl,fun i p h=>U0⟩;go_upto_region 22 with fail;go_loopw [87] (fun v87 wr=>RelGt X w w2 (stCells s V U M O T Z Aq Ar As At cm cg N ca cb f cq cr g ct) ps (zL VA ps.length ck) v87 wr) (fun v87 _=>ps.length-(intOf v87).toNat);case atStart=>exact bx.o
     case round =>
      obtain⟨S,aw,hF,j,hj,rfl,b9⟩:=hrel;have ak:=zH S;have ag:=zH hF;have a4:=zH b9;clear S hF b9 aa ao bx;by_cases au:j<ps.length
      . obtain ⟨p,hp⟩ : ∃ p,ps[j]? = some p := ⟨_,List.getElem?_eq_getElem au⟩;obtain ⟨dm,dn,e',hR⟩:=ag.o.form;obtain ⟨R,e2,d0,d1,d4⟩:=hR U0;injection e' with e3 e4 e5;subst e2;subst e3;subst e5;obtain ⟨cp,Q,ac⟩:=ag.o.range hp;have ad:=L.o.stc ac;(have cl:p.ok:=by obtain ⟨a,_,_,ha⟩:=ap.o j p hp;exact HK.o _ (List.mem_of_getElem? ha));have db:=zH cl;have dd:=zH hp;have bn:=zH (ad.more aw);have bh:=zH Q;have az:∀ u∈cp,u.oneCell'=true:=ad.one;obtain ⟨x0,x1,x2,x3,x4,x5,x6,x7,x8,x9,l,m,n,r,x,y,C,D,E,H,I,J,K,rfl⟩:=cells23 ad.len;(have bm:zK (#[x0,x1,x2,x3,x4,x5,x6,x7,x8,x9,l,m,n,r,x,y,C,D,E,H,I,J,K].all (·.oneCell')=true):=by show _=_;rw [Array.all_eq_true'];exact fun u hu=>az u (by simpa using hu));have af:zK (zB wr (wr.alloc (.cells #[x0,x1,x2,x3,x4,x5,x6,x7,x8,x9,l,m,n,r,x,y,C,D,E,H,I,J,K] 40))):=zV.alloc zn _;have bo:=zH (bn.o.lift af.o);have bz:=zH (ak.o.grow af.o);have bc:=zH (ag.o.grow L.o aw af.o);have co:=Nat.le_trans aw af.o.size;have bi:zK ((wr.alloc (.cells #[x0,x1,x2,x3,x4,x5,x6,x7,x8,x9,l,m,n,r,x,y,C,D,E,H,I,J,K] 40)).rangeAt wr.heap.size 0 [x0,x1,x2,x3,x4,x5,x6,x7,x8,x9,l,m,n,r,x,y,C,D,E,H,I,J,K]):=range_of_row (heap_alloc_new _ _);have ba:=zH (formed_g p [x0,x1,x2,x3,x4,x5,x6,x7,x8,x9,l,m,n,r,x,y,C,D,E,H,I,J,K] _ bo.o db.o);have j8:(0:Int)<=(j:Int):=U0;have j9:(j:Int)<(ps.length:Int):=U0;clear af hp cl az Q ac ad
        go_upto_region 24 with(first
         |(refine wpList_load_mid rfl 40 (.tmp 89) rfl R (j*23) rfl [x0,x1,x2,x3,x4,x5,x6,x7,x8,x9,l,m,n,r,x,y,C,D,E,H,I,J,K] _ bh.o underlying40 rfl stepSize ?_)
         |(refine qaH rfl 40 (.tmp 11) (.tmp 90) rfl wr _ #[x0,x1,x2,x3,x4,x5,x6,x7,x8,x9,l,m,n,r,x,y,C,D,E,H,I,J,K] rfl rfl stepSize rfl bm.o ?_))
        generalize (wr.alloc (.cells #[x0,x1,x2,x3,x4,x5,x6,x7,x8,x9,l,m,n,r,x,y,C,D,E,H,I,J,K] 40))=W6 at *;go_wp2_with (refine wpList_load_mid rfl 40 (.tmp 11) rfl wr.heap.size 0 rfl [x0,x1,x2,x3,x4,x5,x6,x7,x8,x9,l,m,n,r,x,y,C,D,E,H,I,J,K] _ bi.o underlying40 rfl stepSize ?_);refine ba.o.mono ?_;rintro e w7 ⟨rfl,hb7⟩;have al:=zH (bz.o.grow hb7);have c6:=zH (bc.o.grow L.o co hb7);have dv:=Nat.le_trans co hb7.size;clear hb7 ba ak bh bn bz bo bc bi ag;by_cases hz:formZ p=0
        . have bg : zK (∀ (i : Nat)(q : StD),i < j + 1 -> ps[i]? = some q -> formZ q = 0) := fun i q hi hq => by
           by_cases e:i=j
           . subst e;rw[dd.o] at hq;injection hq with hq;rw[<- hq];exact hz
           . exact a4.o i q U0 hq
          rw[hz];clear hz;go_wp2;go_roundw;case rel=>exact⟨al.o,dv,c6.o,j+1,U0,U3,bg.o⟩
          case measure=>simp[intOf];omega
        . have d7:(formZ p != 0)=true:=bne_iff_ne.2 hz;clear hz a4;generalize formZ p=zp at *;go_wp2;go_ret;exact⟨_,rfl,al.o.2.1,fun h=>by cases h⟩
      . (obtain rfl : j = ps.length:=by omega);have bq:=zH ak.o.range;(have a5:∀p∈ps,p.ok/\formZ p=0:=fun p hp=>by obtain⟨i,hi,e⟩:=List.mem_iff_getElem.1 hp;(have ce:ps[i]?=some p:=by rw[<- e];exact List.getElem?_eq_getElem hi);obtain⟨a,_,_,ha⟩:=ap.o i p ce;exact⟨HK.o _ (List.mem_of_getElem? ha),a4.o i p hi ce⟩);have de:zK (∀p∈ps,formZ p=0):=fun p hp=>(a5 p hp).2;have be:=zH (bd.o ps _ w2.heap.size wr ak.o.2.1 aw ag.o a5 (by have:=ah.o;have:=ae.o;omega));clear a5;go_wp2_with (refine wpList_load_mid rfl 40 (.tmp 5) rfl w.heap.size 0 rfl (stCells s V U M O T Z Aq Ar As At cm cg N ca cb f cq cr g ct) _ bq.o underlying40 rfl stepSize ?_);go_fit be.o;rintro e w7 ⟨bb,rfl,hb7,hd⟩;have al:=zH (ak.o.grow hb7);have HD:=zH hd;clear hb7 hd be bq;cases bb
        . go_wp2;go_ret;exact⟨_,rfl,al.o.2.1,fun h=>by cases h⟩
        . have da:zK (∃(s:StD)(ps:List StD),ds[k]?=some s/\AccOk ds k s ps/\formZ s=0/\(∀p∈ps,formZ p=0)/\P s ps):=⟨s,ps,dh.o,c3.o,c4.o,de.o,HD.o rfl⟩;go_wp2;go_ret;exact⟨_,rfl,al.o.2.1,fun _=>da.o⟩
theorem qcN{X:Wo->Nat->StD->List Value->Prop}(s:StX X)(P:StD->List StD->Prop)(i:Nat)(n:i<=3)(f:List StD)(A:OA)(c k:Nat)(w:Wo)(r:StsX X w w.heap.size A f)(t:∀d∈f,d.ok)(u:f.length<=1000)(g:k<f.length)(o:¬(f[k]'g).rule<0)(l:¬20<=(f[k]'g).rule)(j:¬(f[k]'g).rule=14)(_:¬(f[k]'g).rule=18)(h:∀W:Wo,zC 16 #[Y (f[k]'g).rule] W fun e w'=>e=.returned (Y (i:Int))/\W=w')(m:∀(cs:List Value)(ps:List StD)(v:Value)(B:Nat)(W:Wo),X W W.heap.size (f[k]'g) cs->B<=W.heap.size->FromX X W B v ps->(∀p∈ps,p.ok/\formZ p=0)->ps.length=i->formZ (f[k]'g)=0->zC 17 #[.agg cs.toArray,v] W fun e w'=>∃b,e=.returned (.bool b)/\zB W w'/\(b=true->P (f[k]'g) ps)):
 zC 7 #[zL A f.length c,Y k] w (AccPost w f k P):=
 checkstep_u s P i n f A c k w r t u g o l j h fun cs ps v B W h1 h2 h3 h4 h5 h6 _=>m cs ps v B W h1 h2 h3 h4 h5 h6
end Go.Proofs.YtkcdlealipfnbaaGreat
