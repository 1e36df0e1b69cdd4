/- Parts of the proof. -/
import Derived.Test.YtocbdafcolbfeaaGreatR29
set_option maxRecDepth 100000
set_option maxHeartbeats 8000000
namespace Go.Proofs.YtocbdafcolbfeaaGreat
open Go.RowKit Pln Go.Proofs.Tryz
def SolI(O:Ops)(q n:Nat)(M0:LL)(c:Nat)(rows:LL):Prop:=Grid q n (n+1) rows/\UnitC n c rows/\NulEq O q n M0 rows
def RelSo1(w:Wo)(B R n q:Nat)(O:Ops)(M0:LL)(v20:Value)(wr:Wo):Prop:=∃(c:Nat)(rows:LL)(bs:List (Nat × Nat)),c<=n/\v20=Y (c:Int)/\GridAt wr B R n rows bs/\SolI O q n M0 c rows/\Below B w wr
def RelSo2(w:Wo)(B R n q:Nat)(O:Ops)(M0:LL)(c k:Nat)(v8:Value)(wr:Wo):Prop:=v8=Y (k:Int)/\∃(rows:LL)(bs:List (Nat × Nat)),GridAt wr B R n rows bs/\SolI O q n M0 c rows/\at2 rows c c≠0/\Below B w wr
def RelSo3(w:Wo)(B R n q:Nat)(O:Ops)(M0:LL)(c:Nat)(v80:Value)(wr:Wo):Prop:=∃(i:Nat)(rows:LL)(bs:List (Nat × Nat)),i<=n/\v80=Y (i:Int)/\GridAt wr B R n rows bs/\SolI O q n M0 c rows/\at2 rows c c=1/\(∀k,k<i->k≠c->at2 rows k c=0)/\Below B w wr
def RelSo5(w:Wo)(B R n g:Nat)(rows:LL)(bs:List (Nat × Nat))(v133:Value)(wr:Wo):Prop:=∃k:Nat,k<=n/\v133=Y (k:Int)/\Row wr B g n (nz (scK (fun i=>at2 rows i n) (List.range n) k))/\GridAt wr B R n rows bs/\Below B w wr
def SolPost(w:Wo)(B:Nat)(O:Ops)(q n:Nat)(M0:LL)(e:Ending)(w':Wo):Prop:=
 (e=.returned (.tuple #[zL none 0 0,.bool false])\/∃(g:Nat)(out:LN),e=.returned (.tuple #[zS g n n,.bool true])/\Row w' B g n (nz out)/\Dv.Ok q n out/\Solv O q n M0 out)/\Below B w w'
theorem GridAt.swap2{w:Wo}{B R d:Nat}{rows:LL}{b:List (Nat × Nat)}(h:GridAt w B R d rows b){i j:Nat}(c:i<rows.length)(f:j<rows.length):
 ∃bs',GridAt ((w.setCell (zA R i) (hdr rows b j)).setCell (zA R j) (hdr rows b i)) B R d (swapRows rows i j) bs':=by
 by_cases e:i=j
 . subst e;exact⟨b,by rw[swap_self rows i c];exact(h.same c).same c⟩
 . exact⟨_,h.swap c f e⟩
theorem solI_swap{O:Ops}{q n:Nat}{i rows:LL}{c k:Nat}(h:SolI O q n i c rows)(j:c<n)(l:k<n)(g:c<=k)(m:at2 rows k c≠0):SolI O q n i c (swapRows rows c k)/\at2 (swapRows rows c k) c c≠0:=by obtain⟨b,d,f⟩:=sol_swap h.1 h.2.1 j l g m;exact⟨⟨b,d,h.2.2.trans (nul_swap h.1.1 j l)⟩,f⟩
theorem solI_scale{O:Ops}{q n:Nat}{i rows:LL}{c:Nat}(l:Al.Fld q O)(h:SolI O q n i c rows)(k:c<n)(j:at2 rows c c≠0):SolI O q n i c (rows.set c (scaleRow O (O.inv (at2 rows c c)) (rows.getD c [])))/\at2 (rows.set c (scaleRow O (O.inv (at2 rows c c)) (rows.getD c []))) c c=1:=by obtain⟨b,d,f,g⟩:=sol_scale l h.1 h.2.1 k j;exact⟨⟨b,d,h.2.2.trans g⟩,f⟩
theorem solI_clear{O:Ops}{q n:Nat}{l rows:LL}{c i:Nat}(p:Al.Fld q O)(h:SolI O q n l c rows)(o:c<n)(m:at2 rows c c=1)(r:i<n)(j:i≠c)(s:∀k,k<i->k≠c->at2 rows k c=0):SolI O q n l c (rows.set i (List.zipWith (subF O (at2 rows i c)) (rows.getD i []) (rows.getD c [])))/\at2 (rows.set i (List.zipWith (subF O (at2 rows i c)) (rows.getD i []) (rows.getD c []))) c c=1/\∀k,k<i+1->k≠c->at2 (rows.set i (List.zipWith (subF O (at2 rows i c)) (rows.getD i []) (rows.getD c []))) k c=0:=by
 obtain⟨d,f,b,g⟩:=sol_clear p h.1 h.2.1 o m r j;refine⟨⟨d,f,h.2.2.trans g⟩,by rw[b,if_neg (fun e=>j e.symm)];exact m,fun k hk hkc=>?_⟩;rw[b];by_cases e:k=i
 . rw[if_pos e]
 . rw[if_neg e];exact s k U0 hkc
theorem solI_next{O:Ops}{q n:Nat}{d rows:LL}{c:Nat}(h:SolI O q n d c rows)(f:at2 rows c c=1)(g:∀ k,k<n->k≠c->at2 rows k c=0):SolI O q n d (c+1) rows:=⟨h.1,fun i j hi hj=>by
 by_cases e:j=c
 . subst e
   by_cases b:i=j
   . rw[if_pos b,b];exact f
   . rw[if_neg b];exact g i hi b
 . exact h.2.1 i j hi U0,h.2.2⟩
theorem solve_c(gb B p m R n:Nat)(md l:LN)(M0:LL)(f2:List (Nat × Nat))(w:Wo)(hF:FT p m md l)(hG:GFAt w B gb p m l (logL l (p ^ m)))(hB:B<=w.heap.size)(hD:GridAt w B R n M0 f2)(f3:Grid (p ^ m) n (n+1) M0)(hn:n<=64):
 zC 228 #[zP gb,zS R n n] w (SolPost w B (opsT p m l) (p^m) n M0):=by
 have a2:=zH (Al.fld_of hF);have fx:=a2.o.q1;obtain⟨I,c9⟩:∃I,I=n+1:=⟨_,rfl⟩;have D:=zH<|c9.symm
 have bb:zK (RelSo1 w B R n (p^m) (opsT p m l) M0 (Y ((0:Nat):Int)) w):=⟨0,M0,f2,U0,rfl,hD,⟨f3,fun i j _ hj=>absurd hj (Nat.not_lt_zero j),nulEq_refl _ _ _ _⟩,Below.refl _ _⟩;have ch:zK (∀(W:Wo)(x:Nat),Below B w W->x<p^m->x≠0->zC 101 (Ct gb x) W (Quiet (.tuple (D7 (((opsT p m l).inv x:Nat):Int))) W)):=fun W x hW hx h0=>inv_c x gb p m B md l W hF (hG.keep hW) hx h0;have ck:zK (∀(W:Wo)(a b:Nat),Below B w W->a<p^m->b<p^m->zC 142 (Cf gb a b) W (Quiet (Y (((opsT p m l).mul a b:Nat):Int)) W)):=fun W a b hW ha hb=>mul_c a b gb p m B md l W hF (hG.keep hW) ha hb;have ct:=zH<|fun W a b hW hs ha hb=>sub_c a b gb p m B md l W hF (hG.keep hW) hs ha hb
 have d4:zK (∀(W:Wo)(a b c:Nat)(v:LN),Below B w W->B<=W.heap.size->a<p^m->Dv.Ok (p^m) I v->Row W B b c (nz v)->zC 75 #[zP gb,Y (a:Int),zS b I c] W fun e w'=>(∃g,e=.returned (zS g I I)/\Row w' W.heap.size g I (nz (scaleRow (opsT p m l) a v)))/\zB W w'):=fun W a b c v hW hs ha hv hr=>by have:=scale_c a gb p m md l v (zO b) c W hF ((hG.keep hW).more hs) ha hv.2 (hr.ints hr.lt.2) (by rw[hv.1];omega);rw[hv.1] at this;exact this.mono fun e w' ⟨h1,h2,h3⟩=>⟨⟨_,h1,h2⟩,h3⟩
 have dx:zK (∀a b,a<p^m->b<p^m->(opsT p m l).mul a b<p^m):=fun a b ha hb=>mulT_lt hF ha hb;have da:0<p^m:=U0;obtain⟨zo,a8,db⟩:=makeN n U0;have dy:=zH a8;have d2:=zH db;clear hF hG hD f3 c9 a8 db;generalize opsT p m l=O at *;generalize p^m=q at *;have HB:=zH hB;go_enter func228,ntmps228;go_wp2;go_loopw [20] (fun v20 wr=>RelSo1 w B R n q O M0 v20 wr) (fun v20 _=>n-(intOf v20).toNat);case atStart=>exact bb.o
 case round =>
  obtain⟨c,rows,bs,hc,rfl,z,E,J⟩:=hrel;have s:=zH z;have M:=zH E;have P:=zH J;have T:=zH<|E.1.1
  clear z E J bb;by_cases K:c<n
  . (have c0 : (0 : Int) <= (c : Int) := by omega);have c1:(c:Int)<(n:Int):=U0;(have c2:(c:Int)<(I:Int):=by have:=D.o;omega);have an:c<n+1:=U0;go_upto_block 2 with fail;go_cut [8] (fun v8 wx=>(∃ k:Nat,v8=Y (k:Int)/\c<=k/\k<=n/\(k<n->at2 rows k c≠0))/\wx=wr);case first =>
     go_wp2;go_loop [8] (fun v8=>∃k:Nat,v8=Y (k:Int)/\c<=k/\k<=n) (fun v8=>n-(intOf v8).toNat);case atStart=>exact⟨c,rfl,U0,U0⟩
     case round =>
      obtain⟨k,rfl,a6,b2⟩:=hrel;by_cases au:k<n
      . have b7 := T.o;have yh:=s.o.cell (i:=k) U0;have ac:=(M.o.1.row au).1;rw [ac,D.o] at yh;have ye:=(s.o.row k U0).cell (j:=c) (by rw [qaA,ac];exact an);rw [qaC] at ye;have ce:zK ((rows.getD k []).getD c 0=at2 rows k c):=rfl;rw [ce.o] at ye;clear b7 ac ce;have k0:(0:Int)<=(k:Int):=U0;have k1:(k:Int)<(n:Int):=U0;by_cases hz:at2 rows k c=0
        . rw[hz] at ye;clear hz;go_wp2;go_round;case rel=>exact⟨k+1,gn,U0,U0⟩
          case measure=>simp[intOf];omega
        . (have fz:(((at2 rows k c:Nat):Int)==0)=false:=by simpa using hz);have HZ:=zH hz;clear hz;go_wp2;go_meet;exact⟨⟨k,rfl,a6,b2,fun _=>HZ.o⟩,rfl⟩
      . (obtain rfl:k=n:=by omega);go_wp2;go_meet;exact⟨⟨_,rfl,a6,b2,fun h=>absurd h (Nat.lt_irrefl _)⟩,rfl⟩
    case rest =>
     obtain⟨⟨k,rfl,a6,b2,c7⟩,rfl⟩:=hcut;have bq:=zH c7;clear c7;by_cases fo:k=n
     . subst fo;clear bq;go_wp2;go_ret2;exact⟨.inl rfl,P.o⟩
     . (have b1 : k < n := by omega);(have fn:(((k:Nat):Int)==(n:Int))=false:=by rw [beq_eq_false_iff_ne];omega);obtain ⟨bj,bm⟩:=solI_swap M.o K b1 a6 (bq.o b1);have br:=zH bj;have bt:=zH bm;have b7:=T.o;have ax:=s.o.swap2 (i:=c) (j:=k) U0 U0;have A:=(M.o.1.row K).1;have b3:=(M.o.1.row b1).1;have yk:=s.o.cell (i:=k) U0;have yt:=s.o.cell (i:=c) U0;(have bz:∀ i,(rows.getD i []).length=n+1->hdr rows bs i=zS (bk bs i) I (cp bs i):=fun i hi=>by unfold hdr;rw [hi,D.o]);rw [bz c A,bz k b3] at ax;rw [b3,D.o] at yk;rw [A,D.o] at yt;have bw:=zH ax;have k0:(0:Int)<=(k:Int):=U0;have k1:(k:Int)<(n:Int):=U0;have ft:=s.o.frozen c;have fk:=s.o.frozen k;have a1:=zH s.o.lt.1;clear bj bm ax A b3 bz b7 bq M s T;generalize swapRows rows c k=ay at *;go_upto_region 10 with fail;go_cut [8] (fun v8 wx=>RelSo2 w B R n q O M0 c k v8 wx);case first =>
        by_cases dj:c=k
        . subst dj;go_region
          all_goals
           obtain⟨al,aw⟩:=bw.o
           have HX:=zH (aw.drewN 1)
           clear aw yk yt ft fk
           go_wp2
           go_meet
           exact⟨rfl,ay,al,HX.o,br.o,bt.o,((P.o.setCell (p:=(zA R c)) a1.o _).setCell (p:=(zA R c)) a1.o _).drew⟩
        . have fw : k ≠ c := fun e => dj e.symm;go_region
          all_goals
           obtain⟨al,aw⟩:=bw.o
           have HX:=zH (aw.drewN 1)
           clear aw yk yt ft fk
           go_wp2
           go_meet
           exact⟨rfl,ay,al,HX.o,br.o,bt.o,((P.o.setCell (p:=(zA R c)) a1.o _).setCell (p:=(zA R k)) a1.o _).drew⟩
       case rest =>
        obtain⟨rfl,r,cw,z,E,b9,J⟩:=hcut;have s:=zH z;have M:=zH E;have fa:=zH b9;have ah:=zH J;(have T:=zH<|E.1.1);have A:=(E.1.row K).1;(have a7:c<r.length:=by rw[T.o];exact K);have yt:=z.cell a7;rw[A,D.o] at yt;have ye:=(z.row c a7).cell (j:=c) (by rw[qaA,A];exact an);rw[qaC,show(r.getD c []).getD c 0=at2 r c c from rfl] at ye;have hx:=E.1.at_ K an;have ar:=a2.o.invL _ hx b9;obtain⟨dd,de⟩:=solI_scale a2.o E K b9;have bd:=zH dd;have be:=zH de;(have cl:zK (Dv.Ok q I (r.getD c [])):=by have:=E.1.row K;rw[D.o] at this;exact this);have cy:=z.lt.2;have cx:=z.lt.1;have ag:B<=wc.heap.size:=U0;have ft:=z.frozen c;(have dg:(scaleRow O (O.inv (at2 r c c)) (r.getD c [])).length=I:=by unfold scaleRow;rw[List.length_map,A,D.o]);(have ba:zK (∀(W:Wo)(g:Nat),zB wc W->Row W wc.heap.size g I (nz (scaleRow O (O.inv (at2 r c c)) (r.getD c [])))->∃al,GridAt (W.setCell (zA R c) (zS g I I)) B R n (r.set c (scaleRow O (O.inv (at2 r c c)) (r.getD c []))) al):=fun W g hW hr=>by have:=(s.o.grow hW).put a7 (g:=g) (c:=I) (hr.base (by have:=hr.lt.1;omega)) (fun j hj=>by have:=(s.o.row j hj).lt.2;have:=hr.lt.1;omega);rw[dg] at this;exact⟨_,this⟩);have ab:=zH (z.row c a7);clear z E J A dd de dg br bt bw P yk fk fn;generalize at2 r c c=x at *;have dw:=zH (ch.o wc x ah.o hx fa.o);generalize O.inv x=iv at *;generalize dh:scaleRow O iv (r.getD c [])=sr at *;have d5:=zH dh;clear dh;generalize bk cw c=bc at *;generalize cp cw c=cc at *;go_wp2_with fail;go_fit dw.o;rintro e2 w2 ⟨rfl,n2,rfl⟩;have az:zK (zB wc (wc.drewN n2)):=qaB zV n2;have fp:(wc.drewN n2).cell? (zA R c)=some (zS bc I cc):=yt;(have cr:=zH<|ab.o.below az.o ab.o.lt.2);have ae:zK (wc.heap.size=(wc.drewN n2).heap.size):=rfl;generalize c3:wc.drewN n2=w2 at *;have d9:=zH c3;clear c3;go_wp2_with fail;(with_reducible refine(d4.o w2 iv bc cc _ (ah.o.trans (az.o.mono ag)) (by rw[<- ae.o];exact ag) ar cl.o cr.o).mono ?_);rintro e3 w3 ⟨⟨g,rfl,hr3⟩,hb3⟩;rw[<- ae.o,d5.o] at hr3;change Below _ _ _ at hb3;rw[<- ae.o] at hb3;(have a0:=zH<|az.o.trans hb3);have fq:=(a0.o.cell (p:=(zA R c)) cy).trans yt;have ff:=(a0.o.frozen (p:=(zA R c)) cy).trans ft;obtain⟨fe,c4⟩:=ba.o w3 g a0.o hr3;have ai:zK (RelSo3 w B R n q O M0 c (Y ((0:Nat):Int)) (w3.setCell (zA R c) (zS g I I))):=⟨0,_,fe,U0,rfl,c4,bd.o,be.o,fun k hk=>absurd hk (Nat.not_lt_zero k),(ah.o.trans (a0.o.mono ag)).setCell (p:=(zA R c)) cx _⟩;clear hr3 hb3 c4 yt fp ft az cr ae d9 ye hx ar ba cl ab bd be;go_wp2;go_loopw [80] (fun v80 wr=>RelSo3 w B R n q O M0 c v80 wr) (fun v80 _=>n-(intOf v80).toNat);case atStart=>exact ai.o
        case round =>
         obtain⟨i,d,H,hi,rfl,z,E,bh,bn,J⟩:=hrel;have y:=zH z;have C:=zH E;have S:=zH bh;have V:=zH bn;have ad:=zH J;(have ak:=zH<|E.1.1);(have bf:B<=wr.heap.size:=by have:=z.lt;omega);clear z E bh bn J ai fq ff;by_cases aq:i<n
         . (have ap : i < d.length := by rw [ak.o];exact aq);(have ao:c<d.length:=by rw [ak.o];exact K);have X:=(C.o.1.row aq).1;have A:=(C.o.1.row K).1;have yi:=y.o.cell ap;rw [X,D.o] at yi;have cd:=(y.o.row i ap).cell (j:=c) (by rw [qaA,X];exact an);rw [qaC,show (d.getD i []).getD c 0=at2 d i c from rfl] at cd;have bx:=C.o.1.at_ aq an;have i0:(0:Int)<=(i:Int):=U0;have i1:(i:Int)<(n:Int):=U0;by_cases b0:i=c
           . subst b0;have fm:(((i:Nat):Int) != (i:Int))=false:=U2;clear X A;go_wp2;go_roundw;case rel=>exact⟨i+1,d,H,U0,gn,y.o,C.o,S.o,fun k hk hkc=>V.o k U0 hkc,ad.o⟩
             case measure=>simp[intOf];omega
           . (have fm : (((i : Nat) : Int) != (c : Int)) = true := by rw [bne_iff_ne];omega);by_cases a5:at2 d i c=0
             . have dm := zH a5;rw [a5] at cd;clear a5 X A bx;go_wp2;go_roundw
               case rel=>exact⟨i+1,d,H,U0,gn,y.o,C.o,S.o,fun k hk hkc=>by
                by_cases e:k=i
                . rw[e];exact dm.o
                . exact V.o k U0 hkc,ad.o⟩
               case measure=>simp[intOf];omega
             . (have fv : (((at2 d i c : Nat) : Int) != 0) = true := by rw [bne_iff_ne];omega);have yc:=y.o.cell ao;rw [A,D.o] at yc;have a9:=y.o.row i ap;have b6:=y.o.row c ao;obtain ⟨hS,hO,hZ⟩:=solI_clear a2.o C.o K S.o aq b0 V.o;have d6:=zH hS;have d0:=zH hO;have fb:=zH hZ
               have d7:zK (∀W:Wo,Row W B (bk H i) (cp H i) (nz (List.zipWith (subF O (at2 d i c)) (d.getD i []) (d.getD c [])))->wr.grownBy W (some (bk H i))->GridAt W B R n (d.set i (List.zipWith (subF O (at2 d i c)) (d.getD i []) (d.getD c []))) H):=fun W h1 h2=>
                y.o.turn ap (by rw[List.length_zipWith,X,A,Nat.min_self]) h1 h2
               (have dv:=zH<|y.o.nd i c ap ao b0);(have d1:=zH<|y.o.ne a9);(have a3:zK ((d.getD i []).length=(d.getD c []).length):=by show _=_;rw[X,A]);(have d3:zK ((d.getD i []).length=I):=by show _=_;rw[X,D.o]);(have cn:=zH<|(C.o.1.row aq).2);(have cm:=zH<|(C.o.1.row K).2);have dp:=zH a9.lt;have dn:=zH b6.lt;have cz:=y.o.lt.2;(have cf:=zH<|fun j hj=>by have:=b6.cell (j:=j) (by rw[qaA,A,D.o];exact hj);rw[qaC] at this;exact this);have cq:zK (RelRe wr B (bk H i) (cp H i) (subF O (at2 d i c)) (d.getD i []) (d.getD c []) (Y ((0:Nat):Int)) wr):=⟨0,U0,rfl,by rw[zwK_zero];exact a9,World.grownBy.refl _ _⟩;obtain⟨wb,rfl⟩:∃wb,wb=wr:=⟨wr,rfl⟩;clear a9 b6 hS hO hZ X A a5 y C S V ak;generalize at2 d i c=a at *;generalize d.getD i []=L at *;generalize d.getD c []=aa at *;generalize bk H i=bi at *;generalize cp H i=ci at *;generalize bk H c=fc at *;generalize cp H c=fu at *;go_wp2;go_loopw [102] (fun v102 wx=>RelRe wb B bi ci (subF O a) L aa v102 wx) (fun v102 _=>I-(intOf v102).toNat);case atStart=>exact cq.o
               case round =>
                obtain⟨t,ht,rfl,Z,bg⟩:=hrel;have Q:=zH Z;have N:=zH bg;clear Z bg cq;have c5:=d3.o;(have fs:I<=65:=by have:=D.o;omega);(have bp:=zH<|ad.o.grown N.o bf (fun k hk=>by injection hk with hk;have:=dp.o.1;omega));have fj:=Nat.le_trans bf N.o.size;by_cases c8:t<I
                . (have di : t < L.length := by omega);have f1:=(N.o.cell_far (zA R i) cz (fun e=>by injection e with e;exact d1.o e.symm)).trans yi;have f0:=(N.o.cell_far (zA fc t) dn.o.2 (fun e=>by injection e with e;exact dv.o e.symm)).trans (cf.o t c8);have yg:=Q.o.cell (j:=t) (by rw [qaA,zwK_len a3.o U0];omega);rw [qaC,zwK_at a3.o di] at yg;have fg:=Q.o.frozen t;have a4:=zH (zwK_set (f:=subF O a) a3.o di);have ha:=Al.getD_ok cn.o da t;have hb:=Al.getD_ok cm.o da t;have t0:(0:Int)<=(t:Int):=U0;have t1:(t:Int)<(I:Int):=U0;have cs:zK (subF O a (L.getD t 0) (aa.getD t 0)=O.add (L.getD t 0) (O.neg (O.mul a (aa.getD t 0)))):=rfl;rw [cs.o] at a4;clear c5 yi cd yc cf;generalize L.getD t 0=av at *;generalize aa.getD t 0=bv at *;(have HM:zK (∀ W,SDrew wr W->zC 142 (Cf gb a bv) W fun e w'=>e=.returned (Y ((O.mul a bv:Nat):Int))/\SDrew wr w'):=fun W ⟨n',hW⟩=>by subst hW;refine (ck.o _ a bv (qaB bp.o n') bx hb).mono ?_;rintro e w' ⟨he,k,rfl⟩;exact ⟨he,n'+k,V0⟩);have cj:=dx.o a bv bx hb;(have HS:zK (∀ W,SDrew wr W->zC 76 (Cf gb av ((O.mul a bv:Nat):Int)) W fun e w'=>e=.returned (Y ((O.add av (O.neg (O.mul a bv)):Nat):Int))/\SDrew wr w'):=fun W ⟨n',hW⟩=>by subst hW;refine (ct.o _ av _ (qaB bp.o n') fj ha cj).mono ?_;rintro e w' ⟨he,k,rfl⟩;exact ⟨he,n'+k,V0⟩);clear cs cj;go_upto_region 21 with fail;refine qaI 19 (SDrew wr) U1 U1 ⟨1,rfl⟩ ?_;simp only [List.take_succ_cons,List.take_zero,List.drop_succ_cons,List.drop_zero]
                  repeat (first
                   | (apply qaJ rfl
                      . intro W hS
                        obtain⟨n',rfl⟩:=hS
                        go_simp
                        rfl
                      go_simp)
                   | (apply qaO rfl
                      . intro W hS
                        go_simp
                        exact⟨rfl,rfl⟩
                      . intro W hS
                        first
                         |exact HM.o W hS
                         |exact HS.o W hS
                      go_simp))
                  refine qaE ?_;intro w2 fi;obtain⟨n',rfl⟩:=fi;generalize O.add av (O.neg (O.mul a bv))=zv at *;go_wp2;go_roundw;case rel=>refine⟨t+1,U0,gn,?_,grown_trans (grown_trans N.o (grown_drewN wr n' _)) (grown_set _ (zA bi t) _)⟩;rw[<- a4.o,<- qbC];exact Row.set (w:=wr.drewN n') Q.o t _
                  case measure=>simp[intOf];omega
                . (have dl : t = L.length:=by omega);(have ds:zK (Row wr B bi ci (nz (List.zipWith (subF O a) L aa))):=by have:=Q.o;rw[dl,zwK_all a3.o] at this;exact this);have fy:t=I:=U0;have fr:¬(t:Int)<(I:Int):=U0;clear dl c5;go_wp2;go_roundw;case rel=>exact⟨i+1,_,H,U0,gn,d7.o wr ds.o N.o,d6.o,d0.o,fb.o,bp.o⟩
                  case measure=>simp[intOf];omega
         . (obtain rfl : i = n:=by omega);go_wp2;go_roundw;case rel=>exact⟨c+1,d,H,U0,gn,y.o,solI_next C.o S.o (fun k hk hkc=>V.o k hk hkc),ad.o⟩
           case measure=>simp[intOf];omega
  . (obtain rfl : c = n := by omega);(have d8:=zH<|M.o.2.1);(have dz:=zH<|M.o.2.2);(have bu:=zH<|M.o.1);have cx:=s.o.lt.1;(have ag:B<=wr.heap.size:=by have:=s.o.lt;omega);have bo:zK (zB wr (wr.alloc (.cells zo 3))):=zV.alloc zn _
    have aj:zK (RelSo5 w B R c wr.heap.size rows bs (Y ((0:Nat):Int)) (wr.alloc (.cells zo 3))):=⟨0,U0,rfl,by
     have e:scK (fun i=>at2 rows i c) (List.range c) 0=List.replicate c 0:=by simp[scK]
     rw[e]
     exact d2.o wr B ag,s.o.grow bo.o,P.o.trans (bo.o.mono ag)⟩
    have a8:=dy.o;(have dt:zK (∀i,i<c->bk bs i≠wr.heap.size):=fun i hi=>by have:=(s.o.row i (by rw[T.o];exact hi)).lt.2;omega);(have fh:R≠wr.heap.size:=by have:=s.o.lt.2;omega);clear M s P bo;go_upto_region 26 with fail;clear a8;generalize wr.alloc (.cells zo 3)=w6 at *;generalize wr.heap.size=g at *;go_wp2;go_loopw [133] (fun v133 wr=>RelSo5 w B R c g rows bs v133 wr) (fun v133 _=>c-(intOf v133).toNat);case atStart=>exact aj.o
    case round =>
     obtain⟨k,hk,rfl,Z,z,J⟩:=hrel;have U:=zH Z;have s:=zH z;have P:=zH J;clear Z z J aj;by_cases af:k<c
     . (have au : k < rows.length:=by rw[T.o];exact af);have yh:=s.o.cell au;have ac:=(bu.o.row af).1;rw[ac,D.o] at yh;have ye:=(s.o.row k au).cell (j:=c) (by rw[qaA,ac];omega);rw[qaC,show(rows.getD k []).getD c 0=at2 rows k c from rfl] at ye;(have c6:k<(List.range c).length:=by rw[List.length_range];exact af);have b8:=scK_set (fun i=>at2 rows i c) (List.range c) k c6;rw[show(List.range c).getD k 0=k by simp[List.getD,af]] at b8;have a4:=zH b8;have fg:=U.o.frozen k;have cg:=U.o.cell (j:=k) (by rw[qaA,scK_len _ _ _ U0];exact c6);have k0:(0:Int)<=(k:Int):=U0;have k1:(k:Int)<(c:Int):=U0;have c0:(0:Int)<=(c:Int):=U0;(have c2:(c:Int)<(I:Int):=by have:=D.o;omega);(have du:=zH<|fun u=>s.o.else_ (p:=(zA g k)) fh (fun i hi=>dt.o i (by rw[<- T.o];exact hi)) u);(have dq:=zH<|U.o.lt.1);clear ac b8 au;generalize hv:at2 rows k c=v at *;have HV:=zH hv;clear hv;go_wp2;go_roundw;case rel=>refine⟨k+1,U0,gn,?_,du.o _,P.o.setCell (p:=(zA g k)) dq.o _⟩;rw[<- a4.o,<- qbC];exact Row.set U.o k _
       case measure=>simp[intOf];omega
     . (obtain rfl:k=c:=by omega);(have dr:zK (scK (fun i=>at2 rows i k) (List.range k) k=(List.range k).map fun i=>at2 rows i k):=by show _=_;unfold scK;rw[List.length_range,Nat.sub_self,List.replicate_zero,List.append_nil,List.take_of_length_le (by rw[List.length_range];omega)]);(have co:zK (Dv.Ok q k ((List.range k).map fun i=>at2 rows i k)/\Solv O q k M0 ((List.range k).map fun i=>at2 rows i k)):=by refine⟨⟨U2,fun x hx=>?_⟩,solv_of bu.o d8.o dz.o fun i hi=>by simp[List.getD,hi]⟩;obtain⟨i,hi,rfl⟩:=List.mem_map.1 hx;exact bu.o.at_ (List.mem_range.1 hi) U0);go_wp2;go_ret2;exact⟨.inr ⟨g,_,rfl,by rw[<- dr.o];exact U.o,co.o⟩,P.o⟩
end Go.Proofs.YtocbdafcolbfeaaGreat
