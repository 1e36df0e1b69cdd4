/- Parts of the proof. -/
import Derived.Test.YtocbdafcolbfeaaGreatR38
import Derived.Test.YtocbdafcolbfeaaGreatR40
set_option maxRecDepth 100000
set_option maxHeartbeats 8000000
namespace Go.Proofs.YtocbdafcolbfeaaGreat
open Go.RowKit Pln
def TcPost(w:Wo)(p1 m1:Int)(mod1:LI)(p m:Int)(mod:LI)(N:Nat)(D:LL)(e:Ending)(w':Wo):Prop:=
 zB w w'/\((∃z:Int,z≠0/\e=.returned (.tuple #[Da,Y z]))\/∃(T:LL)(A' R:OA)(c' k:Nat),e=.returned (.tuple #[C8 p1 m1 A' mod1.length c' N R T.length k,Y 0])/\
  IntsUp w' w.heap.size A' mod1/\RowsUp w' w.heap.size R (nzs T)/\codeZ p1 m1 mod1 N (nzs T)=0/\Grid (p1.toNat^m1.toNat) T.length N T/\SubT p.toNat m.toNat (lOf p m mod) (mdOf m1 mod1) m1.toNat m1 (p1.toNat^m1.toNat) (opsT p1.toNat m1.toNat (lOf p1 m1 mod1)) N D T)
theorem qfU{L p m:Int}{d:Nat}{H mod:LI}(K:fieldOK L d H=true)(M:fieldOK p m mod=true)(O:L=(p.toNat:Int)){r:Nat}(N:r<p.toNat^m.toNat)(J:(d:Int)=1\/evN (opsT p.toNat m.toNat (lOf p m mod)) (mdOf d H++[1]) r=0)(I:degB m.toNat d=true):
 1<=d/\d<=m.toNat/\d*(m.toNat / d)=m.toNat/\∀y,y<p.toNat^m.toNat->∃k,k<L.toNat^d/\imN (opsT p.toNat m.toNat (lOf p m mod)) p.toNat d r k=trT p.toNat m.toNat d (lOf p m mod) y:=by
 have s:=field_ft M;have c:FT L.toNat d (mdOf d H) (lOf L d H):=field_ft K;have o:=qeU (by have h:=M;unfold fieldOK at h;rw[Bool.and_eq_true] at h;exact h.1:shapeM p m mod=true);have q:=qeU (by have h:=K;unfold fieldOK at h;rw[Bool.and_eq_true] at h;exact h.1:shapeM L d H=true);have b:1<=d/\d<=m.toNat/\d*(m.toNat / d)=m.toNat:=by unfold degB at I;simp only[Bool.and_eq_true,decide_eq_true_eq,beq_iff_eq] at I;obtain⟨A,B,C⟩:=I;have D:Int.tmod (m.toNat:Int) (d:Int)=((m.toNat % d:Nat):Int):=qaY _ _;have u:m.toNat % d=0:=U0;exact⟨U0,U0,Nat.mul_div_cancel' (Nat.dvd_of_mod_eq_zero u)⟩
 refine⟨b.1,b.2.1,b.2.2,?_⟩;obtain⟨P,t⟩:∃P,P=L.toNat:=⟨_,rfl⟩;have f:P=p.toNat:=U0;have j:(mdOf d H).length=d:=mdOf_len2 K;have i:∀x∈mdOf d H,x<P:=by rw[t];exact q.lt
 rw[<- t] at c ⊢;subst f;have n:d=1\/evN (opsT p.toNat m.toNat (lOf p m mod)) (mdOf d H++[1]) r=0:=J.imp (fun h=>U0) id
 obtain⟨E,l,z,g⟩:=emb_of s c N j i (fun h=>by
  have v:(d:Int)=1:=U0
  unfold mdOf
  rw[if_pos v]) n
 exact fun y hy=>tr_index s c ((qfI _).1 o.prime).2 l z g b.1 b.2.1 b.2.2 hy
theorem traces_c(p1 p m:Int)(d:Nat)(ao mod:LI)(A1 Am:OA)(c1 cm N:Nat)(D:LL)(AD:OA)(cD gb n cI:Nat)(AI:OA)(w:Wo)(h1:zI w A1 ao)(ap:fieldOK p1 d ao=true)(au:fieldOK p m mod=true)(hG:GFM w w.heap.size gb p.toNat m.toNat mod (lOf p m mod) (logL (lOf p m mod) (p.toNat ^ m.toNat)))(hE:EmbOk w p1 d ao p.toNat m.toNat (lOf p m mod) AI n)(hD:zR w AD (nzs D))(av:Grid (p.toNat ^ m.toNat) D.length N D)(aq:1<=N)(ar:N<=64)(aw:D.length<=64):
 zC 135 #[C8 p m Am mod.length cm N AD D.length cD,C7 p1 d A1 ao.length c1,zP gb,zL AI n cI] w (TcPost w p1 d ao p m mod N D):=by
 obtain⟨I,hn,r,V,f,hI⟩:=hE;have l:=field_ft au;have H:FT p1.toNat d (mdOf d ao) (lOf p1 d ao):=field_ft ap;have ag:=mod_len ap;have al:=mod_len au;have hq:=(Al.fld_of l).q1;have an:=(Al.fld_of H).q1;have ah:=H.small.m2;have ak:=l.small.m2;have ad:n=p1.toNat^d:=hn
 refine(traces_w p1 p m d ao mod A1 Am c1 cm N D AD cD gb n cI AI w (p.toNat^m.toNat) (p1.toNat^d) (opsT p1.toNat d (lOf p1 d ao)) (TrRow p.toNat m.toNat d (lOf p m mod) (p1.toNat^d) r N) (fun y k=>k<p1.toNat^d/\imN (opsT p.toNat m.toNat (lOf p m mod)) p.toNat d r k=trT p.toNat m.toNat d (lOf p m mod) y)
  (fun x=>x<p.toNat^m.toNat/\degB m.toNat d=true/\BasOk p.toNat m.toNat (lOf p m mod) d (nz (eachL (itN (frN p.toNat m.toNat (lOf p m mod)) (d % m.toNat)) (m.toNat / d) x))) (fun x k=>1<=k/\itN (itN (frN p.toNat m.toNat (lOf p m mod)) (d % m.toNat)) k x=x) (fun x k=>eachL (itN (frN p.toNat m.toNat (lOf p m mod)) (d % m.toNat)) k x) (trT p.toNat m.toNat d (lOf p m mod)) (scaleRow (opsT p.toNat m.toNat (lOf p m mod)))
  U0 aq ar aw ?_ ?_ ?_ ?_ ?_ ?_ ?_ ?_ hD av ?_ ?_ ?_).mono ?_
 . intro W g;refine(normal_c d gb p.toNat m.toNat mod (mdOf m mod) (lOf p m mod) W l ((hG.keep g).more g.size) U0).mono ?_;rintro e w' ⟨h,o⟩;exact⟨h.imp id fun⟨x,B,v,C,J⟩=>⟨x,B,v,C,J⟩,o⟩
 . rintro W x g ⟨hx,hdb,_⟩;obtain⟨s,t,ab,_⟩:=qfU ap au I V f hdb;refine(conj_c x d gb w.heap.size p.toNat m.toNat mod (mdOf m mod) (lOf p m mod) W l (hG.keep g) g.size U0 hx hdb s t ?_).mono ?_
   . obtain⟨B,v⟩:=qeX l s t hx (m.toNat / d);rw[ab,Al.fermat l] at v;exact Al.El.of_inj (h:=Al.fld_of l) B hx v
   . rintro e w' ⟨⟨k,c,A,B,v,C,J,e5⟩,o⟩;have aj:m.toNat / d<=m.toNat:=Nat.div_le_self _ _;exact⟨⟨k,c,A,B,⟨v,J⟩,U0,qeW _ _ _,fun i hi=>by rw[qfN _ _ _ hi];exact(qeX l s t hx i).1,e5⟩,o⟩
 . intro W rows R k g hR hg hl;exact new_any p1 d ao A1 c1 N rows R k W ((h1.keep g).more g.size) U0 hR aq (qeY ap hg ar hl) (by unfold lengthZ;rw[if_neg U0])
 . intro W Aa Ab ca cb ga aa Ra Rb ka kb i1 i2 r1 r2 z1 z2;have:=cdsum_c p1 d ao N Aa Ab ca cb (nzs ga) (nzs aa) Ra Rb ka kb W ⟨i1,r1,z1⟩ ⟨i2,r2,z2⟩;rw[nzs_len,nzs_len,natR_nzs,natR_nzs] at this;refine this.mono ?_;rintro e w' ⟨⟨X,Z,R,out,B,v,C,L,s1,s2,s3,rfl⟩,o⟩;have g1:=(qfJ ap aq ar s1).2.1;obtain⟨_,_,_,g2,_⟩:=qcI z1;have g3:=qfJ ap aq ar (grid_app g1 g2);exact⟨⟨X,Z,R,_,B,v,C,⟨L,s1,s2,s3,rfl⟩,g3.1,g3.2.1⟩,o⟩
 . intro W b u Au cu g o E hA;have:=scale_c b gb p.toNat m.toNat (mdOf m mod) (lOf p m mod) u Au cu W l ((hG.keep g).more g.size).gf o E.2 hA (by rw[E.1];omega);rw[E.1] at this;exact this
 . intro b u o E;refine⟨by unfold scaleRow;rw[List.length_map,E.1],fun y U=>?_⟩;obtain⟨z,hz,rfl⟩:=List.mem_map.1 U;exact(Al.fld_of l).mulL b z o (E.2 z hz)
 . rintro W y x g U ⟨_,hdb,_⟩;obtain⟨s,t,_⟩:=qfU ap au I V f hdb;exact trace_c y d gb w.heap.size p.toNat m.toNat mod (mdOf m mod) (lOf p m mod) W l (hG.keep g) g.size U0 U hdb s t
 . rintro W y x g U ⟨_,hdb,_⟩;obtain ⟨_,_,_,M⟩:=qfU ap au I V f hdb;(have K:(nz ((List.range n).map (imN (opsT p.toNat m.toNat (lOf p m mod)) p.toNat d r))).length=n:=by rw [qaA];simp);(have af:n<=256:=by rw [ad];exact H.small.q);have:=sindexv_c (nz ((List.range n).map (imN (opsT p.toNat m.toNat (lOf p m mod)) p.toNat d r))) ((trT p.toNat m.toNat d (lOf p m mod) y:Nat):Int) AI cI W ((hI.keep g).more g.size) (by rw [K];omega);rw [K] at this;refine this.mono ?_;rintro e w' ⟨⟨rr,rfl,hz,hk⟩,hw'⟩;obtain ⟨k0,ai,e0⟩:=M y U
   have Q:((trT p.toNat m.toNat d (lOf p m mod) y:Nat):Int)∈nz ((List.range n).map (imN (opsT p.toNat m.toNat (lOf p m mod)) p.toNat d r)):=
    List.mem_map.2 ⟨imN (opsT p.toNat m.toNat (lOf p m mod)) p.toNat d r k0,List.mem_map.2 ⟨k0,List.mem_range.2 U0,rfl⟩,by rw[e0]⟩
   obtain⟨k,rfl,ac,P⟩:=hk (hz.2 Q);rw[qaC] at P;(have C:((List.range n).map (imN (opsT p.toNat m.toNat (lOf p m mod)) p.toNat d r)).getD k 0=imN (opsT p.toNat m.toNat (lOf p m mod)) p.toNat d r k:=by simp[List.getD,ac]);rw[C] at P;exact⟨⟨k,rfl,U0,U0,U0⟩,hw'⟩
 . rintro b u row E S ae;refine⟨S.1,fun j hj=>?_⟩;have h3:=ae j hj;(have e:(scaleRow (opsT p.toNat m.toNat (lOf p m mod)) b u).getD j 0=(opsT p.toNat m.toNat (lOf p m mod)).mul b (u.getD j 0):=by unfold scaleRow;simp[List.getD,show j<u.length by have:=E.1;omega]);rw[e] at h3;exact h3
 . intro rows hg;have:=qfJ ap aq ar hg;exact⟨this.1,this.2.1⟩
 . exact List.eq_nil_of_length_eq_zero (by rw[canonM_len];have:=(elGo_piv (O:=opsT p1.toNat d (lOf p1 d ao)) [] N).2;simpa using this)
 . rintro e w' ⟨o,h⟩;refine⟨o,h.imp id ?_⟩;rintro⟨T,x,kk,X,R,Z,k,B,v,C,J,e5,⟨x1,x2,x3⟩,⟨k1,k2⟩,hN⟩;exact⟨T,X,R,Z,k,B,v,C,J,e5,subT_of V (f.imp (fun h=>U0) id) x2 x1 x3 k1 k2 hN⟩
end Go.Proofs.YtocbdafcolbfeaaGreat
namespace Go.Proofs.YtocbdafcolbfeaaGreat
open Go.RowKit Pln Go.Proofs.Tryz
def SubPost(w:Wo)(p1 m1:Int)(mod1:LI)(p m:Int)(mod:LI)(N:Nat)(A:LL)(e:Ending)(w':Wo):Prop:=
 zB w w'/\((∃z:Int,z≠0/\e=.returned (.tuple #[Da,Y z]))\/∃(K T:LL)(A' R:OA)(c' k:Nat),e=.returned (.tuple #[C8 p1 m1 A' mod1.length c' N R K.length k,Y 0])/\
  IntsUp w' w.heap.size A' mod1/\RowsUp w' w.heap.size R (nzs K)/\kerM (opsT p1.toNat m1.toNat (lOf p1 m1 mod1)) T N=K/\SubQ p1 m1 mod1 p m mod N A T)
theorem subfield_d(p m p1:Int)(d:Nat)(mod bh:LI)(Am:OA)(cm N:Nat)(gs:List LI)(AG:OA)(cg:Nat)(A1:OA)(c1:Nat)(w:Wo)(ha:CD.At ⟨p,m,mod,Am,cm,N,gs,AG,cg⟩ w)(h1:zI w A1 bh)(bi:fieldOK p1 d bh=true):
 zC 63 #[C8 p m Am mod.length cm N AG gs.length cg,C7 p1 d A1 bh.length c1] w (SubPost w p1 d bh p m mod N (natR gs)):=by
 obtain⟨a1,a2,a3,a4,a5,a6,a7⟩:=qbW ha.z;obtain⟨_,_,_,_,_,_,_,a8,_⟩:=codeZ_is ha.z;dsimp only at a1 a4 a5 a6 a7 a8;have bf:=mod_len bi;have hF:=field_ft a5;have bd:FT p1.toNat d (mdOf d bh) (lOf p1 d bh):=field_ft bi;have au:Grid (p.toNat^m.toNat) (natR gs).length N (natR gs):=by rw[natR_len];exact a6
 have Z:=ker_grid (Al.fld_of hF) au;have H:zK (BXT w [((C2 p m Am mod.length cm N AG gs.length cg),32),((C5 p1 d A1 bh.length c1),29),((Cd),32)] _):=(((BXT.nil w).push rfl (C2 p m Am mod.length cm N AG gs.length cg) 32).push U2 (C5 p1 d A1 bh.length c1) 29).push U2 (Cd) 32;have aa:zK (∀W,zB w W->zC 27 #[C8 p m Am mod.length cm N AG gs.length cg] W fun e w'=>e=.returned (Y 0)/\zB W w'):=fun W hW=>by have h:=ha.keep hW;have:=codecheck_c p m mod Am cm (N:Int) gs AG cg W h.mod U0 h.gen U0;rw[h.z] at this;exact this
 have af:=zH<|fun W hW=>
  fields_c p1 d p m bh mod A1 Am c1 cm W ((h1.keep hW).more hW.size) U0 bi (ha.keep hW).mod U0 a5
 have ac:zK (∀(W:Wo)(K:LL),zB w W->kerM (opsT p.toNat m.toNat (lOf p m mod)) (natR gs) N=K->zC 98 #[C8 p m Am mod.length cm N AG gs.length cg] W (DuaAll p m mod N K W)):=fun W K hW L=>by have h:=ha.keep hW;have:=dual_all p m mod Am cm N (natR gs) AG cg K W h.mod U0 (by rw[a7];exact h.gen) (by rw[natR_len];omega) (by rw[a7];exact h.z) a2 (by rw[a7];exact a8) L;rw[natR_len] at this;exact this
 have M:zK (∀(W:Wo)(T:LL)(l q:OA)(y B:Nat)(K:LL),zI W l bh->zR W q (nzs T)->codeZ p1 d bh N (nzs T)=0->kerM (opsT p1.toNat d (lOf p1 d bh)) T N=K->zC 98 #[C8 p1 d l bh.length y N q T.length B] W (DuaAll p1 d bh N K W)):=fun W T l q y B K hi hr D L=>by obtain⟨_,_,_,g4,g5,_,g7,_⟩:=qcI D;exact dual_all p1 d bh l y N T q B K W hi U0 hr U0 D a2 g7 L
 have ap:zK (∀(W:Wo)(K:LL)(A2 R2:OA)(c2 k2 gb n cI:Nat)(S:OA),zB w W->kerM (opsT p.toNat m.toNat (lOf p m mod)) (natR gs) N=K->GFM W W.heap.size gb p.toNat m.toNat mod (lOf p m mod) (logL (lOf p m mod) (p.toNat^m.toNat))->EmbOk W p1 d bh p.toNat m.toNat (lOf p m mod) S n->zR W R2 (nzs K)->
  zC 135 #[C8 p m A2 mod.length c2 N R2 K.length k2,C7 p1 d A1 bh.length c1,zP gb,zL S n cI] W (TcPost W p1 d bh p m mod N K)):=fun W K A2 R2 c2 k2 gb n cI S hW L hG hE hR=>by
  rw[L] at Z
  exact traces_c p1 p m d bh mod A1 A2 c1 c2 N K R2 k2 gb n cI S W ((h1.keep hW).more hW.size) bi a5 hG hE hR ⟨rfl,Z.2⟩ a2 a3 U0
 have O:zK (∀(W W':Wo)(A':OA)(n:Nat),EmbOk W p1 d bh p.toNat m.toNat (lOf p m mod) A' n->zB W W'->EmbOk W' p1 d bh p.toNat m.toNat (lOf p m mod) A' n):=fun W W' A' n ⟨e1,e2,r,e3,e4,e5⟩ hb=>⟨e1,e2,r,e3,e4,(e5.keep hb).more hb.size⟩;have aj:zK (∀(W:Wo)(A':OA)(n:Nat),EmbOk W p1 d bh p.toNat m.toNat (lOf p m mod) A' n->p1=p):=fun W A' n h=>by have hs:=qeU (by have h:=a5;unfold fieldOK at h;rw[Bool.and_eq_true] at h;exact h.1:shapeM p m mod=true);have:=h.1;have:=hF.small.p1;omega
 generalize hPP:SubPost w p1 d bh p m mod N (natR gs)=POST;have s:zK (∀e w',SubPost w p1 d bh p m mod N (natR gs) e w'->POST e w'):=fun _ _ h=>by rw[<- hPP];exact h
 clear ha h1 bi hPP hF bd au Z a5 a6 a7 a8;go_enter func63,ntmps63;go_upto_region 1 with fail;generalize ((w.alloc (C4 p m Am mod.length cm N AG gs.length cg)).alloc (C3 p1 d A1 bh.length c1)).alloc (Ca)=W0 at *;have t:zK (W0.rangeAt w.heap.size 0 (C2 p m Am mod.length cm N AG gs.length cg)):=H.o.range (i:=0) rfl;have f:=zH (aa.o W0 H.o.below);go_wp2_with (refine wpList_load_mid rfl 32 (.tmp 2) rfl w.heap.size 0 rfl (C2 p m Am mod.length cm N AG gs.length cg) _ t.o underlying32 rfl codeSz ?_);go_fit f.o;rintro e w1 ⟨rfl,hb1⟩;have v:=zH (H.o.grow hb1);clear hb1 H f aa t;clear W0;have u:=zH<|v.o.range (i:=1) rfl
 have c:zK (w1.rangeAt w.heap.size 0 (C5 p m Am mod.length cm)):=qbO (v.o.range (i:=0) rfl) 0 _ (fun j hj=>by rcases j with _|_|_|j<;>first|rfl|(simp at hj;omega));have f:=zH (af.o w1 v.o.below);go_wp2_with (first|(refine wpList_load_mid rfl 29 (.tmp 3) rfl (w.heap.size+1) 0 rfl (C5 p1 d A1 bh.length c1) _ u.o underlying29 rfl fieldSize ?_)|(refine wpList_load_mid rfl 29 (.tmp 20) rfl w.heap.size 0 rfl (C5 p m Am mod.length cm) _ c.o underlying29 rfl fieldSize ?_));go_fit f.o;rintro e w2 ⟨hcase,hb2⟩;have E:=zH (v.o.grow hb2);clear hb2 v f af u c;rcases hcase with⟨z,D,rfl⟩|⟨gb,n,cI,S,rfl,hg,he⟩
 . have be:=bne_iff_ne.2 D;have HZ:=zH D;have HK:zK (w2.heap[w.heap.size+1+1]?=some (Ca)):=E.o.box 2 _ _ rfl;have Q:zK (BXT w _ (w2.setRow (w.heap.size+1+1) (C6))):=E.o.set 2 rfl (Cd);have x:zK ((w2.setRow (w.heap.size+1+1) (C6)).heap[w.heap.size+1+1]?=some (Ca)):=Q.o.box 2 _ _ rfl;clear D;go_wp2_with (first|(refine wpList_store_row rfl 32 (.tmp 4) (.tmp 29) rfl _ (w.heap.size+1+1) 32 (C6) (C6) rfl rfl HK.o codeSz rfl U3 ?_));refine bodyPost_ret (results_row_one (P:=prog) rfl _ _ (w.heap.size+1+1) 32 (C6) (0,0) _ _ rfl rfl x.o underlying32 rfl codeSz) rfl ?_;exact s.o _ _ ⟨Q.o.below,.inl ⟨_,HZ.o,rfl⟩⟩
 have ag:=zH hg;have ad:=zH he;have ak:=zH (aj.o w2 S n he);obtain⟨K,L⟩:∃K,kerM (opsT p.toNat m.toNat (lOf p m mod)) (natR gs) N=K:=⟨_,rfl⟩;have U:=zH L;have t:zK (w2.rangeAt w.heap.size 0 (C2 p m Am mod.length cm N AG gs.length cg)):=E.o.range (i:=0) rfl;have f:=zH (ac.o w2 K E.o.below L);clear hg he L ac aj;go_wp2_with (refine wpList_load_mid rfl 32 (.tmp 2) rfl w.heap.size 0 rfl (C2 p m Am mod.length cm N AG gs.length cg) _ t.o underlying32 rfl codeSz ?_);go_fit f.o;rintro e R ⟨⟨A2,c2,R2,k2,rfl,hr2,_⟩,hb3⟩;have b:zB R (R.alloc (C4 p m A2 mod.length c2 N R2 K.length k2)):=zV.alloc zn _;have A:=hb3.trans (b.mono hb3.size);have I:=zH (E.o.grow A);have ah:=zH ((ag.o.keep A).more A.size);have ae:=zH (O.o _ _ _ _ ad.o A);have an:=zH (((hr2.of_blocks b.size fun k _ hk=>b.block k hk)).rowsAt);have ab:zK ((R.alloc (C4 p m A2 mod.length c2 N R2 K.length k2)).heap[R.heap.size]?=some (C4 p m A2 mod.length c2 N R2 K.length k2)):=heap_alloc_new _ _;clear hr2 hb3 b A E ag ad f t;go_upto_region 8 with(refine qaH rfl 32 (.tmp 10) (.tmp 34) rfl R _ (Cc p m A2 mod.length c2 N R2 K.length k2) rfl rfl codeSz rfl U3 ?_);generalize R.alloc (C4 p m A2 mod.length c2 N R2 K.length k2)=w4 at *;have u:=zH<|I.o.range (i:=1) rfl
 have c:=zH<|qeS ab.o
 have f:=zH (ap.o w4 K A2 R2 c2 k2 gb n cI S I.o.below U.o ah.o ae.o an.o);clear ap ah ae an O;go_wp2_with (first|(refine wpList_load_mid rfl 29 (.tmp 3) rfl (w.heap.size+1) 0 rfl (C5 p1 d A1 bh.length c1) _ u.o underlying29 rfl fieldSize ?_)|(refine wpList_load_mid rfl 32 (.tmp 10) rfl R.heap.size 0 rfl (C2 p m A2 mod.length c2 N R2 K.length k2) _ c.o underlying32 rfl codeSz ?_));go_fit f.o;rintro e g ⟨hb5,hcase⟩;have J:=zH (I.o.grow hb5);clear hb5 I f u c ab;rcases hcase with⟨z,D,rfl⟩|⟨T,l,q,y,B,rfl,av,aw,ay,ar,ax⟩
 . have b:zB g (g.alloc (Ca)):=zV.alloc zn _;have E:=zH (J.o.grow b);clear b J;go_upto_region 11 with(refine qaH rfl 32 (.tmp 11) (.tmp 46) rfl g _ (C6) rfl rfl codeSz rfl U3 ?_);generalize g.alloc (Ca)=w6 at *;have be:=bne_iff_ne.2 D;have HZ:=zH D;have HK:zK (w6.heap[w.heap.size+1+1]?=some (Ca)):=E.o.box 2 _ _ rfl;have Q:zK (BXT w _ (w6.setRow (w.heap.size+1+1) (C6))):=E.o.set 2 rfl (Cd);have x:zK ((w6.setRow (w.heap.size+1+1) (C6)).heap[w.heap.size+1+1]?=some (Ca)):=Q.o.box 2 _ _ rfl;clear D;go_wp2_with (first|(refine wpList_store_row rfl 32 (.tmp 4) (.tmp 50) rfl _ (w.heap.size+1+1) 32 (C6) (C6) rfl rfl HK.o codeSz rfl U3 ?_));refine bodyPost_ret (results_row_one (P:=prog) rfl _ _ (w.heap.size+1+1) 32 (C6) (0,0) _ _ rfl rfl x.o underlying32 rfl codeSz) rfl ?_;exact s.o _ _ ⟨Q.o.below,.inl ⟨_,HZ.o,rfl⟩⟩
 have bc:=zH ay;have bb:zK (SubQ p1 d bh p m mod N (natR gs) T):=⟨ak.o,ar,by rw[U.o];exact ax⟩;have b:zB g (g.alloc (C4 p1 d l bh.length y N q T.length B)):=zV.alloc zn _;have V:=zH (J.o.grow b);have ai:=zH (((av.of_blocks b.size fun k _ hk=>b.block k hk)).ints);have al:=zH (((aw.of_blocks b.size fun k _ hk=>b.block k hk)).rowsAt);have ao:zK ((g.alloc (C4 p1 d l bh.length y N q T.length B)).heap[g.heap.size]?=some (C4 p1 d l bh.length y N q T.length B)):=heap_alloc_new _ _;clear av aw ay ar ax b J U ak;go_upto_region 11 with(refine qaH rfl 32 (.tmp 11) (.tmp 46) rfl g _ (Cc p1 d l bh.length y N q T.length B) rfl rfl codeSz rfl U3 ?_);generalize g.alloc (C4 p1 d l bh.length y N q T.length B)=w6 at *;obtain⟨C,X⟩:∃C,kerM (opsT p1.toNat d (lOf p1 d bh)) T N=C:=⟨_,rfl⟩;have c:=zH<|qeS ao.o
 have f:=zH (M.o w6 T l q y B C ai.o al.o bc.o X);have a0:=zH X;clear X M ai al;go_wp2_with (refine wpList_load_mid rfl 32 (.tmp 11) rfl g.heap.size 0 rfl (C2 p1 d l bh.length y N q T.length B) _ c.o underlying32 rfl codeSz ?_);go_fit f.o;rintro e w7 ⟨⟨A4,c4,R4,k4,rfl,hr4,hi4⟩,hb7⟩;have aq:=zH (V.o.grow hb7);have ba:=zH V.o.size;have a9:=zH hr4;have az:=zH hi4;clear hr4 hi4 hb7 V f c ao;have HK:zK (w7.heap[w.heap.size+1+1]?=some (Ca)):=aq.o.box 2 _ _ rfl;have Q:zK (BXT w _ (w7.setRow (w.heap.size+1+1) (Cc p1 d A4 bh.length c4 N R4 C.length k4))):=aq.o.set 2 rfl (C2 p1 d A4 bh.length c4 N R4 C.length k4);have x:zK ((w7.setRow (w.heap.size+1+1) (Cc p1 d A4 bh.length c4 N R4 C.length k4)).heap[w.heap.size+1+1]?=some (C4 p1 d A4 bh.length c4 N R4 C.length k4)):=Q.o.box 2 _ _ rfl;go_wp2_with (refine wpList_store_row rfl 32 (.tmp 4) (.tmp 54) rfl w7 (w.heap.size+1+1) 32 (C6) (Cc p1 d A4 bh.length c4 N R4 C.length k4) rfl rfl HK.o codeSz rfl U3 ?_);refine bodyPost_ret (results_row_one (P:=prog) rfl _ _ (w.heap.size+1+1) 32 (Cc p1 d A4 bh.length c4 N R4 C.length k4) (0,0) _ _ rfl rfl x.o underlying32 rfl codeSz) rfl ?_;have bg:w.heap.size+3<=w6.heap.size:=ba.o;exact s.o _ _ ⟨Q.o.below,.inr ⟨C,T,A4,R4,c4,k4,rfl,(az.o.of_blocks U2 fun k hk _=>setRow_other w7 _ k _ U0).lower U0,(a9.o.of_blocks U2 fun k hk _=>setRow_other w7 _ k _ U0).lower U0,a0.o,bb.o⟩⟩
theorem subfield_c(p m g m1:Int)(mod c:LI)(l:OA)(o N:Nat)(i:List LI)(k:OA)(n:Nat)(j:OA)(c1:Nat)(w:Wo)(r:CD.At ⟨p,m,mod,l,o,N,i,k,n⟩ w)(q:zI w j c)(f:fieldOK g m1 c=true):
 zC 63 #[C8 p m l mod.length o N k i.length n,C7 g m1 j c.length c1] w (SubPost w g m1 c p m mod N (natR i)):=by
 obtain⟨d,rfl⟩:∃d:Nat,m1=(d:Int):=by have b:=qeU (by have h:=f;unfold fieldOK at h;rw[Bool.and_eq_true] at h;exact h.1:shapeM g m1 c=true);exact⟨m1.toNat,by have:=b.m0;omega⟩
 exact subfield_d p m g d mod c l o N i k n j c1 w r q f
end Go.Proofs.YtocbdafcolbfeaaGreat
namespace Go.Proofs.YtocbdafcolbfeaaGreat
open Go.RowKit Pln
theorem one_12(s p:StD)(cs cp:List Value)(w:Wo)(x:StC w w.heap.size s cs)(v:StC w w.heap.size p cp)(y:s.ok)(t:formZ s=0)(r:formZ p=0)(u:s.rule=12):
 zC 29 #[.agg cs.toArray,.agg cp.toArray] w (ItPost w (One12 s p)):=by
 have b:((p.n.toNat:Nat):Int)=p.n:=by have:=(form_is r).n1;omega
 refine one_m s p cs cp w 12 x v y t r u _ _ (.inr (.inr (.inr (.inl ⟨rfl,rfl,fun W B c B1 c1 A a _ b1 b2 b3=>?_⟩))));have:=subfield_c p.p p.m s.p s.m p.mod s.mod B c p.n.toNat p.gen B1 c1 A a W ⟨b1,b2,by rw[b];exact qbG r⟩ b3 (form_is t).field;rw[b] at this;refine this.mono fun e w' h=>?_;obtain⟨d,h|⟨K,T,f,R,g,k,i,j,l,o,q⟩⟩:=h
 . exact⟨d,.inl h⟩
 . exact⟨d,.inr ⟨s.p,s.m,s.mod,f,g,((p.n.toNat:Nat):Int),R,nzs K,k,by rw[i,nzs_len],j,l,fun⟨g1,g2,g3,g4,g5⟩=>⟨T,by rw[g4];exact b,by rw[g5,<- o];rfl,q⟩⟩⟩
theorem fo_12(s:StD)(x:s.rule=12)(y:s.ok)(cs:List Value)(l:List StD)(v:Value)(B:Nat)(W:Wo)(q:StXM W W.heap.size s cs)(u:B<=W.heap.size)(n:FromX StXM W B v l)(m:∀p∈l,p.ok/\formZ p=0)(o:l.length=1)(t:formZ s=0):
 zC 17 #[.agg cs.toArray,v] W fun e w'=>∃b,e=.returned (.bool b)/\zB W w'/\(b=true->∃p,l=[p]/\One12 s p):=by
 obtain⟨p,rfl⟩:∃p,l=[p]:=by
  rcases l with _|⟨p,_|⟨r,l⟩⟩
  . simp at o
  . exact⟨p,rfl⟩
  . simp at o
 obtain⟨k,g,rfl,j⟩:=n.form;obtain⟨R,rfl,_,c,_⟩:=j U2;obtain⟨cp,d,f⟩:=n.range (i:=0) (p:=p) rfl
 have h:=qfB cs cp q.1.len f.1.len (One12 s p) R g W (by simpa using d) c fun W' hW'=>
  one_12 s p cs cp W' (q.1.lift hW') ((f.1.more u).lift hW') y t (m p U2).2 x
 exact h.mono fun e w' ⟨⟨b,he,hb⟩,hbl⟩=>⟨b,he,hbl,fun h=>⟨p,rfl,hb h⟩⟩
end Go.Proofs.YtocbdafcolbfeaaGreat
namespace Go.Proofs.YtocbdafcolbfeaaGreat
open Go.RowKit Pln Go.Proofs.Tryz
def npM(_:Int):Nat:=1
def ModP(s:StD)(ps:List StD):Prop:=
 (s.rule=4/\∃p,ps=[p]/\One4 s p)\/(s.rule=5/\∃p,ps=[p]/\One5 s p)\/(s.rule=6/\∃p,ps=[p]/\One6 s p)\/(s.rule=7/\∃p,ps=[p]/\One7 s p)\/(s.rule=12/\∃p,ps=[p]/\One12 s p)\/(s.rule=13/\∃p a b,ps=[p]/\One13 s p a b)\/(s.rule=18/\∃p a,ps=[p]/\One18 s p a)
theorem modP_one(s:StD)(b:List StD)(h:ModP s b):∃p,b=[p]:=by rcases h with⟨_,p,e,_⟩|⟨_,p,e,_⟩|⟨_,p,e,_⟩|⟨_,p,e,_⟩|⟨_,p,e,_⟩|⟨_,p,_,_,e,_⟩|⟨_,p,_,e,_⟩<;>exact⟨p,e⟩
theorem modP_len(s:StD)(b:List StD)(h:ModP s b):b.length=npM s.rule:=by obtain⟨p,rfl⟩:=modP_one s b h;rfl
theorem mod_law(s:StD)(j:List StD)(i:LN)(f:formZ s=0)(k:∀p∈j,formZ p=0)(l:∀p∈j,TrueOk p)(h:ModP s j)(g:∀x∈i,x<s.p.toNat^s.m.toNat):WordOk s i:=by
 obtain⟨p,rfl⟩:=modP_one s j h;have c:=k p U2;have d:=true_low c (l p U2);rcases h with⟨_,p,e,h⟩|⟨_,p,e,h⟩|⟨_,p,e,h⟩|⟨_,p,e,h⟩|⟨_,p,e,h⟩|⟨_,p,a,b,e,h⟩|⟨_,p,a,e,h⟩<;>injection e with e _<;>subst e
 . exact law_4 f c d h g
 . exact law_5 f c d h g
 . exact law_6 f c d h g
 . exact law_7 f c d h g
 . exact law_12 f c d h g
 . exact law_13 f c d h g
 . exact law_18 f c d h g
theorem mod_step(i:List StD)(j:∀d∈i,d.ok)(k:Nat)(l:k<i.length)(A:OA)(c:Nat)(W:Wo)(m:StsX StXM W W.heap.size A i)(n:i.length<=1000)(o:∃t:Nat,t∈[4,5,6,7,12,13,18]/\(i[k]'l).rule=(t:Int)):
 zC 7 (D6 A i.length c k) W (AccPost W i k ModP):=by
 obtain⟨t,o,e⟩:=o;have g:=j _ (List.getElem_mem l);simp only[List.mem_cons,List.not_mem_nil,or_false] at o;rcases o with rfl|rfl|rfl|rfl|rfl|rfl|rfl
 . have f:(i[k]'l).rule=4:=e;refine qcN stX_m ModP 1 U0 i A c k W m j n l U0 U0 U0 U0 (fun W=>by rw[f];exact premises_4 W) (fun cs ps v B W' h1 h2 h3 h4 h5 h6=>?_);exact(fo_4 _ f g cs ps v B W' h1 h2 h3 h4 h5 h6).mono fun _ _ ⟨b,g1,g2,g3⟩=>⟨b,g1,g2,fun h=>.inl ⟨f,g3 h⟩⟩
 . have f:(i[k]'l).rule=5:=e;refine qcN stX_m ModP 1 U0 i A c k W m j n l U0 U0 U0 U0 (fun W=>by rw[f];exact premises_5 W) (fun cs ps v B W' h1 h2 h3 h4 h5 h6=>?_);exact(fo_5 _ f g cs ps v B W' h1 h2 h3 h4 h5 h6).mono fun _ _ ⟨b,g1,g2,g3⟩=>⟨b,g1,g2,fun h=>.inr (.inl ⟨f,g3 h⟩)⟩
 . have f:(i[k]'l).rule=6:=e;refine qcN stX_m ModP 1 U0 i A c k W m j n l U0 U0 U0 U0 (fun W=>by rw[f];exact premises_6 W) (fun cs ps v B W' h1 h2 h3 h4 h5 h6=>?_);exact(fo_6 _ f g cs ps v B W' h1 h2 h3 h4 h5 h6).mono fun _ _ ⟨b,g1,g2,g3⟩=>⟨b,g1,g2,fun h=>.inr (.inr (.inl ⟨f,g3 h⟩))⟩
 . have f:(i[k]'l).rule=7:=e;refine qcN stX_m ModP 1 U0 i A c k W m j n l U0 U0 U0 U0 (fun W=>by rw[f];exact premises_7 W) (fun cs ps v B W' h1 h2 h3 h4 h5 h6=>?_);exact(fo_7 _ f g cs ps v B W' h1 h2 h3 h4 h5 h6).mono fun _ _ ⟨b,g1,g2,g3⟩=>⟨b,g1,g2,fun h=>.inr (.inr (.inr (.inl ⟨f,g3 h⟩)))⟩
 . have f:(i[k]'l).rule=12:=e;refine qcN stX_m ModP 1 U0 i A c k W m j n l U0 U0 U0 U0 (fun W=>by rw[f];exact premises_12 W) (fun cs ps v B W' h1 h2 h3 h4 h5 h6=>?_);exact(fo_12 _ f g cs ps v B W' h1 h2 h3 h4 h5 h6).mono fun _ _ ⟨b,g1,g2,g3⟩=>⟨b,g1,g2,fun h=>.inr (.inr (.inr (.inr (.inl ⟨f,g3 h⟩))))⟩
 . have f:(i[k]'l).rule=13:=e;refine qcN stX_m ModP 1 U0 i A c k W m j n l U0 U0 U0 U0 (fun W=>by rw[f];exact premises_13 W) (fun cs ps v B W' h1 h2 h3 h4 h5 h6=>?_);exact(fo_13 _ f g cs ps v B W' h1 h2 h3 h4 h5 h6).mono fun _ _ ⟨b,g1,g2,g3⟩=>⟨b,g1,g2,fun h=>.inr (.inr (.inr (.inr (.inr (.inl ⟨f,g3 h⟩)))))⟩
 . have f:(i[k]'l).rule=18:=e;refine checkstep_18 stX_m ModP 1 U0 i A c k W m j n l U0 U0 f (fun W=>by rw[f];exact premises_18 W) (fun cs ps v B W' h1 h2 h3 h4 h5 h6 h7=>?_);exact(fo_18 _ f g h7 cs ps v B W' h1 h2 h3 h4 h5 h6).mono fun _ _ ⟨b,g1,g2,g3⟩=>⟨b,g1,g2,fun h=>.inr (.inr (.inr (.inr (.inr (.inr (⟨f,g3 h⟩))))))⟩
theorem mpremises_c(r:Nat)(W:Wo)(b:r∈[4,5,6,7,12,13,18]):zC 9 #[Y (r:Int)] W fun e w'=>e=.returned (Y (npM (r:Int):Int))/\W=w':=by
 simp only[List.mem_cons,List.not_mem_nil,or_false] at b;rcases b with rfl|rfl|rfl|rfl|rfl|rfl|rfl
 . show Calls _ _ #[Y 4] W fun e w'=>e=.returned (Y 1)/\W=w';go_enter func9,ntmps9;go_wp2;go_ret;exact⟨rfl,rfl⟩
 . show Calls _ _ #[Y 5] W fun e w'=>e=.returned (Y 1)/\W=w';go_enter func9,ntmps9;go_wp2;go_ret;exact⟨rfl,rfl⟩
 . show Calls _ _ #[Y 6] W fun e w'=>e=.returned (Y 1)/\W=w';go_enter func9,ntmps9;go_wp2;go_ret;exact⟨rfl,rfl⟩
 . show Calls _ _ #[Y 7] W fun e w'=>e=.returned (Y 1)/\W=w';go_enter func9,ntmps9;go_wp2;go_ret;exact⟨rfl,rfl⟩
 . show Calls _ _ #[Y 12] W fun e w'=>e=.returned (Y 1)/\W=w';go_enter func9,ntmps9;go_wp2;go_ret;exact⟨rfl,rfl⟩
 . show Calls _ _ #[Y 13] W fun e w'=>e=.returned (Y 1)/\W=w';go_enter func9,ntmps9;go_wp2;go_ret;exact⟨rfl,rfl⟩
 . show Calls _ _ #[Y 18] W fun e w'=>e=.returned (Y 1)/\W=w';go_enter func9,ntmps9;go_wp2;go_ret;exact⟨rfl,rfl⟩
theorem modifies_c(u:ThreeOk)(m:List StD)(A:OA)(c:Nat)(i:Int)(zs:LI)(n:OA)(t:Nat)(w:Wo)(v:StsX StXM w w.heap.size A m)(p:∀d∈m,d.ok)(y:m.length<=maxLen)(x:zI w n zs)(q:zs.length<=maxLen):
 zC 3 #[zL A m.length c,Y i,zL n zs.length t] w (LocPost w):=by
 have f:zB w (w.alloc (.cells #[Y 4,Y 5,Y 6,Y 7,Y 12,Y 13,Y 18] 3)):=zV.alloc zn _;have b:(w.alloc (.cells #[Y 4,Y 5,Y 6,Y 7,Y 12,Y 13,Y 18] 3)).heap[w.heap.size]?=some (.cells #[Y 4,Y 5,Y 6,Y 7,Y 12,Y 13,Y 18] 3 (0,0)):=heap_alloc_new _ _;have g:=zH f
 have l:=zH (local_g stX_m ModP npM [4,5,6,7,12,13,18] U2 u (fun r W hr=>mpremises_c r W hr) modP_len (fun s ps msg h1 h2 h4 h5 _ h7=>mod_law s ps msg h1 h2 h4 h5 h7) m A c i zs n t w.heap.size 7 (w.alloc (.cells #[Y 4,Y 5,Y 6,Y 7,Y 12,Y 13,Y 18] 3)) (StsX.more stX_m (StsX.keep stX_m v f) f.size) p y ((x.keep f).more f.size) q (block_lt b) (fun j r hj=>by
  rcases j with _|_|_|_|_|_|_|j
  . injection hj with hj;subst hj;exact cell_of_row _ _ 0 _ _ _ b
  . injection hj with hj;subst hj;exact cell_of_row _ _ 1 _ _ _ b
  . injection hj with hj;subst hj;exact cell_of_row _ _ 2 _ _ _ b
  . injection hj with hj;subst hj;exact cell_of_row _ _ 3 _ _ _ b
  . injection hj with hj;subst hj;exact cell_of_row _ _ 4 _ _ _ b
  . injection hj with hj;subst hj;exact cell_of_row _ _ 5 _ _ _ b
  . injection hj with hj;subst hj;exact cell_of_row _ _ 6 _ _ _ b
  . simp at hj) (fun k hk' A' c' W h1 h2 h4=>mod_step m p k hk' A' c' W h1 h2 h4))
 clear v p x f b u;go_enter func3,ntmps3;go_wp2_with fail;refine l.o.mono ?_;rintro e w' ⟨rfl,f⟩;have h:=zH (g.o.trans (f.mono g.o.size));clear f l g;go_wp2;go_ret;exact⟨rfl,h.o⟩
end Go.Proofs.YtocbdafcolbfeaaGreat
