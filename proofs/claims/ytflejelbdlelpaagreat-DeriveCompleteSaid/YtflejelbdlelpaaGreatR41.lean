/- Parts of the proof. -/
import Derived.Test.YtflejelbdlelpaaGreatR36
import Derived.Test.YtflejelbdlelpaaGreatR40
set_option maxRecDepth 100000
set_option maxHeartbeats 8000000
namespace Go.Proofs.YtflejelbdlelpaaGreat
open Go.RowKit Pln Go.Proofs.Tryz
theorem infoNat:(prog.info? 138).map (fun i=>(i.zero,i.size,i.bytes))=some (some (zL none 0 0),1,24):=U1
def NOwn(w:Wo)(B:Nat)(v:Value)(Ns:LN):Prop:=
 ∃xs,w.ownsRow B 138 1 v Ns.length xs/\∀j,j<Ns.length->∃u,xs[j]?=some u/\NatP w (fun b=>v.ownBlock≠some b) u (Ns.getD j 0)
section
variable {w w':Wo} {p:Nat->Prop} {B N:Nat} {u v:Value} {Ns:LN}
theorem NOwn.nil(w:Wo)(B:Nat):NOwn w B (zL none 0 0) []:=⟨[],World.ownsRow_nil _ _ _ _,fun j hj=>by simp at hj⟩
theorem NOwn.grow(h:NOwn w B v Ns)(l:zB w w'):NOwn w' B v Ns:=by
 obtain⟨i,b,d⟩:=h;refine⟨i,⟨b.1,?_⟩,fun j hj=>?_⟩
 . rcases b.2 with h|⟨g,cap,cur,hv,hB,hh,r⟩
   . exact .inl h
   . exact .inr ⟨g,cap,cur,hv,hB,(l.block g (Array.getElem?_eq_some_iff.1 hh).1).trans hh,r⟩
 . obtain⟨u,c,f⟩:=d j hj;exact⟨u,c,f.of_blocks l.size fun k _ hk=>l.block k hk⟩
theorem NOwn.form(h:NOwn w B v Ns):∃A c,v=zL A Ns.length c/\Ns.length<=c/\NatsAt w A Ns:=by
 obtain⟨p,b,i⟩:=h;rcases b.2 with⟨e,f⟩|⟨g,cap,cur,n,o,m,l,_⟩
 . exact⟨none,0,by rw[f];exact e,U0,fun h=>U0⟩
 . subst n;refine⟨_,_,rfl,l,fun _=>⟨g,0,rfl,(Array.getElem?_eq_some_iff.1 m).1,fun j hj=>?_⟩⟩;obtain⟨u,d,k⟩:=i j hj;exact⟨u,by rw[Nat.zero_add,World.ownsRow.cellAt b j U0,d],k.toV⟩
theorem NOwn.append(h:NOwn w B v Ns)(I:B<=w.heap.size){b:Nat}(H:w.heap[b]?=some (.cells #[u] 138 (0,0)))(J:NatP w (fun b=>v.ownBlock≠some b) u N)(K:Ns.length<=1000000):
 ∃v' w',(Builtin.append_ #[136,136] 136 #[v,zS b 1 1]).run prog w=.ok v' w'/\NOwn w' B v' (Ns++[N])/\Below B w w'/\w.heap.size<=w'.heap.size/\∀k,k<w.heap.size->v.ownBlock≠some k->w'.heap[k]?=w.heap[k]?:=by
 obtain⟨D,n,p,r,s⟩:=qaF infoNat;obtain⟨t,o,A⟩:=h
 obtain ⟨g,cap,w',l,i,d,m,f⟩:=run_append_lies (P:=prog) (w:=w) 136 136 B 138 D _ 1 24 underlying136 n p r s rfl dc v Ns.length t o (zA b 0) 1 1 [u] rfl (World.news_of_block H)
  (fun y hy=>by
    rw[List.mem_singleton.1 hy]
    exact natV_one J.toV) U0 ml U0 I w.heap.size rfl
 refine⟨_,w',l,⟨t++[u],by rw[List.length_append];exact i,fun j hj=>?_⟩,zV.grown d I (fun k H=>(World.ownsRow.lt o k H).1),d.size,fun k H hne=>d.block k H fun e=>hne e.symm⟩;have E:=o.1;rw[List.length_append,List.length_singleton] at hj;have c:∀{y:Value}{M:Nat},NatP w (fun b=>v.ownBlock≠some b) y M->NatP w' (fun b=>(Value.slice (zO g) (Ns.length+1) cap).ownBlock≠some b) y M:=fun{y M} n=>by
  refine((n.imp (q:=fun b=>v.ownBlock≠some b/\b<w.heap.size) fun b hb hp=>⟨hp,hb⟩).of_blocks d.size fun k H f=>d.block k f fun e=>H.1 e.symm).imp fun b _ hb e=>?_;have z:g=b:=by simpa[Value.ownBlock] using e
  rcases m with h|h
  . exact hb.1 (by rw[h,z])
  . have:=hb.2;omega
 by_cases e:j=Ns.length
 . subst e;(have:(Ns++[N]).getD Ns.length 0=N:=by simp[List.getD]);rw[this];exact⟨u,by rw[List.getElem?_append_right U0];simp[show Ns.length-t.length=0 by omega],c J⟩
 . obtain⟨y,x,C⟩:=A j U0;(have:(Ns++[N]).getD j 0=Ns.getD j 0:=by simp[List.getD,List.getElem?_append_left (show j<Ns.length by omega)]);rw[this];exact⟨y,by rw[List.getElem?_append_left U0];exact x,c C⟩
end
theorem shape_n(n:Nat)(w:Wo)(d:1<=n)(f:n<=65):zC 203 #[Y (n:Int)] w fun e w'=>e=.returned (Y 0)/\w=w':=by have b:decide ((n:Int)<1)=false:=decide_eq_false U0;have c:decide ((65:Int)<(n:Int))=false:=decide_eq_false U0;go_enter func203,ntmps203;go_wp2;go_ret;exact⟨rfl,rfl⟩
theorem wrong_n(q n:Nat)(w:Wo)(i:2<=q)(h:q<=256)(f:1<=n)(g:n<=65):zC 161 #[Y (q:Int),Y (n:Int)] w fun e w'=>e=.returned (Y 0)/\w=w':=by have c:decide ((q:Int)<2)=false:=decide_eq_false U0;have d:decide ((256:Int)<(q:Int))=false:=decide_eq_false U0;have b:=zH (shape_n n w f g);go_enter func161,ntmps161;go_wp2_with fail;refine b.o.mono ?_;rintro e w' ⟨rfl,rfl⟩;go_wp2;go_ret;exact⟨rfl,rfl⟩
def natZ(Ns:LN):LI:=Ns.map fun x:Nat=>(x:Int)
theorem natZ_len(Ns:LN):(natZ Ns).length=Ns.length:=by simp[natZ]
theorem natZ_at(Ns:LN)(j:Nat):(natZ Ns).getD j 0=((Ns.getD j 0:Nat):Int):=by unfold natZ;simp only[List.getD,List.getElem?_map];cases Ns[j]?<;>simp
def Fine(T:Nat)(Z:Int):Prop:=0<=Z/\Z.natAbs % T=0
def DualP(q n:Nat)(Ns:LN)(e:Ending)(w w':Wo):Prop:=
 (∃A c Bs,e=.returned (.tuple #[zL A (n+1) c,Y 0])/\n+1<=c/\Bs.length=n+1/\NatsAt w' A Bs/\(∀j,j<n+1->Fine Ns.sum (trO q n (natZ Ns) j (n+1))/\(Bs.getD j 0:Int)*Ns.sum=trO q n (natZ Ns) j (n+1))/\zB w w')\/
 (e=.returned (.tuple #[zL none 0 0,Y 5])/\(∃j,j<n+1/\¬Fine Ns.sum (trO q n (natZ Ns) j (n+1)))/\zB w w')
theorem IOwn.own_lt{w:Wo}{B:Nat}{p:Nat->Prop}{v:Value}{d:LI}(h:IOwn w B p v d):∀k,v.ownBlock=some k->B<=k/\k<w.heap.size:=by obtain⟨c,b,_⟩:=h;exact World.ownsRow.lt b
def RelD1(w1:Wo)(Ns:LN)(v8 v31:Value)(wr:Wo):Prop:=
 ∃k:Nat,k<=Ns.length/\v31=Y (k:Int)/\IOwn wr w1.heap.size (fun _=>True) v8 (natZ (Ns.take k))/\zB w1 wr
theorem natZ_snoc{Ns:LN}{k:Nat}(b:k<Ns.length):natZ (Ns.take (k+1))=natZ (Ns.take k)++[((Ns.getD k 0:Nat):Int)]:=by unfold natZ;rw[List.take_add_one,List.map_append];simp[List.getD,b]
theorem qfG:∀ (l:LN)(j:Nat),l.getD j 0<=l.sum
 |[],j=>by simp[List.getD]
 |x :: l,0=>by simp[List.getD]
 |x :: l,j + 1=>by
   have:=qfG l j
   simp only[List.getD_cons_succ,List.sum_cons]
   omega
theorem natV_len{w:Wo}{lo N k c:Nat}{A:OA}(h:NatV w lo (zL A k c) N):k=0 ↔ N=0:=by obtain⟨f,l,g,e,_,b,d,_⟩:=h;injection e with _ e _;rw[e,<- d,cn_zero b,List.length_eq_zero_iff]
def RelD2(w3:Wo)(q n:Nat)(Ns:LN)(v11 v46:Value)(wr:Wo):Prop:=
 ∃(j:Nat)(Bs:LN),j<=n+1/\v46=Y (j:Int)/\Bs.length=j/\NOwn wr w3.heap.size v11 Bs/\(∀l,l<j->Fine Ns.sum (trO q n (natZ Ns) l (n+1))/\(Bs.getD l 0:Int)*Ns.sum=trO q n (natZ Ns) l (n+1))/\zB w3 wr
theorem NOwn.own_lt{w:Wo}{B:Nat}{v:Value}{Ns:LN}(h:NOwn w B v Ns):∀k,v.ownBlock=some k->B<=k/\k<w.heap.size:=by obtain⟨c,b,_⟩:=h;exact World.ownsRow.lt b
theorem mdual_c(q n:Nat)(A:OA)(c:Nat)(Ns:LN)(w:Wo)(hq:2<=q)(b8:q<=256)(hn:n<=64)(hl:Ns.length=n+1)(hA:NatsAt w A Ns)(hs:Ns.sum<BB)(b9:0<Ns.sum):
 zC 114 #[Y (q:Int),zL A (n+1) c] w fun e w'=>DualP q n Ns e w w':=by
 have af:=wrong_n q (n+1) w hq b8 U0 U0;rw[show((n+1:Nat):Int)=(n:Int)+1 by omega] at af;have ay:=zH af;have R:=zH (natAdd_c A Ns c w hA (Nat.lt_trans hs lim_18.2.2.1) U0);rw[hl] at R;have HA:=zH hA;have U:=zH hl;have ax:=zH b9;have V:=zH hs;have ak:zK (∀x,((natZ Ns).getD x 0).natAbs<=BB):=fun x=>by rw[natZ_at];have:=qfG Ns x;omega
 clear af hA hl b9 hs;go_enter func114,ntmps114;go_wp2_with fail;refine ay.o.mono ?_;rintro e w' ⟨rfl,rfl⟩;clear ay;go_wp2_with fail;refine R.o.mono ?_;rintro e w1 ⟨vt,rfl,ht,hb1⟩;obtain⟨At,lt,ct,rfl,bt,a1,M,be⟩:=ht;have bx:((lt.length:Int)==0)=false:=by rw[beq_eq_false_iff_ne];intro e;have e2:lt.length=0:=U0;rw[List.length_eq_zero_iff.1 e2] at M;have h0:=ax.o;rw[<- M] at h0;exact Nat.lt_irrefl _ h0
 have bg:=zH a1;have W:=zH M;have bo:=zH be;have ai:=zH hb1;have ah:=zH (HA.o.grow hb1);have HR:zK (RelD1 w1 Ns (zL none 0 0) (Y 0) w1):=⟨0,U0,rfl,IOwn.nil _ _ _,Below.refl _ _⟩;clear a1 M be hb1 R HA;go_wp2;go_loopw [8,31] (fun v8 v31 wr=>RelD1 w1 Ns v8 v31 wr) (fun _ v31 _=>n+1-(intOf v31).toNat);case atStart=>exact HR.o
 case round =>
  obtain⟨k,hk,rfl,L,g⟩:=hrel;obtain⟨A8,c8,e8,_,_⟩:=L.form;rw[natZ_len,List.length_take,Nat.min_eq_left hk] at e8;subst e8;by_cases ba:k<n+1
  . (have bw : (k : Int) < (n : Int) + 1 := by omega);obtain ⟨b,o,rfl,r,E⟩:=ah.o (by rw [U.o];omega);obtain ⟨u,a7,A2,l2,c2,rfl,bq,I,v2,w2⟩:=E k (by rw [U.o];exact ba);have y:wr.cell? (zA b (o+k))=some (zL A2 l2.length c2):=(g.cell (p:=(zA b (o+k))) r).trans a7
    have b2:l2.length<=1:=cn_len I (by
     rw[v2,Nat.pow_one]
     exact Nat.lt_of_le_of_lt (qfG Ns k) V.o)
    have HT:=zH (trim_c A2 l2 c2 wr ((w2.words.keep g).more g.size) U0 bq);rw[cn_trm I] at HT;have aj:=zH I;have bn:=zH v2;have HO:=zH L;have HB:=zH g;have bm:=zH (natZ_snoc (Ns:=Ns) (k:=k) (by rw[U.o];exact ba));clear E a7 I v2 w2 L g HR;go_wp2_with fail;refine HT.o.mono ?_;rintro e H ⟨v,rfl,hov,hb3⟩;(have ad:NatV H wr.heap.size v (Ns.getD k 0):=by rw[<- cn_trm aj.o] at hov;rw[<- bn.o];exact hov.nat aj.o.1);obtain⟨A3,k3,c3,rfl⟩:=qeS ad;have ao:=zH ad;have ap:=zH (HO.o.grow hb3);have d:=zH (HB.o.trans (hb3.mono HB.o.size));have bz:=zH hb3.size;clear hov ad hb3 HT y;have f:zK (zB H (H.alloc (.cells #[.bool false,zL A3 k3 c3] 189))):=zV.alloc zn _;(have a2:IntP (H.alloc (.cells #[.bool false,zL A3 k3 c3] 189)) (fun b=>True/\(Value.slice A8 k c8).ownBlock≠some b) false (zL A3 k3 c3) ((Ns.getD k 0:Nat):Int):=by refine(IntV.toP (lo:=wr.heap.size) ⟨_,ao.o,rfl⟩ fun b g _=>(⟨trivial,fun e=>?_⟩:True/\(Value.slice A8 k c8).ownBlock≠some b)).of_blocks U2 fun k _ hk=>heap_alloc_old _ _ hk;have:=(HO.o.own_lt b e).2;omega);obtain⟨vn,w6,m,ab,D,ae,aa⟩:=(ap.o.grow f.o).append (b:=H.heap.size) (Nat.le_trans d.o.size f.o.size) (heap_alloc_new _ _) a2 rfl (by rw[natZ_len,List.length_take];omega);rw[<- bm.o] at ab;have i:=zH m;have B:zK (RelD1 w1 Ns vn (Y ((k:Int)+1)) w6):=⟨k+1,by rw[U.o];omega,U3,ab,(d.o.trans (f.o.mono d.o.size)).trans D⟩;clear a2 m ab D ae aa HO ap ao f d;go_wp2_with (at_builtin;refine qeU rfl _ (.tmp 39) 187 rfl rfl rfl i.o ?_);go_roundw;case rel=>exact B.o
    case measure=>simp[intOf];omega
  . (obtain rfl : k = n + 1 := by have:=U.o;omega);(have ac:(natZ Ns).length=n+1:=by rw [natZ_len,U.o]);(have a3:IntsL wr (fun _=>True) A8 (natZ Ns):=by have h:=L;rw [List.take_of_length_le (by rw [U.o];exact Nat.le_refl _),<- ac] at h;exact h.toL (fun _ _ _ _=>trivial) fun _ _ _=>trivial);have aw:=zH (sums_c q n A8 c8 (natZ Ns) wr hq b8 hn ac a3 ak.o);have S:=zH (ai.o.trans (g.mono ai.o.size));have N:=zH (((bo.o.words.keep g).more g.size));clear L g a3 ac HR ah ak;go_wp2_with fail;refine aw.o.mono ?_;rintro e H ⟨⟨Ao,co,rfl,hls⟩,hb3⟩;have bi:=zH hls;have d:=zH (S.o.trans (hb3.mono S.o.size));have az:=zH (N.o.up hb3);have ar:zK (RelD2 H q n Ns (zL none 0 0) (Y 0) H):=⟨0,[],U0,rfl,rfl,NOwn.nil _ _,fun l h=>U0,Below.refl _ _⟩;clear hls hb3 aw S N;go_wp2;go_loopw [11,46] (fun v11 v46 wr=>RelD2 H q n Ns v11 v46 wr) (fun _ v46 _=>n+1-(intOf v46).toNat);case atStart=>exact ar.o
    case round =>
     obtain⟨j,Bs,hj,rfl,r,L,hf,g⟩:=hrel;obtain⟨A9,c9,e9,br,bb⟩:=L.form;rw[r] at e9;subst e9;by_cases K:j<n+1
     . (have bv : (j : Int) < (n : Int) + 1 := by omega);obtain ⟨bs,os,rfl,_,b1,a6⟩:=(bi.o.grow g) U2;obtain ⟨t,ux,bd,a8⟩:=a6 j (by simpa using K);(have bp:((List.range (n+1)).map fun j=>trO q n (natZ Ns) j (n+1)).getD j 0=trO q n (natZ Ns) j (n+1):=by simp [List.getD,K]);rw [bp] at a8;obtain ⟨C,a4,ag⟩:=a8;obtain ⟨Q,O,Z,rfl,bu,J,vx,bf⟩:=a4.toV;have s:zK (zB wr (wr.alloc (.cells #[.bool t,zL Q O.length Z] 189))):=zV.alloc zn _;have al:zK ((wr.alloc (.cells #[.bool t,zL Q O.length Z] 189)).heap[wr.heap.size]?=some (.cells #[.bool t,zL Q O.length Z] 189 (0,0))):=heap_alloc_new _ _;have a9:=trO_lim (j:=j) (As:=natZ Ns) hq b8 hn (fun x=>by rw [natZ_at];have:=qfG Ns x;have:=V.o;omega) (n+1) zn
       have b3:O.length<=200:=qfQ J (by
        rw[vx,<- qfE t C,<- ag]
        have:=lim_18.1
        have h2:(n+1)*BB^18<=70*BB^18:=Nat.mul_le_mul_right _ U0
        omega)
       have T:=zH (divMod_c Q At O lt Z ct (wr.alloc (.cells #[.bool t,zL Q O.length Z] 189)) (bf.words.up s.o) ((((az.o.keep g).more g.size)).up s.o) J bg.o U0 bu bt (by rw[W.o];exact V.o) (by rw[W.o];exact ax.o));rw[vx,W.o] at T;have av:=zH bd;have HO:=zH L;have HF:=zH hf;have HB:=zH g;have X:=zH ag;(have a0:zK (O.length=0 ↔ C=0):=by show _ ↔ _;rw[<- vx,cn_zero J,List.length_eq_zero_iff]);clear bd L hf g ag a6 a4 J vx bf a9 ar bb;generalize O.length=kx at *;go_wp2_with (refine wpList_load_mid rfl 189 (.tmp 48) rfl bs (os+j*2) rfl [.bool t,zL Q kx Z] _ av.o underlying189 rfl intSize ?_);refine T.o.mono ?_;rintro e P ⟨qv,rv,rfl,hqv,hrv,hb4⟩;obtain⟨Aq,kq,cq,rfl⟩:=qeS hqv;obtain⟨Ar,kr,cr,rfl⟩:=qeS hrv;have bj:=zH hqv;have au:=zH (natV_len hrv);have k4:=(hb4.block wr.heap.size U2).trans al.o;have z0:P.cell? (zA wr.heap.size 0)=some (.bool t):=cell_of_row _ _ 0 _ _ _ k4;have z1:P.cell? (zA wr.heap.size 1)=some (zL Q kx Z):=cell_of_row _ _ 1 _ _ _ k4;have z:=zH (HB.o.trans ((s.o.trans (hb4.mono s.o.size)).mono HB.o.size));have aq:=zH ((HO.o.grow s.o).grow hb4);have b0:zK (wr.heap.size<P.heap.size):=(Array.getElem?_eq_some_iff.1 k4).1;clear k4 hb4 hrv T al av hqv;have an:zK (kr≠0\/(t=true/\kx≠0)->¬Fine Ns.sum (trO q n (natZ Ns) j (n+1))):=fun h hf=>by
        rcases h with h|⟨h,hx0⟩
        . have h1:=hf.2;rw[X.o,qfE] at h1;exact h (au.o.2 h1)
        . subst h;have h1:=hf.1;rw[X.o] at h1;have h2:C≠0:=fun e=>hx0 (a0.o.2 e);unfold sg at h1;simp only[if_true] at h1;omega
       rcases Nat.eq_zero_or_pos kr with hr0|hr0
       . subst hr0;have bh:zK (t=false\/kx=0->Fine Ns.sum (trO q n (natZ Ns) j (n+1))/\((C / Ns.sum:Nat):Int)*Ns.sum=trO q n (natZ Ns) j (n+1)):=fun h=>by
          have hm:C % Ns.sum=0:=au.o.1 rfl;have hz:trO q n (natZ Ns) j (n+1)=(C:Int):=by
           rw[X.o];unfold sg;rcases h with rfl|h
           . simp
           . have:=a0.o.1 h;rw[this];split<;>rfl
          rw[hz];refine⟨⟨U0,by simpa using hm⟩,?_⟩;rw[<- Int.natCast_mul,Nat.div_mul_cancel (Nat.dvd_of_mod_eq_zero hm)]
         have f:zK (zB P (P.alloc (.cells #[zL Aq kq cq] 138))):=zV.alloc zn _;(have a5:NatP (P.alloc (.cells #[zL Aq kq cq] 138)) (fun b=>(Value.slice A9 j c9).ownBlock≠some b) (zL Aq kq cq) (C / Ns.sum):=by refine(bj.o.toP fun b g _ e=>?_).of_blocks U2 fun k _ hk=>heap_alloc_old _ _ hk;have h1:=(HO.o.own_lt b e).2;have h2:=s.o.size;omega);obtain⟨vn,w6,m,bc,D,ae,aa⟩:=(aq.o.grow f.o).append (b:=P.heap.size) (by have:=z.o.size;have:=f.o.size;omega) (heap_alloc_new _ _) a5 U0;have i:=zH m
         have B:zK (t=false\/kx=0->RelD2 H q n Ns vn (Y ((j:Int)+1)) w6):=fun h=>⟨j+1,Bs++[C / Ns.sum],U0,U3,by rw [List.length_append,r];rfl,bc,fun l hl=>by
          by_cases e:l=j
          . subst e
            have:(Bs++[C / Ns.sum]).getD l 0=C / Ns.sum:=by simp[List.getD,r]
            rw[this]
            exact bh.o h
          . have : (Bs ++ [C / Ns.sum]).getD l 0 = Bs.getD l 0:=by simp[List.getD,List.getElem?_append_left (show l < Bs.length by omega)]
            rw[this]
            exact HF.o l U0,(z.o.trans (f.o.mono z.o.size)).trans D⟩
         clear a5 m bc D ae aa f aq;rcases Nat.eq_zero_or_pos kx with hx0|hx0
         . subst hx0;cases t
           . go_wp2_with (at_builtin;refine qeU rfl _ (.tmp 73) 136 rfl rfl rfl i.o ?_);go_roundw;case rel=>exact B.o U2
             case measure=>simp[intOf];omega
           . go_wp2_with (at_builtin;refine qeU rfl _ (.tmp 73) 136 rfl rfl rfl i.o ?_);go_roundw;case rel=>exact B.o U2
             case measure=>simp[intOf];omega
         . (have b7 : (0 : Int) < (kx : Int) := by omega);cases t
           . go_wp2_with (at_builtin;refine qeU rfl _ (.tmp 73) 136 rfl rfl rfl i.o ?_);go_roundw;case rel=>exact B.o U2
             case measure=>simp[intOf];omega
           . go_wp2;go_ret2;exact .inr ⟨rfl,⟨j,K,an.o so⟩,d.o.trans (z.o.mono d.o.size)⟩
       . (have b6:(0:Int)<(kr:Int):=by omega);go_wp2;go_ret2;exact .inr ⟨rfl,⟨j,K,an.o (.inl U0)⟩,d.o.trans (z.o.mono d.o.size)⟩
     . (obtain rfl:j=n+1:=by omega);go_wp2;go_ret2;exact .inl ⟨A9,c9,Bs,rfl,by rw[<- r];exact br,r,bb,fun l hl=>hf l hl,d.o.trans (g.mono d.o.size)⟩
end Go.Proofs.YtflejelbdlelpaaGreat
namespace Go.Proofs.YtflejelbdlelpaaGreat
open Go.RowKit Pln
open Al
theorem leastGo_ge(f:Nat->Nat)(L:Nat):∀ g i out,L<=out->(∀ j,i<=j->j<i+g->L<=f j)->L<=Dv.leastGo f g i out
 |0,_,_,ho,_=>ho
 |g + 1,i,out,ho,h=>by
   unfold Dv.leastGo
   refine leastGo_ge f L g (i+1) _ ?_ fun j h1 h2=>h j U0 U0
   have:=h i zn U0
   omega
theorem digsBE_zero{q:Nat}(c:0<q):∀ k n,n<q ^ k->(∀ x∈Dv.digsBE q k n,x=0)->n=0
 |0,n,h,_=>by simpa using h
 | k + 1,n,h,hz => by
   unfold Dv.digsBE at hz
   have h1:n % q=0:=hz _ U2
   have b:n / q=0:=digsBE_zero c k _ (by
    rw[Nat.div_lt_iff_lt_mul c,<- Nat.pow_succ]
    exact h) fun x hx=>hz x (List.mem_append.2 (.inl hx))
   have:=Nat.div_add_mod n q
   rw[b,h1] at this
   simpa using this.symm
theorem low_word'{s:StD}(j:formZ s=0)(h:LowOk s){i:LN}(k:∀x∈i,x<s.p.toNat^s.m.toNat):WordOk s i:=by
 have d:=form_is j;have hfl:Fld (s.p.toNat^s.m.toNat) (opsS s):=fld_of (field_ft d.field);have g:=d.low1;obtain⟨f,c⟩:=cw_lin j (hfl:=hfl) (inC_lin s.n.toNat (natR s.gen)) (fun r hr=>InC.mem hr) k;have b:=wf_wt (h:=hfl) c.2;rw[c.1] at b;unfold WordOk;rcases h hfl _ f with h3|h3
 . left;rw[<- b];exact qcW h3
 . right;rw[b] at h3;omega
theorem word_ne{s:StD}(M:formZ s=0){K:LN}(O:K.length=(natR s.gen).length)(L:∀ x∈K,x<s.p.toNat ^ s.m.toNat)(N:Dv.wt (cwO s.p.toNat s.m.toNat (mdOf s.m s.mod) s.n.toNat (natR s.gen) K)=0):∀ x∈K,x=0:=by
 have u:=form_is M;have j:=field_ft u.field;have b:Fld (s.p.toNat^s.m.toNat) (opsS s):=fld_of j;have H:=El.fd (h:=b);have J:=b.q1;have c:∀r∈natR s.gen,Dv.Ok (s.p.toNat^s.m.toNat) s.n.toNat r:=fun r h=>u.grid.2 r h;have z:OpsEq (s.p.toNat^s.m.toNat) (opsS s) (refOps s.p.toNat s.m.toNat (mdOf s.m s.mod)):=ops_eq j (mdOf_len u.field);have A:Dv.Ok (s.p.toNat^s.m.toNat) s.n.toNat (List.replicate s.n.toNat 0):=Dv.zeros_ok U0;have e:cwO s.p.toNat s.m.toNat (mdOf s.m s.mod) s.n.toNat (natR s.gen) K=Dv.combO (opsS s) (List.replicate s.n.toNat 0) K (natR s.gen):=combO_eq z c K _ L A;rw[e] at N;have o:=comb_ok b (rows:=natR s.gen) K _ c L A;have q:=wf_wt (h:=b) o.2;rw[o.1,N] at q;have d:=wf_eq_zero q;obtain⟨f,_,E,B,v⟩:=gen_coef (s:=s) (p:=s) ⟨rfl,rfl,rfl⟩ M b;intro x I;obtain⟨k,g,rfl⟩:=List.mem_iff_getElem.1 I;rw[O] at g;have t:=d (f.getD k 0) (v k g)
 rw[wd_comb (h:=b) (natR s.gen) K _ c O L A,qeH,H.addZ,H.sm_one g fun i hi hik=>by
  have:wd b ((natR s.gen).getD i []) (f.getD k 0)=0:=by
   rw[<- qcJ,B i k hi g,if_neg hik,El.of_zero]
  rw[this,H.mulZ]] at t
 have D:wd b ((natR s.gen).getD k []) (f.getD k 0)=1:=by rw[<- qcJ,B k k g g,if_pos rfl,El.of_one]
 rw[D,H.umul] at t;have y:=L _ (List.getElem_mem (l:=K) (n:=k) U0);have C:K.getD k 0=K[k]:=getD_at U0;rw[C] at t;exact Classical.byContradiction fun hne=>El.of_ne y hne t
theorem low_true{d:StD}(fd:formZ d=0)(h:LowOk d):TrueOk d:=by
 have c:=form_is fd;have f:Fld (d.p.toNat^d.m.toNat) (opsS d):=fld_of (field_ft c.field);have s:=f.q1;have o:=c.low1;have r:=c.low2;have i:(natR d.gen).length=d.gen.length:=by unfold natR;rw[List.length_map]
 unfold TrueOk;have:=leastGo_ge (wtAt d.p.toNat d.m.toNat (mdOf d.m d.mod) d.n.toNat (natR d.gen)) d.low.toNat ((d.p.toNat^d.m.toNat)^d.gen.length-1) 1 (d.n.toNat+1) U0 fun j j1 j2=>by
  have l:j<(d.p.toNat^d.m.toNat)^(natR d.gen).length:=by rw[i];omega
  have g:=Dv.digsBE_len (d.p.toNat^d.m.toNat) (natR d.gen).length j;have b:=Dv.digsBE_lt (q:=d.p.toNat^d.m.toNat) U0 (natR d.gen).length j;have k:=low_word' fd h b;unfold WordOk at k;unfold wtAt;rcases k with h0|h3
  . have:=digsBE_zero U0 _ j l (word_ne fd g b h0);omega
  . omega
 omega
end Go.Proofs.YtflejelbdlelpaaGreat
