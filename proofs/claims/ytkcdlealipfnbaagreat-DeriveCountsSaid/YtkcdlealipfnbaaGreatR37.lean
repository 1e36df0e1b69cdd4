/- Parts of the proof. -/
import Derived.Test.YtkcdlealipfnbaaGreatR36
import Derived.Test.YtkcdlealipfnbaaGreatR31
set_option maxRecDepth 100000
set_option maxHeartbeats 8000000
namespace Go.Proofs.YtkcdlealipfnbaaGreat
open Go.RowKit Pln Go.Proofs.Tryz
def trO(q n:Nat)(As:LI)(j i:Nat):Int:=Al.zs i fun x=>As.getD x 0*Al.tb q n x j
theorem intP_zero{w:Wo}{p:Nat->Prop}{n:Bool}{A:OA}{c:Nat}{Z:Int}(h:IntP w p n (zL A 0 c) Z):Z=0:=by obtain⟨N,⟨f,l,g,e,_,_,b,_⟩,d⟩:=h;injection e with _ e _;rw[List.length_eq_zero_iff.1 e.symm] at b;rw[d,<- b];unfold sg;split<;>rfl
def RelQs1(w1:Wo)(q n c:Nat)(As:LI)(v20:Value)(wr:Wo):Prop:=
 ∃(j:Nat)(Zs:LI),j<=n+1/\v20=Y (j:Int)/\Zs.length=n+1/\(∀l,l<j->Zs.getD l 0=trO q n As l (n+1))/\(∀l,j<=l->Zs.getD l 0=0)/\IOwn wr w1.heap.size (fun _=>True) (zS w1.heap.size (n+1) c) Zs/\zB w1 wr
def RelQs2(w1:Wo)(q n c j:Nat)(As:LI)(v25:Value)(wr:Wo):Prop:=
 ∃(i:Nat)(Zs:LI),i<=n+1/\v25=Y (i:Int)/\Zs.length=n+1/\(∀l,l<j->Zs.getD l 0=trO q n As l (n+1))/\(∀l,j+1<=l->Zs.getD l 0=0)/\Zs.getD j 0=trO q n As j i/\IOwn wr w1.heap.size (fun _=>True) (zS w1.heap.size (n+1) c) Zs/\zB w1 wr
theorem trO_lim{q n:Nat}{As:LI}(o:2<=q)(h:q<=256)(m:n<=64)(l:∀ x,(As.getD x 0).natAbs<=BB)(j:Nat):∀ i,i<=n+1->(trO q n As j i).natAbs<=i*BB ^ 18
 |0,_=>by
   rw[Nat.zero_mul]
   exact Nat.le_refl 0
 |i + 1,hi=>by
   have ih:=trO_lim o h m l j i U0
   have b:=tab_lim (k:=j) o h m (show i<=n by omega)
   have c:=l i
   show(trO q n As j i+As.getD i 0*Al.tb q n i j).natAbs<=_
   have d:=Int.natAbs_add_le (trO q n As j i) (As.getD i 0*Al.tb q n i j)
   rw[Int.natAbs_mul] at d
   have f:(As.getD i 0).natAbs*(Al.tb q n i j).natAbs<=BB*BB^17:=Nat.mul_le_mul c (Nat.le_of_lt b)
   have g:BB^18=BB^17*BB:=Nat.pow_succ BB 17
   rw[Nat.add_mul,Nat.one_mul]
   rw[Nat.mul_comm BB] at f
   omega
theorem lim_18:70*BB^18<LIM/\BB*BB^17=BB^18/\BB<LIM/\BB^17<LIM:=by have c:BB^18=BB^17*BB:=Nat.pow_succ BB 17;have h:BB^19=BB^18*BB:=Nat.pow_succ BB 18;have i:BB^19<BB^200:=Nat.pow_lt_pow_right dc dc;have d:(70:Nat)<=BB:=dc;have f:BB^18*70<=BB^18*BB:=Nat.mul_le_mul_left _ d;have b:BB^1<BB^200:=Nat.pow_lt_pow_right dc dc;have g:BB^17<BB^200:=Nat.pow_lt_pow_right dc dc;unfold LIM;rw[Nat.pow_one] at b;rw[Nat.mul_comm] at f;exact⟨U0,by rw[c,Nat.mul_comm],b,g⟩
theorem sums_c(q n:Nat)(A:OA)(c:Nat)(As:LI)(w:Wo)(hq:2<=q)(cg:q<=256)(hn:n<=64)(hl:As.length=n+1)(hA:IntsL w (fun _=>True) A As)(cf:∀ x,(As.getD x 0).natAbs<=BB):
 zC 172 #[Y (q:Int),zL A (n+1) c] w fun e w'=>(∃Ao co,e=.returned (zL Ao (n+1) co)/\IntsL w' (fun _=>True) Ao ((List.range (n+1)).map fun j=>trO q n As j (n+1)))/\zB w w':=by
 obtain⟨i0,hi,a9,f,m⟩:=qaF infoInteger;have HI:=zH hi;have ac:=zH a9;have bp:=zH f;have be:=zH (show i0.bytes*(n+1)<=281474976710656 by rw[m];omega);have bf:=zH (show n+1<=maxLen by unfold maxLen;omega);have HA:=zH hA;have ap:=zH cf;have HL:=zH hl;have aw:=zH (table_c q n w hq cg hn);clear hi a9 f m hA cf hl;go_enter func172,ntmps172;go_wp2_with fail;refine aw.o.mono ?_;rintro e r ⟨⟨At,ct,rfl,ht⟩,hb1⟩;have HT:=zH ht;have ai:=zH hb1;have bd:=zH (HA.o.grow hb1);clear ht hb1 aw HA;go_wp2_with (refine wpList_make_full r rfl (.tmp 16) (.tmp 16) 194 rfl r.heap.size 196 i0 (.agg #[.bool false,zL none 0 0]) 2 underlying194 HI.o ac.o bp.o .i64 .i64 (n+1) (n+1) (n+1) rfl rfl U3 U3 be.o bf.o zn ?_;intro w2 Q a3);have HR:zK (RelQs1 r q n (n+1) As (Y 0) w2):=⟨0,List.replicate (n+1) 0,U0,rfl,U2,fun l h=>U0,fun l _=>by simp[List.getD,List.getElem?_replicate];split<;>rfl,IOwn.of_make Q,qaL a3⟩;clear Q a3;go_loopw [20] (fun v20 wr=>RelQs1 r q n (n+1) As v20 wr) (fun v20 _=>n+1-(intOf v20).toNat);case atStart=>exact HR.o
 case round =>
  obtain⟨j,s,hj,rfl,g,f,m,P,H⟩:=hrel;by_cases b8:j<n+1
  . (have bx : (j : Int) < (n : Int) + 1 := by omega);have X:zK (RelQs2 r q n (n+1) j As (Y 0) wr):=⟨0,s,U0,rfl,g,f,fun l hl=>m l U0,by rw [m j zn];rfl,P,H⟩;clear g f m P H HR;go_wp2_with fail;generalize wr=wo at *;go_loopw [25] (fun v25 wr=>RelQs2 r q n (n+1) j As v25 wr) (fun v25 _=>n+1-(intOf v25).toNat);case atStart=>exact X.o
    case round =>
     obtain⟨i,s,hi,rfl,g,f,m,M,P,H⟩:=hrel;by_cases b3:i<n+1
     . (have bw : (i : Int) < (n : Int) + 1 := by omega);obtain ⟨ba,oa,rfl,_,bv,C⟩:=(bd.o.grow H) (by rw [HL.o];omega);obtain ⟨E,ua,a5,ad⟩:=C i (by rw [HL.o];omega);obtain ⟨J,I,ca,rfl⟩:=ad.slice;have aa:=zH a5;have HO:=zH P;have HB:=zH H;have N:=zH f;have O:=zH m;have ay:=zH M;have S:=zH ad;clear a5 P H f m M ad C X;have v:zK (zB wr (wr.alloc (.cells #[.bool E,zL J I ca] 196))):=zV.alloc zn _;have ao:zK ((wr.alloc (.cells #[.bool E,zL J I ca] 196)).heap[wr.heap.size]?=some (.cells [.bool E,zL J I ca].toArray 196 (0,0))):=heap_alloc_new _ _;have W:=zH (HO.o.grow v.o);have K:=zH (HB.o.trans (v.o.mono HB.o.size));by_cases bu:I=0
       . subst bu;have ac:=zH (intP_zero S.o);go_wp2_with (refine wpList_load_mid rfl 196 (.tmp 28) rfl ba (oa+i*2) rfl [.bool E,zL J 0 ca] _ aa.o underlying196 rfl intSize ?_);go_roundw;case rel=>refine⟨i+1,s,U0,U3,g,N.o,O.o,?_,W.o,K.o⟩;show _=trO q n As j i+As.getD i 0*Al.tb q n i j;rw[ac.o,Int.zero_mul,Int.add_zero,ay.o]
         case measure=>simp[intOf];omega
       . (have b7 : (0 : Int) < (I : Int) := by omega);have an:=zH (S.o.of_blocks v.o.size fun k _ hk=>v.o.block k hk);go_wp2_with (refine wpList_load_mid rfl 196 (.tmp 28) rfl ba (oa+i*2) rfl [.bool E,zL J I ca] _ aa.o underlying196 rfl intSize ?_);have av:zK ((wr.alloc (.cells #[.bool E,zL J I ca] 196)).rangeAt wr.heap.size 0 [.bool E,zL J I ca]):=range_of_row ao.o;obtain ⟨bt,rfl,bq,D⟩:=HT.o.grow K.o;obtain ⟨Ar,cr,a2,a4⟩:=D i U0;obtain ⟨br,bc,rfl,_,bz,C⟩:=a4 (by rw [qfA];omega);obtain ⟨nk,uk,a6,ae⟩:=C j (by rw [qfA];omega);rw [rowQ_at U0] at ae;obtain ⟨Ak,kk,ck,rfl⟩:=ae.slice;have t:=W.o;rw [<- g] at t;obtain ⟨go,no,uo,e0,bs,b1,a7,_,af⟩:=t.read (j:=j) U0;injection e0 with e0;injection e0 with e0;subst e0;obtain ⟨Ao,ko,co,rfl⟩:=af.slice;rw [ay.o] at af;have au:=zH a7;have ar:=zH a6;have ak:=zH a2;obtain ⟨Ma,az,ag⟩:=an.o;obtain ⟨Mk,a0,ah⟩:=ae;obtain ⟨Mo,a1,bb⟩:=af;have bh:=zH az.toV;have bi:=zH a0.toV;have bj:=zH a1.toV;(have la:Ma<=BB:=by rw [<- qfE E Ma,<- ag];exact ap.o i);(have lk:Mk<BB ^ 17:=by rw [<- qfE nk Mk,<- ah];exact tab_lim hq cg hn U0);(have lo:Mo<=i*BB ^ 18:=by rw [<- qfE no Mo,<- bb];exact trO_lim hq cg hn ap.o j i U0);have bg:zK (Mo<=66*BB ^ 18):=Nat.le_trans lo (Nat.mul_le_mul_right _ U0);clear ao an D a4 C t a7 a6 a2 az a0 a1 aa S;generalize wr.alloc (.cells #[.bool E,zL J I ca] 196)=wx at *;have z:zK (LSq wx wx.drew):=zV.drew;have al:zK (∀ V,LSq wx V->V.cell? (zA bt i)=some (zL (some (zA br bc)) (n+1) cr)):=fun V L=>(Below.cell (p:=(zA bt i)) L bq).trans ak.o;refine qaS 16 16 (LSq wx) [(1,0),(1,1),(1,2),(1,3),(1,4),(0,5),(0,6),(1,7),(1,8),(1,9),(0,10),(1,11),(1,12),(0,13),(2,14),(2,15)] default U1 U1 (fun _ _ d _ _ h=>by cases d <;> exact h) z.o ?_;have b6:(j:Int)<(n:Int)+1:=U0;have b2:(i:Int)<(n:Int)+1:=U0;simp only [List.map_cons,List.map_nil,List.getD_cons_zero,List.getD_cons_succ]
         iterate 5
          apply qaM rfl
          . intro V
            go_simp
            rfl
          go_simp
         refine qaT rfl 196 (.tmp 38) rfl r.heap.size (j*2) rfl [.bool no,zL Ao ko co] _ (fun V L=>qeZ au.o L) underlying196 rfl intSize ?_;go_simp;refine qaT rfl 196 (.tmp 9) rfl wr.heap.size 0 rfl [.bool E,zL J I ca] _ (fun V L=>qeZ av.o L) underlying196 rfl intSize ?_;go_simp
         iterate 3
          apply qaM rfl
          . intro V
            go_simp
            rfl
          go_simp
         apply qbF rfl
         . intro V L;have y:=al.o V L;go_simp;rfl
         go_simp
         iterate 2
          apply qaM rfl
          . intro V
            go_simp
            rfl
          go_simp
         refine qaT rfl 196 (.tmp 46) rfl br (bc+j*2) rfl [.bool nk,zL Ak kk ck] _ (fun V L=>qeZ ar.o L) underlying196 rfl intSize ?_;go_simp;obtain⟨L1,L2,L3,L4⟩:=lim_18;have ce:=bg.o;(have lp:Ma*Mk<=BB^18:=by rw[<- L2];exact Nat.mul_le_mul la (Nat.le_of_lt lk));have T:=zH (timesI_c E nk _ _ Ma Mk wx.drew (bh.o.grow z.o) (bi.o.grow z.o) U0 U0 U0);rw[<- ag,<- ah] at T;apply qbE rfl
         . go_simp;exact⟨rfl,rfl⟩
         go_fit T.o;rintro e w2 ⟨n1,v1,rfl,⟨M1,hM1,f⟩,hb2⟩;obtain⟨A1,k1,c1,rfl⟩:=qeS hM1;have B:zK (LSq wx w2):=z.o.trans (hb2.mono z.o.size);have ax:=zH (hM1.low (Nat.zero_le _));(have cd:M1=Ma*Mk:=by have h1:=qfE n1 M1;rw[<- f,Int.natAbs_mul,ag,ah,qfE,qfE] at h1;exact h1.symm);have U:=zH (plusI_c no n1 _ _ Mo M1 w2 (bj.o.grow B.o) ax.o U0);rw[<- bb,<- f] at U;refine⟨_,rfl,B.o,?_⟩;clear T hM1 hb2;go_simp;apply qbE rfl
         . go_simp;exact⟨rfl,rfl⟩
         go_fit U.o;rintro e w3 ⟨n2,v2,rfl,hv2,hb3⟩;obtain⟨A2,k2,c2,rfl⟩:=qeS hv2.choose_spec.1;have ab:zK (LSq wx w3):=B.o.trans (hb3.mono B.o.size);have bo:=zH hv2;refine⟨_,rfl,ab.o,?_⟩;have b9:=B.o.size;clear U hv2 hb3 ax al ar ak av au;go_simp;refine qbH ?_;(have aq:zK (IOwn w3 r.heap.size (fun _=>True) (zS r.heap.size s.length (n+1)) s):=by show IOwn _ _ _ _ _;rw[g];exact(HO.o.grow v.o).grow ab.o);obtain⟨g3,_,_,e3,_,b0,_,a8,_⟩:=aq.o.read (j:=j) U0;injection e3 with e3;injection e3 with e3;subst e3;have bn:=zH a8;have aj:zK (zB r w3):=K.o.trans (Below.mono ab.o K.o.size);clear a8;go_wp2_with (refine wpList_store_mid rfl 196 (.tmp 50) (.tmp 49) rfl r.heap.size (j*2) #[.bool n2,zL A2 k2 c2] rfl rfl bn.o intSize sc ?_);go_roundw;case rel=>
          (have bs:r.heap.size<w2.heap.size:=by obtain⟨xs,h,_⟩:=W.o;have:=(World.ownsRow.lt h r.heap.size rfl).2;omega)
          have R:=aq.o.set (j:=j) (Z:=trO q n As j (i+1)) (n:=n2) (u:=zL A2 k2 c2) U0 (by
           refine IntV.toP (lo:=w2.heap.size) ?_ fun b H _=>⟨trivial,U0⟩
           show IntV _ _ _ _ (trO q n As j i+As.getD i 0*Al.tb q n i j)
           exact bo.o)
          rw[g] at R;refine⟨i+1,s.set j (trO q n As j (i+1)),U0,U3,by rw[List.length_set,g],fun l hl=>?_,fun l hl=>?_,?_,R,(aj.o.setCell (p:=(zA r.heap.size (j*2))) zn _).setCell (p:=(zA r.heap.size (j*2+1))) zn _⟩
          . (have:(s.set j (trO q n As j (i+1))).getD l 0=s.getD l 0:=by simp[List.getD,show j≠l by omega]);rw[this];exact N.o l hl
          . (have:(s.set j (trO q n As j (i+1))).getD l 0=s.getD l 0:=by simp[List.getD,show j≠l by omega]);rw[this];exact O.o l hl
          . simp[List.getD,show j<s.length by omega]
         case measure=>simp[intOf];omega
     . (obtain rfl : i = n + 1 := by omega)
       have bm:zK (RelQs1 r q n (n+1) As (Y ((j:Int)+1)) wr):=⟨j+1,s,U0,U3,g,fun l hl=>by
        by_cases e:l=j
        . rw[e,M]
        . exact f l U0,m,P,H⟩
       clear g f m M P H X;go_wp2;go_roundw;case rel=>exact bm.o
       case measure=>simp[intOf];omega
  . (obtain rfl : j = n + 1 := by omega);go_wp2;go_ret;have e:s=(List.range (n+1)).map fun j=>trO q n As j (n+1):=by
     apply List.ext_getElem
     . simp[g]
     . intro l h1 h2;have h3:=f l U0;(have h4:s.getD l 0=s[l]:=by simp[List.getD,h1]);rw[<- h4,h3];simp
    have t:=P;rw[<- g] at t;refine⟨⟨_,_,rfl,?_⟩,ai.o.trans (H.mono ai.o.size)⟩;rw[<- e];exact t.toL (fun _ _ _ _=>trivial) fun _ _ _=>trivial
theorem infoNat:(prog.info? 143).map (fun i=>(i.zero,i.size,i.bytes))=some (some (zL none 0 0),1,24):=U1
def NOwn(w:Wo)(B:Nat)(v:Value)(Ns:LN):Prop:=
 ∃xs,w.ownsRow B 143 1 v Ns.length xs/\∀j,j<Ns.length->∃u,xs[j]?=some u/\NatP w (fun b=>v.ownBlock≠some b) u (Ns.getD j 0)
section
variable {w w':Wo} {p:Nat->Prop} {B N:Nat} {u v:Value} {Ns:LN}
theorem NOwn.nil(w:Wo)(B:Nat):NOwn w B (zL none 0 0) []:=⟨[],World.ownsRow_nil _ _ _ _,fun j hj=>by simp at hj⟩
theorem NOwn.grow(h:NOwn w B v Ns)(l:zB w w'):NOwn w' B v Ns:=by
 obtain⟨i,b,d⟩:=h;refine⟨i,⟨b.1,?_⟩,fun j hj=>?_⟩
 . rcases b.2 with h|⟨g,cap,cur,hv,hB,hh,r⟩
   . exact .inl h
   . exact .inr ⟨g,cap,cur,hv,hB,(l.block g (Array.getElem?_eq_some_iff.1 hh).1).trans hh,r⟩
 . obtain⟨u,c,f⟩:=d j hj;exact⟨u,c,f.of_blocks l.size fun k _ hk=>l.block k hk⟩
theorem NOwn.form(h:NOwn w B v Ns):∃A c,v=zL A Ns.length c/\Ns.length<=c/\NatsAt w A Ns:=by
 obtain⟨p,b,i⟩:=h;rcases b.2 with⟨e,f⟩|⟨g,cap,cur,n,o,m,l,_⟩
 . exact⟨none,0,by rw[f];exact e,U0,fun h=>U0⟩
 . subst n;refine⟨_,_,rfl,l,fun _=>⟨g,0,rfl,(Array.getElem?_eq_some_iff.1 m).1,fun j hj=>?_⟩⟩;obtain⟨u,d,k⟩:=i j hj;exact⟨u,by rw[Nat.zero_add,World.ownsRow.cellAt b j U0,d],k.toV⟩
theorem NOwn.append(h:NOwn w B v Ns)(I:B<=w.heap.size){b:Nat}(H:w.heap[b]?=some (.cells #[u] 143 (0,0)))(J:NatP w (fun b=>v.ownBlock≠some b) u N)(K:Ns.length<=1000000):
 ∃v' w',(Builtin.append_ #[141,141] 141 #[v,zS b 1 1]).run prog w=.ok v' w'/\NOwn w' B v' (Ns++[N])/\Below B w w'/\w.heap.size<=w'.heap.size/\∀k,k<w.heap.size->v.ownBlock≠some k->w'.heap[k]?=w.heap[k]?:=by
 obtain⟨D,n,p,r,s⟩:=qaF infoNat;obtain⟨t,o,A⟩:=h
 obtain ⟨g,cap,w',l,i,d,m,f⟩:=run_append_lies (P:=prog) (w:=w) 141 141 B 143 D _ 1 24 underlying141 n p r s rfl dc v Ns.length t o (zA b 0) 1 1 [u] rfl (World.news_of_block H)
  (fun y hy=>by
    rw[List.mem_singleton.1 hy]
    exact natV_one J.toV) U0 ml U0 I w.heap.size rfl
 refine⟨_,w',l,⟨t++[u],by rw[List.length_append];exact i,fun j hj=>?_⟩,zV.grown d I (fun k H=>(World.ownsRow.lt o k H).1),d.size,fun k H hne=>d.block k H fun e=>hne e.symm⟩;have E:=o.1;rw[List.length_append,List.length_singleton] at hj;have c:∀{y:Value}{M:Nat},NatP w (fun b=>v.ownBlock≠some b) y M->NatP w' (fun b=>(Value.slice (zO g) (Ns.length+1) cap).ownBlock≠some b) y M:=fun{y M} n=>by
  refine((n.imp (q:=fun b=>v.ownBlock≠some b/\b<w.heap.size) fun b hb hp=>⟨hp,hb⟩).of_blocks d.size fun k H f=>d.block k f fun e=>H.1 e.symm).imp fun b _ hb e=>?_;have z:g=b:=by simpa[Value.ownBlock] using e
  rcases m with h|h
  . exact hb.1 (by rw[h,z])
  . have:=hb.2;omega
 by_cases e:j=Ns.length
 . subst e;(have:(Ns++[N]).getD Ns.length 0=N:=by simp[List.getD]);rw[this];exact⟨u,by rw[List.getElem?_append_right U0];simp[show Ns.length-t.length=0 by omega],c J⟩
 . obtain⟨y,x,C⟩:=A j U0;(have:(Ns++[N]).getD j 0=Ns.getD j 0:=by simp[List.getD,List.getElem?_append_left (show j<Ns.length by omega)]);rw[this];exact⟨y,by rw[List.getElem?_append_left U0];exact x,c C⟩
end
theorem shape_n(n:Nat)(w:Wo)(d:1<=n)(f:n<=65):zC 212 #[Y (n:Int)] w fun e w'=>e=.returned (Y 0)/\w=w':=by have b:decide ((n:Int)<1)=false:=decide_eq_false U0;have c:decide ((65:Int)<(n:Int))=false:=decide_eq_false U0;go_enter func212,ntmps212;go_wp2;go_ret;exact⟨rfl,rfl⟩
theorem wrong_n(q n:Nat)(w:Wo)(i:2<=q)(h:q<=256)(f:1<=n)(g:n<=65):zC 170 #[Y (q:Int),Y (n:Int)] w fun e w'=>e=.returned (Y 0)/\w=w':=by have c:decide ((q:Int)<2)=false:=decide_eq_false U0;have d:decide ((256:Int)<(q:Int))=false:=decide_eq_false U0;have b:=zH (shape_n n w f g);go_enter func170,ntmps170;go_wp2_with fail;refine b.o.mono ?_;rintro e w' ⟨rfl,rfl⟩;go_wp2;go_ret;exact⟨rfl,rfl⟩
def natZ(Ns:LN):LI:=Ns.map fun x:Nat=>(x:Int)
theorem natZ_len(Ns:LN):(natZ Ns).length=Ns.length:=by simp[natZ]
theorem natZ_at(Ns:LN)(j:Nat):(natZ Ns).getD j 0=((Ns.getD j 0:Nat):Int):=by unfold natZ;simp only[List.getD,List.getElem?_map];cases Ns[j]?<;>simp
def Fine(T:Nat)(Z:Int):Prop:=0<=Z/\Z.natAbs % T=0
def DualP(q n:Nat)(Ns:LN)(e:Ending)(w w':Wo):Prop:=
 (∃A c Bs,e=.returned (.tuple #[zL A (n+1) c,Y 0])/\n+1<=c/\Bs.length=n+1/\NatsAt w' A Bs/\(∀j,j<n+1->Fine Ns.sum (trO q n (natZ Ns) j (n+1))/\(Bs.getD j 0:Int)*Ns.sum=trO q n (natZ Ns) j (n+1))/\zB w w')\/
 (e=.returned (.tuple #[zL none 0 0,Y 5])/\(∃j,j<n+1/\¬Fine Ns.sum (trO q n (natZ Ns) j (n+1)))/\zB w w')
theorem IOwn.own_lt{w:Wo}{B:Nat}{p:Nat->Prop}{v:Value}{d:LI}(h:IOwn w B p v d):∀k,v.ownBlock=some k->B<=k/\k<w.heap.size:=by obtain⟨c,b,_⟩:=h;exact World.ownsRow.lt b
def RelD1(w1:Wo)(Ns:LN)(v8 v31:Value)(wr:Wo):Prop:=
 ∃k:Nat,k<=Ns.length/\v31=Y (k:Int)/\IOwn wr w1.heap.size (fun _=>True) v8 (natZ (Ns.take k))/\zB w1 wr
theorem natZ_snoc{Ns:LN}{k:Nat}(b:k<Ns.length):natZ (Ns.take (k+1))=natZ (Ns.take k)++[((Ns.getD k 0:Nat):Int)]:=by unfold natZ;rw[List.take_add_one,List.map_append];simp[List.getD,b]
theorem qfG:∀ (l:LN)(j:Nat),l.getD j 0<=l.sum
 |[],j=>by simp[List.getD]
 |x :: l,0=>by simp[List.getD]
 |x :: l,j + 1=>by
   have:=qfG l j
   simp only[List.getD_cons_succ,List.sum_cons]
   omega
theorem natV_len{w:Wo}{lo N k c:Nat}{A:OA}(h:NatV w lo (zL A k c) N):k=0 ↔ N=0:=by obtain⟨f,l,g,e,_,b,d,_⟩:=h;injection e with _ e _;rw[e,<- d,cn_zero b,List.length_eq_zero_iff]
def RelD2(w3:Wo)(q n:Nat)(Ns:LN)(v11 v46:Value)(wr:Wo):Prop:=
 ∃(j:Nat)(Bs:LN),j<=n+1/\v46=Y (j:Int)/\Bs.length=j/\NOwn wr w3.heap.size v11 Bs/\(∀l,l<j->Fine Ns.sum (trO q n (natZ Ns) l (n+1))/\(Bs.getD l 0:Int)*Ns.sum=trO q n (natZ Ns) l (n+1))/\zB w3 wr
theorem NOwn.own_lt{w:Wo}{B:Nat}{v:Value}{Ns:LN}(h:NOwn w B v Ns):∀k,v.ownBlock=some k->B<=k/\k<w.heap.size:=by obtain⟨c,b,_⟩:=h;exact World.ownsRow.lt b
theorem mdual_c(q n:Nat)(A:OA)(c:Nat)(Ns:LN)(w:Wo)(hq:2<=q)(b8:q<=256)(hn:n<=64)(hl:Ns.length=n+1)(hA:NatsAt w A Ns)(hs:Ns.sum<BB)(b9:0<Ns.sum):
 zC 119 #[Y (q:Int),zL A (n+1) c] w fun e w'=>DualP q n Ns e w w':=by
 have af:=wrong_n q (n+1) w hq b8 U0 U0;rw[show((n+1:Nat):Int)=(n:Int)+1 by omega] at af;have ay:=zH af;have R:=zH (natAdd_c A Ns c w hA (Nat.lt_trans hs lim_18.2.2.1) U0);rw[hl] at R;have HA:=zH hA;have U:=zH hl;have ax:=zH b9;have V:=zH hs;have ak:zK (∀x,((natZ Ns).getD x 0).natAbs<=BB):=fun x=>by rw[natZ_at];have:=qfG Ns x;omega
 clear af hA hl b9 hs;go_enter func119,ntmps119;go_wp2_with fail;refine ay.o.mono ?_;rintro e w' ⟨rfl,rfl⟩;clear ay;go_wp2_with fail;refine R.o.mono ?_;rintro e w1 ⟨vt,rfl,ht,hb1⟩;obtain⟨At,lt,ct,rfl,bt,a1,M,be⟩:=ht;have bx:((lt.length:Int)==0)=false:=by rw[beq_eq_false_iff_ne];intro e;have e2:lt.length=0:=U0;rw[List.length_eq_zero_iff.1 e2] at M;have h0:=ax.o;rw[<- M] at h0;exact Nat.lt_irrefl _ h0
 have bg:=zH a1;have W:=zH M;have bo:=zH be;have ai:=zH hb1;have ah:=zH (HA.o.grow hb1);have HR:zK (RelD1 w1 Ns (zL none 0 0) (Y 0) w1):=⟨0,U0,rfl,IOwn.nil _ _ _,Below.refl _ _⟩;clear a1 M be hb1 R HA;go_wp2;go_loopw [8,31] (fun v8 v31 wr=>RelD1 w1 Ns v8 v31 wr) (fun _ v31 _=>n+1-(intOf v31).toNat);case atStart=>exact HR.o
 case round =>
  obtain⟨k,hk,rfl,L,g⟩:=hrel;obtain⟨A8,c8,e8,_,_⟩:=L.form;rw[natZ_len,List.length_take,Nat.min_eq_left hk] at e8;subst e8;by_cases ba:k<n+1
  . (have bw : (k : Int) < (n : Int) + 1 := by omega);obtain ⟨b,o,rfl,r,E⟩:=ah.o (by rw [U.o];omega);obtain ⟨u,a7,A2,l2,c2,rfl,bq,I,v2,w2⟩:=E k (by rw [U.o];exact ba);have y:wr.cell? (zA b (o+k))=some (zL A2 l2.length c2):=(g.cell (p:=(zA b (o+k))) r).trans a7
    have b2:l2.length<=1:=cn_len I (by
     rw[v2,Nat.pow_one]
     exact Nat.lt_of_le_of_lt (qfG Ns k) V.o)
    have HT:=zH (trim_c A2 l2 c2 wr ((w2.words.keep g).more g.size) U0 bq);rw[cn_trm I] at HT;have aj:=zH I;have bn:=zH v2;have HO:=zH L;have HB:=zH g;have bm:=zH (natZ_snoc (Ns:=Ns) (k:=k) (by rw[U.o];exact ba));clear E a7 I v2 w2 L g HR;go_wp2_with fail;refine HT.o.mono ?_;rintro e H ⟨v,rfl,hov,hb3⟩;(have ad:NatV H wr.heap.size v (Ns.getD k 0):=by rw[<- cn_trm aj.o] at hov;rw[<- bn.o];exact hov.nat aj.o.1);obtain⟨A3,k3,c3,rfl⟩:=qeS ad;have ao:=zH ad;have ap:=zH (HO.o.grow hb3);have d:=zH (HB.o.trans (hb3.mono HB.o.size));have bz:=zH hb3.size;clear hov ad hb3 HT y;have f:zK (zB H (H.alloc (.cells #[.bool false,zL A3 k3 c3] 196))):=zV.alloc zn _;(have a2:IntP (H.alloc (.cells #[.bool false,zL A3 k3 c3] 196)) (fun b=>True/\(Value.slice A8 k c8).ownBlock≠some b) false (zL A3 k3 c3) ((Ns.getD k 0:Nat):Int):=by refine(IntV.toP (lo:=wr.heap.size) ⟨_,ao.o,rfl⟩ fun b g _=>(⟨trivial,fun e=>?_⟩:True/\(Value.slice A8 k c8).ownBlock≠some b)).of_blocks U2 fun k _ hk=>heap_alloc_old _ _ hk;have:=(HO.o.own_lt b e).2;omega);obtain⟨vn,w6,m,ab,D,ae,aa⟩:=(ap.o.grow f.o).append (b:=H.heap.size) (Nat.le_trans d.o.size f.o.size) (heap_alloc_new _ _) a2 rfl (by rw[natZ_len,List.length_take];omega);rw[<- bm.o] at ab;have i:=zH m;have B:zK (RelD1 w1 Ns vn (Y ((k:Int)+1)) w6):=⟨k+1,by rw[U.o];omega,U3,ab,(d.o.trans (f.o.mono d.o.size)).trans D⟩;clear a2 m ab D ae aa HO ap ao f d;go_wp2_with (at_builtin;refine qeU rfl _ (.tmp 39) 194 rfl rfl rfl i.o ?_);go_roundw;case rel=>exact B.o
    case measure=>simp[intOf];omega
  . (obtain rfl : k = n + 1 := by have:=U.o;omega);(have ac:(natZ Ns).length=n+1:=by rw [natZ_len,U.o]);(have a3:IntsL wr (fun _=>True) A8 (natZ Ns):=by have h:=L;rw [List.take_of_length_le (by rw [U.o];exact Nat.le_refl _),<- ac] at h;exact h.toL (fun _ _ _ _=>trivial) fun _ _ _=>trivial);have aw:=zH (sums_c q n A8 c8 (natZ Ns) wr hq b8 hn ac a3 ak.o);have S:=zH (ai.o.trans (g.mono ai.o.size));have N:=zH (((bo.o.words.keep g).more g.size));clear L g a3 ac HR ah ak;go_wp2_with fail;refine aw.o.mono ?_;rintro e H ⟨⟨Ao,co,rfl,hls⟩,hb3⟩;have bi:=zH hls;have d:=zH (S.o.trans (hb3.mono S.o.size));have az:=zH (N.o.up hb3);have ar:zK (RelD2 H q n Ns (zL none 0 0) (Y 0) H):=⟨0,[],U0,rfl,rfl,NOwn.nil _ _,fun l h=>U0,Below.refl _ _⟩;clear hls hb3 aw S N;go_wp2;go_loopw [11,46] (fun v11 v46 wr=>RelD2 H q n Ns v11 v46 wr) (fun _ v46 _=>n+1-(intOf v46).toNat);case atStart=>exact ar.o
    case round =>
     obtain⟨j,Bs,hj,rfl,r,L,hf,g⟩:=hrel;obtain⟨A9,c9,e9,br,bb⟩:=L.form;rw[r] at e9;subst e9;by_cases K:j<n+1
     . (have bv : (j : Int) < (n : Int) + 1 := by omega);obtain ⟨bs,os,rfl,_,b1,a6⟩:=(bi.o.grow g) U2;obtain ⟨t,ux,bd,a8⟩:=a6 j (by simpa using K);(have bp:((List.range (n+1)).map fun j=>trO q n (natZ Ns) j (n+1)).getD j 0=trO q n (natZ Ns) j (n+1):=by simp [List.getD,K]);rw [bp] at a8;obtain ⟨C,a4,ag⟩:=a8;obtain ⟨Q,O,Z,rfl,bu,J,vx,bf⟩:=a4.toV;have s:zK (zB wr (wr.alloc (.cells #[.bool t,zL Q O.length Z] 196))):=zV.alloc zn _;have al:zK ((wr.alloc (.cells #[.bool t,zL Q O.length Z] 196)).heap[wr.heap.size]?=some (.cells #[.bool t,zL Q O.length Z] 196 (0,0))):=heap_alloc_new _ _;have a9:=trO_lim (j:=j) (As:=natZ Ns) hq b8 hn (fun x=>by rw [natZ_at];have:=qfG Ns x;have:=V.o;omega) (n+1) zn
       have b3:O.length<=200:=qfQ J (by
        rw[vx,<- qfE t C,<- ag]
        have:=lim_18.1
        have h2:(n+1)*BB^18<=70*BB^18:=Nat.mul_le_mul_right _ U0
        omega)
       have T:=zH (divMod_c Q At O lt Z ct (wr.alloc (.cells #[.bool t,zL Q O.length Z] 196)) (bf.words.up s.o) ((((az.o.keep g).more g.size)).up s.o) J bg.o U0 bu bt (by rw[W.o];exact V.o) (by rw[W.o];exact ax.o));rw[vx,W.o] at T;have av:=zH bd;have HO:=zH L;have HF:=zH hf;have HB:=zH g;have X:=zH ag;(have a0:zK (O.length=0 ↔ C=0):=by show _ ↔ _;rw[<- vx,cn_zero J,List.length_eq_zero_iff]);clear bd L hf g ag a6 a4 J vx bf a9 ar bb;generalize O.length=kx at *;go_wp2_with (refine wpList_load_mid rfl 196 (.tmp 48) rfl bs (os+j*2) rfl [.bool t,zL Q kx Z] _ av.o underlying196 rfl intSize ?_);refine T.o.mono ?_;rintro e P ⟨qv,rv,rfl,hqv,hrv,hb4⟩;obtain⟨Aq,kq,cq,rfl⟩:=qeS hqv;obtain⟨Ar,kr,cr,rfl⟩:=qeS hrv;have bj:=zH hqv;have au:=zH (natV_len hrv);have k4:=(hb4.block wr.heap.size U2).trans al.o;have z0:P.cell? (zA wr.heap.size 0)=some (.bool t):=cell_of_row _ _ 0 _ _ _ k4;have z1:P.cell? (zA wr.heap.size 1)=some (zL Q kx Z):=cell_of_row _ _ 1 _ _ _ k4;have z:=zH (HB.o.trans ((s.o.trans (hb4.mono s.o.size)).mono HB.o.size));have aq:=zH ((HO.o.grow s.o).grow hb4);have b0:zK (wr.heap.size<P.heap.size):=(Array.getElem?_eq_some_iff.1 k4).1;clear k4 hb4 hrv T al av hqv;have an:zK (kr≠0\/(t=true/\kx≠0)->¬Fine Ns.sum (trO q n (natZ Ns) j (n+1))):=fun h hf=>by
        rcases h with h|⟨h,hx0⟩
        . have h1:=hf.2;rw[X.o,qfE] at h1;exact h (au.o.2 h1)
        . subst h;have h1:=hf.1;rw[X.o] at h1;have h2:C≠0:=fun e=>hx0 (a0.o.2 e);unfold sg at h1;simp only[if_true] at h1;omega
       rcases Nat.eq_zero_or_pos kr with hr0|hr0
       . subst hr0;have bh:zK (t=false\/kx=0->Fine Ns.sum (trO q n (natZ Ns) j (n+1))/\((C / Ns.sum:Nat):Int)*Ns.sum=trO q n (natZ Ns) j (n+1)):=fun h=>by
          have hm:C % Ns.sum=0:=au.o.1 rfl;have hz:trO q n (natZ Ns) j (n+1)=(C:Int):=by
           rw[X.o];unfold sg;rcases h with rfl|h
           . simp
           . have:=a0.o.1 h;rw[this];split<;>rfl
          rw[hz];refine⟨⟨U0,by simpa using hm⟩,?_⟩;rw[<- Int.natCast_mul,Nat.div_mul_cancel (Nat.dvd_of_mod_eq_zero hm)]
         have f:zK (zB P (P.alloc (.cells #[zL Aq kq cq] 143))):=zV.alloc zn _;(have a5:NatP (P.alloc (.cells #[zL Aq kq cq] 143)) (fun b=>(Value.slice A9 j c9).ownBlock≠some b) (zL Aq kq cq) (C / Ns.sum):=by refine(bj.o.toP fun b g _ e=>?_).of_blocks U2 fun k _ hk=>heap_alloc_old _ _ hk;have h1:=(HO.o.own_lt b e).2;have h2:=s.o.size;omega);obtain⟨vn,w6,m,bc,D,ae,aa⟩:=(aq.o.grow f.o).append (b:=P.heap.size) (by have:=z.o.size;have:=f.o.size;omega) (heap_alloc_new _ _) a5 U0;have i:=zH m
         have B:zK (t=false\/kx=0->RelD2 H q n Ns vn (Y ((j:Int)+1)) w6):=fun h=>⟨j+1,Bs++[C / Ns.sum],U0,U3,by rw [List.length_append,r];rfl,bc,fun l hl=>by
          by_cases e:l=j
          . subst e
            have:(Bs++[C / Ns.sum]).getD l 0=C / Ns.sum:=by simp[List.getD,r]
            rw[this]
            exact bh.o h
          . have : (Bs ++ [C / Ns.sum]).getD l 0 = Bs.getD l 0:=by simp[List.getD,List.getElem?_append_left (show l < Bs.length by omega)]
            rw[this]
            exact HF.o l U0,(z.o.trans (f.o.mono z.o.size)).trans D⟩
         clear a5 m bc D ae aa f aq;rcases Nat.eq_zero_or_pos kx with hx0|hx0
         . subst hx0;cases t
           . go_wp2_with (at_builtin;refine qeU rfl _ (.tmp 73) 141 rfl rfl rfl i.o ?_);go_roundw;case rel=>exact B.o U2
             case measure=>simp[intOf];omega
           . go_wp2_with (at_builtin;refine qeU rfl _ (.tmp 73) 141 rfl rfl rfl i.o ?_);go_roundw;case rel=>exact B.o U2
             case measure=>simp[intOf];omega
         . (have b7 : (0 : Int) < (kx : Int) := by omega);cases t
           . go_wp2_with (at_builtin;refine qeU rfl _ (.tmp 73) 141 rfl rfl rfl i.o ?_);go_roundw;case rel=>exact B.o U2
             case measure=>simp[intOf];omega
           . go_wp2;go_ret2;exact .inr ⟨rfl,⟨j,K,an.o so⟩,d.o.trans (z.o.mono d.o.size)⟩
       . (have b6:(0:Int)<(kr:Int):=by omega);go_wp2;go_ret2;exact .inr ⟨rfl,⟨j,K,an.o (.inl U0)⟩,d.o.trans (z.o.mono d.o.size)⟩
     . (obtain rfl:j=n+1:=by omega);go_wp2;go_ret2;exact .inl ⟨A9,c9,Bs,rfl,by rw[<- r];exact br,r,bb,fun l hl=>hf l hl,d.o.trans (g.mono d.o.size)⟩
end Go.Proofs.YtkcdlealipfnbaaGreat
