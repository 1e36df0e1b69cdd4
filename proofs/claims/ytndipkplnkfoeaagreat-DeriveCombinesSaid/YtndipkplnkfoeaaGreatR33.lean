/- Parts of the proof. -/
import Derived.Test.YtndipkplnkfoeaaGreatR31
import Derived.Test.YtndipkplnkfoeaaGreatR32
set_option maxRecDepth 100000
set_option maxHeartbeats 8000000
namespace Go.Proofs.YtndipkplnkfoeaaGreat
open Go.RowKit Pln
def LS2(w:World)(cs cp cr:List Value)(g:Nat)(W:World):Prop:=SB w w.heap.size cs W/\W.rangeAt g 0 cp/\W.rangeAt g 23 cr/\Below w.heap.size w W
theorem follows_2(cs cp t:List Value)(B:cs.length=23)(y:cp.length=23)(z:t.length=23)(P:Prop)(g c:Nat)(w:World)(A:w.rangeAt g 0 cp)(u:w.rangeAt g 23 t)(x:g<w.heap.size)(v:∀ W:World,Below w.heap.size w W->zC 30 #[.agg cs.toArray,.agg cp.toArray,.agg t.toArray] W (ItPost W P)):
 zC 17 #[.agg cs.toArray,zS g 2 c] w (ItPost w P):=by
 have l:=zH (sb_new w cs);have k:=zH v;have o:=zH A;have j:=zH u;have i:=x;clear v A u;go_enter Tryz.func17,Tryz.ntmps17;go_upto_region 1 with fail;generalize w.alloc (.cells cs.toArray 40)=p at *;have f:Hid (LS2 w cs cp t g p.drew):=⟨l.out.grow (Below.refl _ _).drew,range_keep_v o.out (l.out.2.1.block g i),range_keep_v j.out (l.out.2.1.block g i),l.out.2.1.drew⟩;clear l o j;go_upto_region 7 with fail;refine qaS 8 8 (LS2 w cs cp t g) [(0,0),(1,1),(1,2),(0,3),(1,4),(1,5),(0,6),(2,7)] default U1 U1 (fun _ _ d _ _ h=>by cases d<;>exact h) f.out ?_;generalize p.drew=q at *;simp only[List.map_cons,List.map_nil,List.getD_cons_zero,List.getD_cons_succ];refine qaT rfl 40 (.tmp 2) rfl w.heap.size 0 rfl cs _ (fun W hW=>hW.1.range) Tryz.underlying40 rfl (by rw[B];exact stepSize) ?_;go_simp
 iterate 2
  apply qaM rfl
  . intro W
    go_simp
    rfl
  go_simp
 refine qaT rfl 40 (.tmp 24) rfl g 0 rfl cp _ (fun W hW=>hW.2.1) Tryz.underlying40 rfl (by rw[y];exact stepSize) ?_;go_simp
 iterate 2
  apply qaM rfl
  . intro W
    go_simp
    rfl
  go_simp
 refine qaT rfl 40 (.tmp 27) rfl g 23 rfl t _ (fun W hW=>hW.2.2.1) Tryz.underlying40 rfl (by rw[z];exact stepSize) ?_;go_simp;apply qbE rfl
 . go_simp;exact⟨rfl,rfl⟩
 refine(k.out q f.out.2.2.2).mono ?_;rintro e s ⟨⟨b,rfl,hd⟩,hb2⟩;have n:Hid (Below w.heap.size w s):=f.out.2.2.2.trans (hb2.mono f.out.2.2.2.size);have m:g<q.heap.size:=Nat.lt_of_lt_of_le i f.out.2.2.2.size;have r:=zH hd;refine⟨_,rfl,⟨f.out.1.grow hb2,range_keep_v f.out.2.1 (hb2.block g m),range_keep_v f.out.2.2.1 (hb2.block g m),n.out⟩,?_⟩;go_simp;refine qbH ?_;show wpList _ _ _ _ _ _;go_simp;clear hb2 hd f k;go_wp2_with fail;go_ret;exact⟨⟨_,rfl,r.out⟩,n.out⟩
theorem stX_c:StX StC:=⟨fun h hb=>h.keep hb,fun h hB=>h.more hB,fun h=>h⟩
theorem premises_8(w:World):zC 16 #[Y 8] w fun e w'=>e=.returned (Y 2)/\w=w':=by go_enter Tryz.func16,Tryz.ntmps16;go_wp2_with fail;go_ret;exact⟨rfl,rfl⟩
theorem premises_9(w:World):zC 16 #[Y 9] w fun e w'=>e=.returned (Y 2)/\w=w':=by go_enter Tryz.func16,Tryz.ntmps16;go_wp2_with fail;go_ret;exact⟨rfl,rfl⟩
theorem premises_10(w:World):zC 16 #[Y 10] w fun e w'=>e=.returned (Y 2)/\w=w':=by go_enter Tryz.func16,Tryz.ntmps16;go_wp2_with fail;go_ret;exact⟨rfl,rfl⟩
theorem premises_11(w:World):zC 16 #[Y 11] w fun e w'=>e=.returned (Y 2)/\w=w':=by go_enter Tryz.func16,Tryz.ntmps16;go_wp2_with fail;go_ret;exact⟨rfl,rfl⟩
theorem premises_19(w:World):zC 16 #[Y 19] w fun e w'=>e=.returned (Y 3)/\w=w':=by go_enter Tryz.func16,Tryz.ntmps16;go_wp2_with fail;go_ret;exact⟨rfl,rfl⟩
theorem fo_8(s:StD)(C:s.rule=8)(cs:List Value)(o:List StD)(v:Value)(B:Nat)(W:World)(z:StC W W.heap.size s cs)(y:B<=W.heap.size)(u:FromX StC W B v o)(q:∀p∈o,p.ok/\formZ p=0)(x:o.length=2)(A:formZ s=0):
 zC 17 #[.agg cs.toArray,v] W fun e w'=>∃b,e=.returned (.bool b)/\Below W.heap.size W w'/\(b=true->∃p r,o=[p,r]/\Two8 s p r):=by
 obtain⟨p,r,rfl⟩:∃p r,o=[p,r]:=by
  rcases o with _|⟨p,_|⟨r,_|⟨t,o⟩⟩⟩
  . simp at x
  . simp at x
  . exact⟨p,r,rfl⟩
  . simp at x
 obtain⟨n,l,rfl,m⟩:=u.form;obtain⟨R,rfl,_,c,_⟩:=m U2;obtain⟨cp,d,j⟩:=u.range (i:=0) (p:=p) rfl;obtain⟨g,f,k⟩:=u.range (i:=1) (p:=r) rfl
 have h:=follows_2 cs cp g z.len j.len k.len (Two8 s p r) R l W (by simpa using d) (by simpa using f) c fun W' hW'=>
  two_8 s p r cs cp g W' (z.lift hW') ((j.more y).lift hW') ((k.more y).lift hW') A (q p U2).2 (q r U2).2 C
 exact h.mono fun e w' ⟨⟨b,he,hb⟩,hbl⟩=>⟨b,he,hbl,fun h=>⟨p,r,rfl,hb h⟩⟩
theorem fo_9(s:StD)(C:s.rule=9)(cs:List Value)(o:List StD)(v:Value)(B:Nat)(W:World)(z:StC W W.heap.size s cs)(y:B<=W.heap.size)(u:FromX StC W B v o)(q:∀p∈o,p.ok/\formZ p=0)(x:o.length=2)(A:formZ s=0):
 zC 17 #[.agg cs.toArray,v] W fun e w'=>∃b,e=.returned (.bool b)/\Below W.heap.size W w'/\(b=true->∃p r,o=[p,r]/\Two9 s p r):=by
 obtain⟨p,r,rfl⟩:∃p r,o=[p,r]:=by
  rcases o with _|⟨p,_|⟨r,_|⟨t,o⟩⟩⟩
  . simp at x
  . simp at x
  . exact⟨p,r,rfl⟩
  . simp at x
 obtain⟨n,l,rfl,m⟩:=u.form;obtain⟨R,rfl,_,c,_⟩:=m U2;obtain⟨cp,d,j⟩:=u.range (i:=0) (p:=p) rfl;obtain⟨g,f,k⟩:=u.range (i:=1) (p:=r) rfl
 have h:=follows_2 cs cp g z.len j.len k.len (Two9 s p r) R l W (by simpa using d) (by simpa using f) c fun W' hW'=>
  two_9 s p r cs cp g W' (z.lift hW') ((j.more y).lift hW') ((k.more y).lift hW') A (q p U2).2 (q r U2).2 C
 exact h.mono fun e w' ⟨⟨b,he,hb⟩,hbl⟩=>⟨b,he,hbl,fun h=>⟨p,r,rfl,hb h⟩⟩
theorem fo_10(s:StD)(C:s.rule=10)(cs:List Value)(o:List StD)(v:Value)(B:Nat)(W:World)(z:StC W W.heap.size s cs)(y:B<=W.heap.size)(u:FromX StC W B v o)(q:∀p∈o,p.ok/\formZ p=0)(x:o.length=2)(A:formZ s=0):
 zC 17 #[.agg cs.toArray,v] W fun e w'=>∃b,e=.returned (.bool b)/\Below W.heap.size W w'/\(b=true->∃p r,o=[p,r]/\Two10 s p r):=by
 obtain⟨p,r,rfl⟩:∃p r,o=[p,r]:=by
  rcases o with _|⟨p,_|⟨r,_|⟨t,o⟩⟩⟩
  . simp at x
  . simp at x
  . exact⟨p,r,rfl⟩
  . simp at x
 obtain⟨n,l,rfl,m⟩:=u.form;obtain⟨R,rfl,_,c,_⟩:=m U2;obtain⟨cp,d,j⟩:=u.range (i:=0) (p:=p) rfl;obtain⟨g,f,k⟩:=u.range (i:=1) (p:=r) rfl
 have h:=follows_2 cs cp g z.len j.len k.len (Two10 s p r) R l W (by simpa using d) (by simpa using f) c fun W' hW'=>
  two_10 s p r cs cp g W' (z.lift hW') ((j.more y).lift hW') ((k.more y).lift hW') A (q p U2).2 (q r U2).2 C
 exact h.mono fun e w' ⟨⟨b,he,hb⟩,hbl⟩=>⟨b,he,hbl,fun h=>⟨p,r,rfl,hb h⟩⟩
theorem fo_11(s:StD)(C:s.rule=11)(D:s.ok)(cs:List Value)(o:List StD)(v:Value)(B:Nat)(W:World)(z:StC W W.heap.size s cs)(y:B<=W.heap.size)(u:FromX StC W B v o)(q:∀p∈o,p.ok/\formZ p=0)(x:o.length=2)(A:formZ s=0):
 zC 17 #[.agg cs.toArray,v] W fun e w'=>∃b,e=.returned (.bool b)/\Below W.heap.size W w'/\(b=true->∃p r,o=[p,r]/\Two11 s p r):=by
 obtain⟨p,r,rfl⟩:∃p r,o=[p,r]:=by
  rcases o with _|⟨p,_|⟨r,_|⟨t,o⟩⟩⟩
  . simp at x
  . simp at x
  . exact⟨p,r,rfl⟩
  . simp at x
 obtain⟨n,l,rfl,m⟩:=u.form;obtain⟨R,rfl,_,c,_⟩:=m U2;obtain⟨cp,d,j⟩:=u.range (i:=0) (p:=p) rfl;obtain⟨g,f,k⟩:=u.range (i:=1) (p:=r) rfl
 have h:=follows_2 cs cp g z.len j.len k.len (Two11 s p r) R l W (by simpa using d) (by simpa using f) c fun W' hW'=>
  two_11 s p r cs cp g W' (z.lift hW') ((j.more y).lift hW') ((k.more y).lift hW') A (q p U2).2 (q r U2).2 C D
 exact h.mono fun e w' ⟨⟨b,he,hb⟩,hbl⟩=>⟨b,he,hbl,fun h=>⟨p,r,rfl,hb h⟩⟩
theorem ConPost.uni{w:World}{p m:Int}{mod:List Int}{N:Nat}{F:Prop}{Q:List Nat->Prop}{e:Ending}{w':World}(h:ConPost w p m mod N F Q e w'):
 ∃(p' m':Int)(mod':List Int)(A':Option Addr)(c':Nat)(N':Int)(R':Option Addr)(out:List (List Int))(k':Nat)(z:Int),e=.returned (.tuple #[Ck p' m' A' mod'.length c' N' R' out.length k',Y z])/\IntsUp w' w.heap.size A' mod'/\RowsUp w' w.heap.size R' out/\Below w.heap.size w w'/\
  (z=0->∀s:StD,s.p=p'->s.m=m'->s.mod=mod'->s.n=N'->s.gen=out->MadeC s p m mod N F Q):=by
 obtain⟨b,h⟩:=h;rcases h with⟨z,l,rfl⟩|⟨rows,A',R,c',k,rfl,c,d,f,g,i,j⟩
 . exact⟨0,0,[],none,0,0,none,[],0,z,rfl,fun h=>absurd h U2,fun h=>absurd h U2,b,fun h=>absurd h l⟩
 . refine⟨p,m,mod,A',c',N,R,_,k,0,by rw[nzs_len],c,d,b,fun _ s g1 g2 g3 g4 g5=>⟨rows,g1,g2,g3,g4,g5,f,g,i,j⟩⟩
def Three(s p r t:StD):Prop:=MadeC s p.p p.m p.mod (p.n.toNat+t.n.toNat) (XCond p.p p.m p.mod r.p r.m r.mod t.p t.m t.mod p.n.toNat r.n.toNat (natR p.gen) (natR r.gen)) (XRow (opsT p.p.toNat p.m.toNat (lOf p.p p.m p.mod)) (p.p.toNat^p.m.toNat) p.n.toNat t.n.toNat (natR p.gen) (natR r.gen) (natR t.gen) (pivC p.p p.m p.mod p.n.toNat (natR r.gen)) (pivC p.p p.m p.mod p.n.toNat (natR p.gen)))/\s.low<=r.low/\s.low<=p.low+t.low
def LS3(w:World)(cs cp cr ct:List Value)(g:Nat)(W:World):Prop:=SB w w.heap.size cs W/\W.rangeAt g 0 cp/\W.rangeAt g 23 cr/\W.rangeAt g 46 ct/\Below w.heap.size w W
theorem LS3.grow{w:World}{cs cp f i:List Value}{g:Nat}{W d:World}(h:LS3 w cs cp f i g W)(c:g<W.heap.size)(b:Below W.heap.size W d):LS3 w cs cp f i g d:=
 ⟨h.1.grow b,range_keep_v h.2.1 (b.block g c),range_keep_v h.2.2.1 (b.block g c),range_keep_v h.2.2.2.1 (b.block g c),h.2.2.2.2.trans (b.mono h.2.2.2.2.size)⟩
def RelF3(w1:World)(MD:Int->Int->List Int->Int->List (List Int)->Prop)(v5 v6:Value)(wx:World):Prop:=
 ∃(b:Nat)(p' m':Int)(mod':List Int)(A':Option Addr)(c':Nat)(N':Int)(R':Option Addr)(out:List (List Int))(k':Nat)(z:Int),v5=zP b/\v6=Y z/\wx.heap[b]?=some (Cf p' m' A' mod'.length c' N' R' out.length k')/\Below w1.heap.size w1 wx/\IntsAt wx wx.heap.size A' mod'/\RowsAt wx wx.heap.size R' out/\(z=0->MD p' m' mod' N' out)
theorem five_of{W:World}{g o:Nat}{cs:List Value}(h:W.rangeAt g o cs){v1 v2 c d f:Value}(i:cs[1]?=some v1)(l:cs[2]?=some v2)(m:cs[3]?=some c)(n:cs[4]?=some d)(p:cs[5]?=some f):W.rangeAt g (o+1) [v1,v2,c,d,f]:=fun j v hv=>by
 have b:∀k u,cs[k+1]?=some u->W.cell? (zA g (o+1+k))=some u:=fun k u hu=>by
  have:=h (k+1) u hu
  rw[show o+(k+1)=o+1+k by omega] at this
  exact this
 rcases j with _|_|_|_|_|j
 . injection hv with hv;subst hv;exact b 0 _ i
 . injection hv with hv;subst hv;exact b 1 _ l
 . injection hv with hv;subst hv;exact b 2 _ m
 . injection hv with hv;subst hv;exact b 3 _ n
 . injection hv with hv;subst hv;exact b 4 _ p
 . simp at hv
theorem follows_3(s p r t:StD)(cs cp cr ct:List Value)(g c:Nat)(w:World)(hs:StC w w.heap.size s cs)(hp:StC w w.heap.size p cp)(hr:StC w w.heap.size r cr)(ht:StC w w.heap.size t ct)(fs:formZ s=0)(fp:formZ p=0)(fr:formZ r=0)(ft:formZ t=0)(cq:w.rangeAt g 0 cp)(cw:w.rangeAt g 23 cr)(cx:w.rangeAt g 46 ct)(co:g<w.heap.size):
 zC 17 #[.agg cs.toArray,zS g 3 c] w (ItPost w (Three s p r t)):=by
 obtain⟨A0,A1,A2,A3,A4,A5,A6,A7,A8,A9,D,E,ae,af,ag,ah,ai,aj,ak,al,rfl,_,h1,h2,_⟩:=hs;obtain⟨B0,B1,B2,B3,B4,B5,B6,B7,B8,B9,O,P,bc,bd,be,bf,bg,bh,bi,bj,rfl,_,j1,j2,_⟩:=hp;obtain⟨C0,C1,C2,C3,C4,C5,C6,C7,C8,C9,Q,R,bm,bn,bo,bp,bq,br,bs,bt,rfl,_,k1,k2,_⟩:=hr;obtain⟨D0,D1,D2,D3,D4,D5,D6,D7,D8,D9,S,T,bu,bv,bw,bx,bz,b0,b1,b2,rfl,_,l1,l2,_⟩:=ht;have j:=form_is fs;have hP:=form_is fp;have hR:=form_is fr;have hT:=form_is ft;have aq:((p.n.toNat:Nat):Int)=p.n:=by have:=hP.n1;omega
 have ar:((r.n.toNat:Nat):Int)=r.n:=by have:=hR.n1;omega
 have au:((t.n.toNat:Nat):Int)=t.n:=by have:=hT.n1;omega
 have HX:=zH (sb_new w (stCells s A0 A1 A2 A3 A4 A5 A6 A7 A8 A9 D E ae af ag ah ai aj ak al));have ax:=zH cq;have ay:=zH cw;have az:=zH cx;obtain⟨MD,ap⟩:∃MD:Int->Int->List Int->Int->List (List Int)->Prop,MD=fun q o f l i=>s.p=q->s.m=o->s.mod=f->s.n=l->s.gen=i->s.low<=r.low->s.low<=p.low+t.low->Three s p r t:=⟨_,rfl⟩;have b9:=zH ap;have aw:Hid (∀W,Below w.heap.size w W->zC 31 #[Ck p.p p.m B0 p.mod.length O p.n B1 p.gen.length P,Ck r.p r.m C0 r.mod.length Q r.n C1 r.gen.length R,Ck t.p t.m D0 t.mod.length S t.n D1 t.gen.length T] W (fun e w'=>∃(q o:Int)(f:List Int)(x:Option Addr)(y:Nat)(l:Int)(C:Option Addr)(i:List (List Int))(K:Nat)(z:Int),e=.returned (.tuple #[Ck q o x f.length y l C i.length K,Y z])/\IntsUp w' W.heap.size x f/\RowsUp w' W.heap.size C i/\Below W.heap.size W w'/\(z=0->MD q o f l i))):=fun W hW=>by
  have:=consx_c p.p p.m p.mod B0 O p.n.toNat p.gen B1 P r.p r.m r.mod C0 Q r.n.toNat r.gen C1 R t.p t.m t.mod D0 S t.n.toNat t.gen D1 T W ⟨(j1.keep hW).more hW.size,(j2.keep hW).more hW.size,by rw[aq];exact qbG fp⟩ ⟨(k1.keep hW).more hW.size,(k2.keep hW).more hW.size,by rw[ar];exact qbG fr⟩ ⟨(l1.keep hW).more hW.size,(l2.keep hW).more hW.size,by rw[au];exact qbG ft⟩;rw[aq,ar,au] at this;refine this.mono fun e w' h=>?_;obtain⟨q,o,f,x,y,l,C,i,K,z,e1,L,M,e4,N⟩:=h.uni
  exact⟨q,o,f,x,y,l,C,i,K,z,e1,L,M,e4,fun hz=>by
   rw[ap]
   exact fun g1 g2 g3 g4 g5 g6 g7=>⟨N hz s g1 g2 g3 g4 g5,g6,g7⟩⟩
 have a4:Hid (∀(W:World)(q o:Int)(f:List Int)(x:Option Addr)(y:Nat)(l:Int)(ys:List (List Int))(G':Option Addr)(g':Nat),Below w.heap.size w W->IntsAt W W.heap.size x f->RowsAt W W.heap.size G' ys->zC 32 #[Ck s.p s.m A0 s.mod.length D s.n A1 s.gen.length E,Ck q o x f.length y l G' ys.length g'] W fun e w'=>e=.returned (.bool (decide (s.p=q/\s.m=o/\s.mod=f) && ((s.n==l) && decide (s.gen=ys))))/\Below W.heap.size W w'):=fun W q o f x y l ys G' g' hW hA' hG'=>
  dsameE_c s.p s.m q o s.mod f A0 x D y s.n l s.gen ys A1 G' E g' W ((h1.keep hW).more hW.size) hA' (qbA j).1 ((h2.keep hW).more hW.size) hG' (qbA j).2.1 (qbA j).2.2
 have cj:0<=p.low/\p.low<=65:=by have:=hP.low1;have:=hP.low2;have:=hP.n2;omega
 have ck:0<=t.low/\t.low<=65:=by have:=hT.low1;have:=hT.low2;have:=hT.n2;omega
 clear h1 h2 j1 j2 k1 k2 l1 l2 j hP hR hT fs fp fr ft aq ar au cq cw cx ap;go_enter Tryz.func17,Tryz.ntmps17;go_upto_region 1 with fail;generalize w.alloc (.cells (stCells s A0 A1 A2 A3 A4 A5 A6 A7 A8 A9 D E ae af ag ah ai aj ak al).toArray 40)=I at *;have V:Hid (LS3 w (stCells s A0 A1 A2 A3 A4 A5 A6 A7 A8 A9 D E ae af ag ah ai aj ak al) (stCells p B0 B1 B2 B3 B4 B5 B6 B7 B8 B9 O P bc bd be bf bg bh bi bj) (stCells r C0 C1 C2 C3 C4 C5 C6 C7 C8 C9 Q R bm bn bo bp bq br bs bt) (stCells t D0 D1 D2 D3 D4 D5 D6 D7 D8 D9 S T bu bv bw bx bz b0 b1 b2) g I):=⟨HX.out,range_keep_v ax.out (HX.out.2.1.block g co),range_keep_v ay.out (HX.out.2.1.block g co),range_keep_v az.out (HX.out.2.1.block g co),HX.out.2.1⟩;have aa:g<I.heap.size:=Nat.lt_of_lt_of_le co HX.out.2.1.size;have ab:Hid (Below w.heap.size w I):=HX.out.2.1;clear HX ax ay az;go_upto_region 8 with fail;have a0:Hid (∀ W,LSkA I W->W.rangeAt g 1 (Ca p.p p.m B0 p.mod.length O p.n B1 p.gen.length P)):=fun W hW=>five_of (V.out.grow aa hW).2.1 rfl rfl rfl rfl rfl;have a1:Hid (∀ W,LSkA I W->W.rangeAt g 24 (Ca r.p r.m C0 r.mod.length Q r.n C1 r.gen.length R)):=fun W hW=>five_of (V.out.grow aa hW).2.2.1 rfl rfl rfl rfl rfl;have a2:Hid (∀ W,LSkA I W->W.rangeAt g 47 (Ca t.p t.m D0 t.mod.length S t.n D1 t.gen.length T)):=fun W hW=>five_of (V.out.grow aa hW).2.2.2.1 rfl rfl rfl rfl rfl;have a3:Hid (LSkA I I.drew):=(Below.refl _ _).drew;go_cut [5,6] (fun v5 v6 wx=>RelF3 I MD v5 v6 wx);case first =>
  refine wp_region_mixx 18 17 16 (LSkA I) [(1,0),(1,1),(1,2),(0,3),(1,4),(1,5),(1,6),(0,7),(1,8),(1,9),(1,10),(0,11),(2,12),(1,13),(1,14),(1,15)] [(3,17)] default _ (Cc) U1 U1 (fun _ _ d _ _ h=>by cases d<;>exact h) rfl rfl ?_ (fun W hW=>Below.alloc hW (Below.size hW) _) a3.out ?_
  . intro a w;unfold ptrTo;go_simp
  simp only[List.map_cons,List.map_nil,List.getD_cons_zero,List.getD_cons_succ]
  repeat (first
   | (refine x_load_mid rfl 32 (.tmp 33) rfl g 1 rfl (Ca p.p p.m B0 p.mod.length O p.n B1 p.gen.length P) _ a0.out Tryz.underlying32 rfl codeSz ?_
      go_simp)
   | (refine x_load_mid rfl 32 (.tmp 37) rfl g 24 rfl (Ca r.p r.m C0 r.mod.length Q r.n C1 r.gen.length R) _ a1.out Tryz.underlying32 rfl codeSz ?_
      go_simp)
   | (refine x_load_mid rfl 32 (.tmp 41) rfl g 47 rfl (Ca t.p t.m D0 t.mod.length S t.n D1 t.gen.length T) _ a2.out Tryz.underlying32 rfl codeSz ?_
      go_simp)
   | (apply x_free rfl
      . intro W
        go_simp
        rfl
      go_simp))
  apply x_call rfl
  . intro W;go_simp;exact⟨rfl,rfl⟩
  intro W1 ci ac;have a6:Below w.heap.size w W1:=ab.out.trans (Below.mono (show Below I.heap.size I W1 from ac) ab.out.size);with_reducible refine(aw.out W1 a6).mono ?_
  rintro e w2 ⟨q,o,f,x,y,l,C,i,K,z,rfl,L,M,hb2,N⟩;refine⟨_,rfl,Below.trans ac (hb2.mono (Below.size ac)),hb2,?_⟩;go_simp
  iterate 3
   apply x_free rfl
   . intro W
     go_simp
     rfl
   go_simp
  refine x_nil ?_;intro W7 b Z a5 a8 hF J;have cl:I.heap.size<=W1.heap.size:=Below.size ac;have cf:¬(W1.heap.size<=b/\b<w2.heap.size):=fun h=>hF (by first|exact h|exact .inr h);have b7:Hid (IntsUp (W7.setRow b (Cl q o x f.length y l C i.length K)) W1.heap.size x f):=L.of_blocks (by simpa using Z.size) (fun k hk1 hk2=>by rw[setRow_other _ _ _ _ U0,Z.block k hk2]);have cd:Hid (RowsUp (W7.setRow b (Cl q o x f.length y l C i.length K)) W1.heap.size C i):=M.of_blocks (by simpa using Z.size) (fun k hk1 hk2=>by rw[setRow_other _ _ _ _ U0,Z.block k hk2]);have b3:Hid (Below I.heap.size I (W7.setRow b (Cl q o x f.length y l C i.length K))):=qaR a5 a8 _;have b8:Hid ((W7.setRow b (Cl q o x f.length y l C i.length K)).heap[b]?=some (Cf q o x f.length y l C i.length K)):=setRow_same _ _ _ _ _ J;have b6:=zH N;unfold ptrTo;refine qcA rfl 32 (.tmp 5) (.tmp 44) rfl b 32 (Cb) (Cl q o x f.length y l C i.length K) rfl rfl J codeSz rfl sc ?_;go_simp;refine qbH ?_;show wpList _ _ _ _ _ _;clear L M hb2 N Z a5 a8 hF J cf;go_wp2_with fail;go_meet;exact⟨b,q,o,f,x,y,l,C,i,K,z,rfl,rfl,b8.out,b3.out,qcD b7.out,cd.out.rowsAt,b6.out⟩
 case rest =>
  obtain⟨b,q,o,f,x,y,l,C,i,K,z,rfl,rfl,J,ad,a7,ba,a9⟩:=hcut;have ao:=zH (V.out.grow aa ad);have cg:b<wc.heap.size:=block_lt J;have ch:g<wc.heap.size:=Nat.lt_of_lt_of_le aa ad.size;have av:=zH J;have an:=zH a9;have ce:=zH ao.out.1;have u:Hid (Below w.heap.size w wc):=ab.out.trans (ad.mono ab.out.size);have X:Hid (∀W,LSkA wc W->zC 32 #[Ck s.p s.m A0 s.mod.length D s.n A1 s.gen.length E,Ck q o x f.length y l C i.length K] W fun e w'=>e=.returned (.bool (decide (s.p=q/\s.m=o/\s.mod=f) && ((s.n==l) && decide (s.gen=i))))/\Below W.heap.size W w'):=fun W hW=>a4.out W q o f x y l i C K (u.out.trans (Below.mono hW u.out.size)) ((a7.keep hW).more (Below.size hW)) ((ba.keep hW).more (Below.size hW));clear J ad a7 ba a9 V a4 aw a0 a1 a2 a3;by_cases hz:z=0;rotate_left
  . have cn:(z==0)=false:=beq_false_of_ne hz;clear hz X an;go_upto_region 9 with fail;go_quiet (fail);go_wp2_with fail;go_ret;exact⟨⟨false,U4,fun h=>by cases h⟩,qaB u.out nq⟩
  . subst hz
    have B:Hid (∀W,LSkA wc W->W.cell? (zA w.heap.size 1)=some (Y s.p)/\W.cell? (zA w.heap.size 2)=some (Y s.m)/\W.cell? (zA w.heap.size 3)=some (zL A0 s.mod.length D)/\W.cell? (zA w.heap.size 4)=some (Y s.n)/\W.cell? (zA w.heap.size 5)=some (zL A1 s.gen.length E)/\W.cell? (zA w.heap.size 6)=some (Y s.low)/\
     W.cell? (zA b 0)=some (Y q)/\W.cell? (zA b 1)=some (Y o)/\W.cell? (zA b 2)=some (zL x f.length y)/\W.cell? (zA b 3)=some (Y l)/\W.cell? (zA b 4)=some (zL C i.length K)/\
     W.cell? (zA g 6)=some (Y p.low)/\W.cell? (zA g 29)=some (Y r.low)/\W.cell? (zA g 52)=some (Y t.low)):=fun W hW=>by
     have hk:=(Below.block hW b cg).trans av.out
     have A:=ao.out.grow ch hW
     exact⟨A.1.cell rfl,A.1.cell rfl,A.1.cell rfl,A.1.cell rfl,A.1.cell rfl,A.1.cell rfl,cell_of_row _ _ 0 _ _ _ hk,cell_of_row _ _ 1 _ _ _ hk,cell_of_row _ _ 2 _ _ _ hk,cell_of_row _ _ 3 _ _ _ hk,cell_of_row _ _ 4 _ _ _ hk,A.2.1 6 _ rfl,A.2.2.1 6 _ rfl,A.2.2.2.1 6 _ rfl⟩
    (have U:Hid ((decide (s.p=q/\s.m=o/\s.mod=f) && ((s.n==l) && decide (s.gen=i)))=true->s.low<=r.low->s.low<=p.low+t.low->Three s p r t):=fun h=>by rw[Bool.and_eq_true,Bool.and_eq_true] at h;obtain⟨q1,q2,q3⟩:=h;have h1:=of_decide_eq_true q1;have h3:=an.out rfl;rw[b9.out] at h3;exact h3 h1.1 h1.2.1 h1.2.2 (beq_iff_eq.1 q2) (of_decide_eq_true q3));have cm:IntKind.i64.wrap (p.low+t.low)=p.low+t.low:=IntWalk.i64_in _ U0;clear an ce ao av;generalize (decide (s.p=q/\s.m=o/\s.mod=f) && ((s.n==l) && decide (s.gen=i)))=bb at *;cases bb
    . clear U;go_upto_region 9 with fail;refine qaD (LSkA wc) U1 U1 (show LSkA wc wc.drew from (Below.refl _ _).drew) ?_
      repeat (first
       | (apply qaJ rfl
          . intro W j
            obtain⟨e1,L,M,e4,N,e6,f0,f1,f2,f3,f4,l0,l1,l2⟩:=B.out W j
            go_simp
            try rfl
          go_simp)
       | (apply qbD rfl
          . intro W j
            obtain⟨e1,L,M,e4,N,e6,f0,f1,f2,f3,f4,l0,l1,l2⟩:=B.out W j
            go_simp
            try rfl
          go_simp)
       | (apply qcG rfl
          . intro W j
            go_simp
            exact⟨rfl,rfl⟩
          . intro W j
            exact(X.out W j).mono (by rintro e w' ⟨rfl,hb⟩;exact⟨rfl,Below.trans j (Below.mono hb (Below.size j))⟩)
          go_simp)
       |(apply qbI rfl;go_simp))
      refine qaE ?_;intro w5 v;have H:Hid (Below w.heap.size w w5):=u.out.trans (Below.mono v u.out.size);clear v;go_wp2_with fail;go_ret;exact⟨⟨false,U4,fun h=>by cases h⟩,H.out⟩
    . by_cases g1 : s.low <= r.low;rotate_left
      . clear U;go_upto_region 9 with fail;refine qaD (LSkA wc) U1 U1 (show LSkA wc wc.drew from (Below.refl _ _).drew) ?_
        repeat (first
         | (apply qaJ rfl
            . intro W j
              obtain⟨e1,L,M,e4,N,e6,f0,f1,f2,f3,f4,l0,l1,l2⟩:=B.out W j
              go_simp
              try rfl
            go_simp)
         | (apply qbD rfl
            . intro W j
              obtain⟨e1,L,M,e4,N,e6,f0,f1,f2,f3,f4,l0,l1,l2⟩:=B.out W j
              go_simp
              try rfl
            go_simp)
         | (apply qcG rfl
            . intro W j
              go_simp
              exact⟨rfl,rfl⟩
            . intro W j
              exact(X.out W j).mono (by rintro e w' ⟨rfl,hb⟩;exact⟨rfl,Below.trans j (Below.mono hb (Below.size j))⟩)
            go_simp)
         |(apply qbI rfl;go_simp))
        refine qaE ?_;intro w5 v;have H:Hid (Below w.heap.size w w5):=u.out.trans (Below.mono v u.out.size);clear v;go_wp2_with fail;go_ret;exact⟨⟨false,U4,fun h=>by cases h⟩,H.out⟩
      by_cases g2:s.low<=p.low+t.low;rotate_left
      . clear U;go_upto_region 9 with fail;refine qaD (LSkA wc) U1 U1 (show LSkA wc wc.drew from (Below.refl _ _).drew) ?_
        repeat (first
         | (apply qaJ rfl
            . intro W j
              obtain⟨e1,L,M,e4,N,e6,f0,f1,f2,f3,f4,l0,l1,l2⟩:=B.out W j
              go_simp
              try rfl
            go_simp)
         | (apply qbD rfl
            . intro W j
              obtain⟨e1,L,M,e4,N,e6,f0,f1,f2,f3,f4,l0,l1,l2⟩:=B.out W j
              go_simp
              try rfl
            go_simp)
         | (apply qcG rfl
            . intro W j
              go_simp
              exact⟨rfl,rfl⟩
            . intro W j
              exact(X.out W j).mono (by rintro e w' ⟨rfl,hb⟩;exact⟨rfl,Below.trans j (Below.mono hb (Below.size j))⟩)
            go_simp)
         |(apply qbI rfl;go_simp))
        refine qaE ?_;intro w5 v;have H:Hid (Below w.heap.size w w5):=u.out.trans (Below.mono v u.out.size);clear v;go_wp2_with fail;go_ret;exact⟨⟨false,U4,fun h=>by cases h⟩,H.out⟩
      have HQ:=zH (U.out rfl g1 g2);clear U;go_upto_region 9 with fail;refine qaD (LSkA wc) U1 U1 (show LSkA wc wc.drew from(Below.refl _ _).drew) ?_
      repeat (first
       | (apply qaJ rfl
          . intro W j
            obtain⟨e1,L,M,e4,N,e6,f0,f1,f2,f3,f4,l0,l1,l2⟩:=B.out W j
            go_simp
            try rfl
          go_simp)
       | (apply qbD rfl
          . intro W j
            obtain⟨e1,L,M,e4,N,e6,f0,f1,f2,f3,f4,l0,l1,l2⟩:=B.out W j
            go_simp
            try rfl
          go_simp)
       | (apply qcG rfl
          . intro W j
            go_simp
            exact⟨rfl,rfl⟩
          . intro W j
            exact(X.out W j).mono (by rintro e w' ⟨rfl,hb⟩;exact⟨rfl,Below.trans j (Below.mono hb (Below.size j))⟩)
          go_simp)
       |(apply qbI rfl;go_simp))
      refine qaE ?_;intro w5 v;have H:Hid (Below w.heap.size w w5):=u.out.trans (Below.mono v u.out.size);clear v;go_wp2_with fail;go_ret;exact⟨⟨true,U4,fun _=>HQ.out⟩,H.out⟩
end Go.Proofs.YtndipkplnkfoeaaGreat
namespace Go.Proofs.YtndipkplnkfoeaaGreat
open Go.RowKit Pln
open Al
theorem combO_zero(O:Ops):∀ (rows:List (List Nat)) (msg out:List Nat),(∀ x∈msg,x=0)->Dv.combO O out msg rows=out
 |[],msg,out,_=>by cases msg<;>rfl
 |r :: rs,[],out,_=>rfl
 |r :: rs,x :: xs,out,h=>by
   unfold Dv.combO
   rw[if_pos (h x U2)]
   exact combO_zero O rs xs out (fun y hy=>h y (by simp[hy]))
theorem true_wt{d:StD}(ht:TrueOk d)(l:0<d.p.toNat^d.m.toNat){i:List Nat}(j:i.length=(natR d.gen).length)(k:∀x∈i,x<d.p.toNat^d.m.toNat):
 Dv.wt (cwO d.p.toNat d.m.toNat (mdOf d.m d.mod) d.n.toNat (natR d.gen) i)=0\/d.low<=((Dv.wt (cwO d.p.toNat d.m.toNat (mdOf d.m d.mod) d.n.toNat (natR d.gen) i):Nat):Int):=by
 obtain⟨n,c,f,g⟩:=Dv.index_of l (natR d.gen).length i j k;by_cases h:n=0
 . left;unfold cwO;rw[combO_zero _ _ _ _ (g h)];exact Dv.wt_zeros _
 . right;unfold TrueOk at ht;rw[natR_len] at c;have b:=Dv.leastGo_at (wtAt d.p.toNat d.m.toNat (mdOf d.m d.mod) d.n.toNat (natR d.gen)) ((d.p.toNat^d.m.toNat)^d.gen.length-1) 1 (d.n.toNat+1) n U0 U0;(have e:wtAt d.p.toNat d.m.toNat (mdOf d.m d.mod) d.n.toNat (natR d.gen) n=Dv.wt (cwO d.p.toNat d.m.toNat (mdOf d.m d.mod) d.n.toNat (natR d.gen) i):=by unfold wtAt;rw[f]);rw[e] at b;exact Int.le_trans ht (Int.ofNat_le.2 b)
theorem mdOf_len{d:StD}(f:fieldOK d.p d.m d.mod=true):(mdOf d.m d.mod).length=d.m.toNat:=by
 have c:=shape_is (by have h:=f;unfold fieldOK at h;rw[Bool.and_eq_true] at h;exact h.1:shapeM d.p d.m d.mod=true);by_cases b:d.m=1
 . rw[b];simp[mdOf]
 . unfold mdOf;rw[if_neg b,List.length_map,c.len b]
def LowOk(d:StD):Prop:=∀(hfl:Fld (d.p.toNat^d.m.toNat) (opsS d)),MinW hfl d.n.toNat (natR d.gen) d.low.toNat
theorem true_low{d:StD}(hd:formZ d=0)(ht:TrueOk d):LowOk d:=fun hfl=>by
 have f:=form_is hd
 have g:=field_ft f.field
 have j:=hfl.q1
 have c:∀r∈natR d.gen,Dv.Ok (d.p.toNat^d.m.toNat) d.n.toNat r:=fun r h=>f.grid.2 r h
 have i:OpsEq (d.p.toNat^d.m.toNat) (opsS d) (refOps d.p.toNat d.m.toNat (mdOf d.m d.mod)):=ops_eq g (mdOf_len f.field)
 refine minW_of c fun msg hl hm=>?_
 have b:=true_wt ht U0 hl hm
 have e:cwO d.p.toNat d.m.toNat (mdOf d.m d.mod) d.n.toNat (natR d.gen) msg=Dv.combO (opsS d) (List.replicate d.n.toNat 0) msg (natR d.gen):=combO_eq i c msg _ hm (Dv.zeros_ok U0)
 rw[e] at b
 rcases b with b|b
 . exact .inl b
 . right;omega
def SameF(s p:StD):Prop:=s.p=p.p/\s.m=p.m/\s.mod=p.mod
theorem SameF.ops{s p:StD}(h:SameF s p):p.p.toNat^p.m.toNat=s.p.toNat^s.m.toNat/\opsS p=opsS s:=by obtain⟨b,c,d⟩:=h;unfold opsS;rw[b,c,d];exact⟨rfl,rfl⟩
theorem LowOk.at_{s p:StD}(h:LowOk p)(e:SameF s p)(hfl:Fld (s.p.toNat^s.m.toNat) (opsS s)):MinW hfl p.n.toNat (natR p.gen) p.low.toNat:=by
 obtain⟨d,f⟩:=e.ops;have c:∀(q:Nat)(O:Ops)(b:Fld q O),p.p.toNat^p.m.toNat=q->opsS p=O->MinW b p.n.toNat (natR p.gen) p.low.toNat:=by rintro q O b rfl rfl;exact h b
 exact c _ _ hfl d f
theorem SameF.grid{s p:StD}(e:SameF s p)(b:formZ p=0):Grid (s.p.toNat^s.m.toNat) (natR p.gen).length p.n.toNat (natR p.gen):=by have h:=(form_is b).grid;rwa [e.ops.1] at h
theorem made_law{s:StD}(u:formZ s=0){hfl:Fld (s.p.toNat^s.m.toNat) (opsS s)}{Q:(Nat->El (s.p.toNat^s.m.toNat) (opsS s) hfl)->Prop}(L:LinF (s.p.toNat^s.m.toNat) (opsS s) hfl Q){rows:List (List Nat)}(o:Grid (s.p.toNat^s.m.toNat) rows.length s.n.toNat rows)(j:s.gen=nzs (canonM (opsS s) rows s.n.toNat))(t:∀r∈rows,Q (wd hfl r))(k:∀f,Q f->wf s.n.toNat f=0\/s.low.toNat<=wf s.n.toNat f){l:List Nat}(q:∀x∈l,x<s.p.toNat^s.m.toNat):WordOk s l:=by
 have c:∀r∈natR s.gen,Q (wd hfl r):=fun r h=>by rw[j,natR_nzs] at h;exact L.canon o t r h
 obtain⟨i,d⟩:=cw_lin u L c q;have b:=k _ i;have g:=wf_wt (h:=hfl) d.2;rw[d.1] at g;rw[g] at b;unfold WordOk;rcases b with b|b
 . exact .inl b
 . right;omega
theorem gen_coef{s p:StD}(e:SameF s p)(g:formZ p=0)(hfl:Fld (s.p.toNat^s.m.toNat) (opsS s)):∃piv:List Nat,piv=(elGo (opsS p) (natR p.gen) p.n.toNat).piv/\piv.length=(natR p.gen).length/\(∀i k,i<(natR p.gen).length->k<(natR p.gen).length->at2 (natR p.gen) i (piv.getD k 0)=if i=k then 1 else 0)/\∀k,k<(natR p.gen).length->piv.getD k 0<p.n.toNat:=by
 have c:=e.grid g;have b:=form_canon g;rw[e.ops.2] at b ⊢;have d:(elGo (opsS s) (natR p.gen) p.n.toNat).piv.length=(natR p.gen).length:=by rw[<- canonM_len,b]
 refine⟨_,rfl,d,fun i k hi hk=>?_,fun k hk=>?_⟩
 . have:=unit_canon hfl c (i:=i) (k:=k) U0 U0;rwa [b] at this
 . have f:=elGo_piv_lt (opsS s) (natR p.gen) p.n.toNat ((elGo (opsS s) (natR p.gen) p.n.toNat).piv.getD k 0) (by rw[getD_at U0];exact List.getElem_mem _);omega
section
variable {q:Nat} {O:Ops}
theorem sumrow_q(h:Fld q O){f g:Nat}{A B:List (List Nat)}(i:∀ u∈A,Dv.Ok q f u){r:List Nat}(k:SumRow A B f g r):QSum h f g A B (wd h r):=by
 rcases k with⟨u,b,rfl⟩|⟨v,d,rfl⟩
 . have c:=(i u b).1;refine⟨(InC.mem b).congr fun j hj=>(qcT U0).symm,((inC_lin g B).zero).congr fun j hj=>?_⟩;rw[<- c,wd_app_r,qeH]
 . refine⟨((inC_lin f A).zero).congr fun j hj=>?_,(InC.mem d).congr fun j hj=>?_⟩
   . rw[qcT (by rw[List.length_replicate];exact hj),qeH]
   . have:=wd_app_r (h:=h) (u:=List.replicate f 0) (v:=v) j;rw[List.length_replicate] at this;exact this.symm
theorem plorow_q(h:Fld q O){n:Nat}{A B:List (List Nat)}(f:∀ u∈A,Dv.Ok q n u){r:List Nat}(g:PloRow A B n r):QPlo h n A B (wd h r):=by
 have H:=El.fd (h:=h);rcases g with⟨u,b,rfl⟩|⟨v,d,rfl⟩
 . have c:=(f u b).1;refine⟨(InC.mem b).congr fun j hj=>(qcT U0).symm,((inC_lin n B).zero).congr fun j hj=>?_⟩;have:=wd_app_r (h:=h) (u:=u) (v:=u) j;rw[c] at this;rw[this,qcT (u:=u) (v:=u) U0,H.addN]
 . refine⟨((inC_lin n A).zero).congr fun j hj=>?_,(InC.mem d).congr fun j hj=>?_⟩
   . rw[qcT (by rw[List.length_replicate];exact hj),qeH]
   . have:=wd_app_r (h:=h) (u:=List.replicate n 0) (v:=v) j;rw[List.length_replicate] at this;rw[this,qcT (by rw[List.length_replicate];exact hj),qeH,H.negz,H.zadd]
theorem flat_atf{n:Nat}{f:Nat->List Nat}:∀ {s:List Nat},(∀ x∈s,(f x).length=n)->∀ {i j:Nat},i<s.length->j<n->(s.flatMap f).getD (i*n+j) 0=(f (s.getD i 0)).getD j 0
 |[],_,i,_,hi,_=>absurd hi (Nat.not_lt_zero i)
 |y :: s,h,0,j,_,hj=>by
   have hy:=h y (List.mem_cons_self ..)
   rw[List.flatMap_cons,Nat.zero_mul,Nat.zero_add]
   simp only[List.getD]
   rw[List.getElem?_append_left U0]
   rfl
 |y :: s,h,i + 1,j,hi,hj=>by
   have hy:=h y (List.mem_cons_self ..)
   have b:=flat_atf (s:=s) (fun x hx=>h x (List.mem_cons_of_mem _ hx)) (i:=i) (j:=j) (by simp at hi;omega) hj
   rw[List.flatMap_cons,Nat.succ_mul,show i*n+n+j=n+(i*n+j) by omega]
   simp only[List.getD] at b ⊢
   rw[List.getElem?_append_right U0,hy,Nat.add_sub_cancel_left,b]
   simp
theorem prorow_q(h:Fld q O){m l:Nat}{A B:List (List Nat)}(n:∀u∈A,Dv.Ok q m u)(o:∀v∈B,Dv.Ok q l v){r:List Nat}(p:ProRow O A B r):QPro h m l A B (wd h r):=by
 have H:=El.fd (h:=h);obtain⟨u,f,v,g,rfl⟩:=p;have b:=n u f;have c:=o v g;have k:∀i j,i<m->j<l->wd h (prT O u v u.length) (i*l+j)=wd h u i*wd h v j:=fun i j hi hj=>by
  have e:(prT O u v u.length).getD (i*l+j) 0=(scaleRow O (u.getD i 0) v).getD j 0:=by unfold prT;rw[List.take_length];exact flat_atf (fun x _=>by unfold scaleRow;rw[List.length_map,c.1]) (by rw[b.1];exact hi) hj
  have d:=wd_scale (h:=h) (getD_ok b.2 (by have:=h.q1;omega) i) c.2 j;unfold wd at d ⊢;rw[e,d]
 refine⟨fun i hi=>((InC.mem g).mul (wd h u i)).congr fun j hj=>(k i j hi hj).symm,fun j hj=>((InC.mem f).mul (wd h v j)).congr fun i hi=>?_⟩;rw[k i j hi hj,H.mulC]
end
theorem made_of{s:StD}(y:formZ s=0){p:StD}{N:Nat}{F:Prop}{Q:List Nat->Prop}(h:MadeC s p.p p.m p.mod N F Q)(v:∀hfl:Fld (s.p.toNat^s.m.toNat) (opsS s),(Nat->El (s.p.toNat^s.m.toNat) (opsS s) hfl)->Prop)(L:∀hfl,LinF (s.p.toNat^s.m.toNat) (opsS s) hfl (v hfl))(A:F->∀hfl r,Q r->v hfl (wd hfl r))(t:F->∀hfl f,v hfl f->wf N f=0\/s.low.toNat<=wf N f){u:List Nat}(z:∀x∈u,x<s.p.toNat^s.m.toNat):WordOk s u:=by
 obtain⟨rows,c,d,i,o,j,k,q,g,l⟩:=h;have hfl:Fld (s.p.toNat^s.m.toNat) (opsS s):=fld_of (field_ft (form_is y).field);have b:s.n.toNat=N:=U0;refine made_law y (hfl:=hfl) (L hfl) (rows:=rows) ?_ ?_ (fun r hr'=>A g hfl r (l r hr')) (fun f hf=>?_) z
 . rw[c,d,b];exact k
 . rw[b,j];unfold opsS;rw[c,d,i]
 . rw[b];exact t g hfl f hf
theorem law_8{s p r:StD}(k:formZ s=0)(j:formZ p=0)(_:formZ r=0)(o:LowOk p)(t:LowOk r)(h:Two8 s p r){g:List Nat}(l:∀x∈g,x<s.p.toNat^s.m.toNat):WordOk s g:=by
 obtain⟨b,c⟩:=h;have e:SameF s p:=⟨b.choose_spec.1,b.choose_spec.2.1,b.choose_spec.2.2.1⟩;have d:(r.p=p.p/\r.m=p.m/\r.mod=p.mod)->SameF s r:=fun h=>⟨e.1.trans h.1.symm,e.2.1.trans h.2.1.symm,e.2.2.trans h.2.2.symm⟩;refine made_of k b (fun hfl=>QSum hfl p.n.toNat r.n.toNat (natR p.gen) (natR r.gen)) (fun hfl=>qSum_lin _ _ _ _) (fun _ hfl x hx=>sumrow_q hfl (e.grid j).2 hx) (fun hF hfl f hf=>?_) l;rcases sum_law (o.at_ e hfl) (t.at_ (d hF) hfl) hf with h|h
 . exact .inl h
 . exact .inr (Nat.le_trans U0 h)
theorem law_9{s p r:StD}(l:formZ s=0)(k:formZ p=0)(_:formZ r=0)(t:LowOk p)(u:LowOk r)(h:Two9 s p r){i:List Nat}(o:∀x∈i,x<s.p.toNat^s.m.toNat):WordOk s i:=by
 obtain⟨b,d⟩:=h;have e:SameF s p:=⟨b.choose_spec.1,b.choose_spec.2.1,b.choose_spec.2.2.1⟩;have g:(r.p=p.p/\r.m=p.m/\r.mod=p.mod)->SameF s r:=fun h=>⟨e.1.trans h.1.symm,e.2.1.trans h.2.1.symm,e.2.2.trans h.2.2.symm⟩;refine made_of l b (fun hfl=>QPlo hfl p.n.toNat (natR p.gen) (natR r.gen)) (fun hfl=>qPlo_lin _ _ _) (fun _ hfl x hx=>plorow_q hfl (e.grid k).2 hx) (fun hF hfl f hf=>?_) o;have c:=u.at_ (g ⟨hF.1,hF.2.1,hF.2.2.1⟩) hfl;rw[<- hF.2.2.2] at c ⊢;rcases plotkin_law (t.at_ e hfl) c hf with h|h
 . exact .inl h
 . exact .inr (Nat.le_trans U0 h)
theorem law_10{s p r:StD}(t:formZ s=0)(o:formZ p=0)(fr:formZ r=0)(v:LowOk p)(y:LowOk r)(h:Two10 s p r){l:List Nat}(u:∀x∈l,x<s.p.toNat^s.m.toNat):WordOk s l:=by
 obtain⟨c,g⟩:=h;have e:SameF s p:=⟨c.choose_spec.1,c.choose_spec.2.1,c.choose_spec.2.2.1⟩;have d:(r.p=p.p/\r.m=p.m/\r.mod=p.mod)->SameF s r:=fun h=>⟨e.1.trans h.1.symm,e.2.1.trans h.2.1.symm,e.2.2.trans h.2.2.symm⟩;have b:opsT p.p.toNat p.m.toNat (lOf p.p p.m p.mod)=opsS s:=by unfold opsS;rw[e.1,e.2.1,e.2.2]
 have j:=(form_is o).low1;have k:=(form_is fr).low1;refine made_of t c (fun hfl=>QPro hfl p.n.toNat r.n.toNat (natR p.gen) (natR r.gen)) (fun hfl=>qPro_lin _ _ _ _) (fun hF hfl x hx=>prorow_q hfl (e.grid o).2 ((d hF).grid fr).2 (by rw[<- b];exact hx)) (fun hF hfl f hf=>?_) u;rcases product_law (v.at_ e hfl) (y.at_ (d hF) hfl) hf with h|h
 . exact .inl h
 . refine .inr (Nat.le_trans ?_ h);(have i:((p.low.toNat*r.low.toNat:Nat):Int)=p.low*r.low:=by rw[Int.natCast_mul,Int.toNat_of_nonneg U0,Int.toNat_of_nonneg U0]);omega
theorem cat_word{p s m m1:Nat}{md l q D:List Nat}(N:s=p)(hF:FT p m md l)(o:FT s m1 q D)(X:∀d,2<=d->d*d<=p->p % d≠0){r:Nat}(Z:r<p^m)(M:q.length=m1)(K:∀d∈q,d<p)(S:m1=1->q=[0])(y:m1=1\/evN (opsT p m l) (q++[1]) r=0){L:List Int}{t words:List (List Nat)}{v:List Nat}{z:Nat}(C:m1*L.length=m)(E:0<L.length)(I:Grid (s^m1) t.length z t)(J:t.length=L.length){R:List Nat}(uI:∀i k,i<t.length->k<t.length->at2 t i (R.getD k 0)=if i=k then 1 else 0)(pI:∀k,k<t.length->R.getD k 0<z)(T:BackI (p^m) (s^m1) (imN (opsT p m l) p m1 r) (s^m1) v)(W:∀x,x<p^m->TrW p m l (opsT s m1 D) m1 L v z t x (words.getD x [])){A P O:Nat}{B:List (List Nat)}(H:∀u∈B,Dv.Ok (p^m) A u)(V:MinW (fld_of hF) A B P)(U:MinW (fld_of o) z t O):
 ∃Q:(Nat->El (s^m1) (opsT s m1 D) (fld_of o))->Prop,LinF (s^m1) (opsT s m1 D) (fld_of o) Q/\(∀row,CatRow (p^m) (opsT p m l) L B words row->Q (wd (fld_of o) row))/\∀f,Q f->wf (A*z) f=0\/P*O<=wf (A*z) f:=by subst N;obtain⟨n,c,h,b⟩:=emb_of hF o Z M K S y;obtain⟨φ,g,j⟩:=cat_link hF o X c h b C E I J uI pI T W H;exact⟨QCat φ A z B,qCat_lin g A B,j,fun f hf=>cat_law g V U hf⟩
theorem law_11{s p r:StD}(fs:formZ s=0)(fp:formZ p=0)(fr:formZ r=0)(lp:LowOk p)(lr:LowOk r)(h:Two11 s p r){aa:List Nat}(hm:∀x∈aa,x<s.p.toNat^s.m.toNat):WordOk s aa:=by
 obtain⟨⟨c,j,t,k⟩,D⟩:=h;have u:=form_is fp;have l:=form_is fr;have C:=field_ft u.field;have d:=field_ft l.field;have z:=shape_is (by have h:=u.field;unfold fieldOK at h;rw[Bool.and_eq_true] at h;exact h.1:shapeM p.p p.m p.mod=true);have i:=shape_is (by have h:=l.field;unfold fieldOK at h;rw[Bool.and_eq_true] at h;exact h.1:shapeM r.p r.m r.mod=true);have v:CatF p.p p.m p.mod r.p r.m r.mod s.at_ r.n.toNat (natR r.gen) c j t:=k.choose_spec.2.2.2.2.2.2.2.1;have e:SameF s r:=⟨k.choose_spec.1,k.choose_spec.2.1,k.choose_spec.2.2.1⟩;obtain⟨c1,c2,E,H,_,I,J,K,L⟩:=v;have P:=d.small.m1;have g:r.m.toNat*s.at_.length=p.m.toNat/\0<s.at_.length:=by
  unfold degB at c2;simp only[Bool.and_eq_true,decide_eq_true_eq,beq_iff_eq] at c2;obtain⟨W,X,Z⟩:=c2;have e1:Int.tmod (p.m.toNat:Int) r.m=((p.m.toNat % r.m.toNat:Nat):Int):=by(conv=>lhs;rw[<- i.m0]);exact qaY _ _
  have M:p.m.toNat % r.m.toNat=0:=U0;have N:r.m.toNat ∣ p.m.toNat:=Nat.dvd_of_mod_eq_zero M;rw[E,Nat.mul_div_cancel' N];exact⟨rfl,Nat.div_pos U0 U0⟩
 obtain⟨S,_,_,V,R⟩:=gen_coef (s:=r) (p:=r) ⟨rfl,rfl,rfl⟩ fr (fld_of d);have y:=l.grid
 have A:=cat_word (by rw[c1]:r.p.toNat=p.p.toNat) C d ((primeP_iff _).1 z.prime).2 I (mdOf_len l.field) (by rw[<- c1];exact i.lt) (fun h=>by
  have B:r.m=1:=by have:=i.m0;omega
  unfold mdOf
  rw[if_pos B]) (J.imp (fun h=>by rw[h];rfl) id) g.1 g.2 y H V R K L u.grid.2 (lp (fld_of C)) (lr (fld_of d))
 have o:∀(q:Nat)(O:Ops)(b:Fld q O),r.p.toNat^r.m.toNat=q->opsS r=O->∃Q:(Nat->El q O b)->Prop,LinF q O b Q/\(∀row,CatRow (p.p.toNat^p.m.toNat) (opsT p.p.toNat p.m.toNat (lOf p.p p.m p.mod)) s.at_ (natR p.gen) c row->Q (wd b row))/\∀f,Q f->wf (p.n.toNat*r.n.toNat) f=0\/p.low.toNat*r.low.toNat<=wf (p.n.toNat*r.n.toNat) f:=by rintro q O b rfl rfl;exact A
 have b:Fld (s.p.toNat^s.m.toNat) (opsS s):=fld_of (field_ft (form_is fs).field);obtain⟨Q,T,q2,U⟩:=o _ _ b e.ops.1 e.ops.2;have h1:=u.low1;have B:=l.low1;refine made_of fs k (fun _=>Q) (fun _=>T) (fun _ _ x hx=>q2 x hx) (fun _ _ f hf=>?_) hm;rcases U f hf with h|h
 . exact .inl h
 . refine .inr (Nat.le_trans ?_ h);(have e3:((p.low.toNat*r.low.toNat:Nat):Int)=p.low*r.low:=by rw[Int.natCast_mul,Int.toNat_of_nonneg U0,Int.toNat_of_nonneg U0]);omega
end Go.Proofs.YtndipkplnkfoeaaGreat
namespace Go.Proofs.YtndipkplnkfoeaaGreat
open Go.RowKit Pln
theorem fo_19(s:StD)(cs:List Value)(y:List StD)(v:Value)(B:Nat)(W:World)(E:StC W W.heap.size s cs)(C:B<=W.heap.size)(z:FromX StC W B v y)(x:∀p∈y,p.ok/\formZ p=0)(A:y.length=3)(D:formZ s=0):
 zC 17 #[.agg cs.toArray,v] W fun e w'=>∃b,e=.returned (.bool b)/\Below W.heap.size W w'/\(b=true->∃p r t,y=[p,r,t]/\Three s p r t):=by
 obtain⟨p,r,t,rfl⟩:∃p r t,y=[p,r,t]:=by
  rcases y with _|⟨p,_|⟨r,_|⟨t,_|⟨u,y⟩⟩⟩⟩
  . simp at A
  . simp at A
  . simp at A
  . exact⟨p,r,t,rfl⟩
  . simp at A
 obtain⟨q,j,rfl,m⟩:=z.form;obtain⟨R,rfl,_,c,_⟩:=m U2;obtain⟨cp,d,n⟩:=z.range (i:=0) (p:=p) rfl;obtain⟨k,f,o⟩:=z.range (i:=1) (p:=r) rfl;obtain⟨l,g,ht⟩:=z.range (i:=2) (p:=t) rfl;have h:=follows_3 s p r t cs cp k l R j W E (n.more C) (o.more C) (ht.more C) D (x p U2).2 (x r U2).2 (x t U2).2 (by simpa using d) (by simpa using f) (by simpa using g) c;exact h.mono fun e w' ⟨⟨b,he,hb⟩,hbl⟩=>⟨b,he,hbl,fun h=>⟨p,r,t,rfl,hb h⟩⟩
end Go.Proofs.YtndipkplnkfoeaaGreat
namespace Go.Proofs.YtndipkplnkfoeaaGreat
open Go.RowKit Pln
open Al
theorem zero_lin{q:Nat}{O:Ops}(h:Fld q O)(N:Nat):LinF q O h fun f=>∀j,j<N->f j=0 where
 zero:=fun _ _=>rfl
 step f g a hf hg:=fun j hj=>by
  have H:=El.fd (h:=h)
  show f j+a*g j=0
  rw[hf j hj,hg j hj,H.mulZ,H.addZ]
theorem law_19{s p r t:StD}(fs:formZ s=0)(fp:formZ p=0)(fr:formZ r=0)(ft:formZ t=0)(lp:LowOk p)(lr:LowOk r)(lt:LowOk t)(h:Three s p r t){ab:List Nat}(hm:∀ x∈ab,x<s.p.toNat ^ s.m.toNat):WordOk s ab:=by
 obtain⟨v,Q,R⟩:=h;have e:SameF s p:=⟨v.choose_spec.1,v.choose_spec.2.1,v.choose_spec.2.2.1⟩;have d:opsT p.p.toNat p.m.toNat (lOf p.p p.m p.mod)=opsS s:=by unfold opsS;rw[e.1,e.2.1,e.2.2]
 have hq:p.p.toNat^p.m.toNat=s.p.toNat^s.m.toNat:=e.ops.1;have h1:=(form_is fp).low1;have h2:=(form_is fr).low1;have h3:=(form_is ft).low1;by_cases Z:(posX (pivC p.p p.m p.mod p.n.toNat (natR r.gen)) (pivC p.p p.m p.mod p.n.toNat (natR p.gen))).length=(natR t.gen).length
 . refine made_of fs v (fun hfl => QX hfl p.n.toNat t.n.toNat (natR p.gen) (natR r.gen) (natR t.gen) (pivC p.p p.m p.mod p.n.toNat (natR r.gen)) (posX (pivC p.p p.m p.mod p.n.toNat (natR r.gen)) (pivC p.p p.m p.mod p.n.toNat (natR p.gen)))) (fun hfl => qX_lin _ _ _ _ _ _ _) (fun hF hfl x hx => ?_) (fun hF hfl f hf => ?_) hm
   . obtain⟨_,b,_,_⟩:=hF;have D:SameF s t:=⟨e.1.trans b.1.symm,e.2.1.trans b.2.1.symm,e.2.2.trans b.2.2.symm⟩;rw[d,hq] at hx;exact xrow_q hfl (e.grid fp).2 (D.grid ft) hx
   . obtain ⟨l,b,o,L⟩ := hF;have K:SameF s r:=⟨e.1.trans l.1.symm,e.2.1.trans l.2.1.symm,e.2.2.trans l.2.2.symm⟩;have D:SameF s t:=⟨e.1.trans b.1.symm,e.2.1.trans b.2.1.symm,e.2.2.trans b.2.2.symm⟩;obtain ⟨c,I,aa,uA,pA⟩:=gen_coef e fp hfl;obtain ⟨g,J,W,uB,pB⟩:=gen_coef K fr hfl;obtain ⟨pt,_,_,uT,pT⟩:=gen_coef D ft hfl;have ea:c=pivC p.p p.m p.mod p.n.toNat (natR p.gen):=I;(have eb:g=pivC p.p p.m p.mod p.n.toNat (natR r.gen):=by rw [J,K.ops.2,o,<- d];rfl);rw [o] at pB;rw [<- ea,<- eb] at hf Z;(have N:∀ u∈natR r.gen,InC hfl p.n.toNat (natR p.gen) (wd hfl u):=fun u hu=>by (have V:∀ (q:Nat) (O:Ops) (E:Fld q O),p.p.toNat ^ p.m.toNat=q->opsT p.p.toNat p.m.toNat (lOf p.p p.m p.mod)=O->InC E p.n.toNat (natR p.gen) (wd E u):=by rintro q O E rfl rfl;exact L u hu E);exact V _ _ hfl hq d);have X:=lr.at_ K hfl;rw [o] at X;(have B:∀ i,i<(natR t.gen).length->(posX g c).getD i 0∈c:=fun i H=>by have y:i<(posX g c).length:=U0;rw [getD_at y];exact (List.mem_filter.1 (List.getElem_mem y)).1);(have U:∀ i,i<(natR t.gen).length->(posX g c).getD i 0<p.n.toNat:=fun i H=>by obtain ⟨k,hk,P⟩:=List.mem_iff_getElem.1 (B i H);rw [<- P,<- getD_at hk];exact pA k U0);have C:∀ k,k<(natR p.gen).length->c.getD k 0∈g\/∃ i,i<(natR t.gen).length/\(posX g c).getD i 0=c.getD k 0:=fun k hk=>by
      have z:k<c.length:=U0;by_cases A:c.getD k 0∈g
      . exact .inl A
      . have S:c.getD k 0∈posX g c:=List.mem_filter.2 ⟨by rw[getD_at z];exact List.getElem_mem z,by simp only[Bool.not_eq_true',decide_eq_false_iff_not];exact A⟩;obtain⟨i,H,M⟩:=List.mem_iff_getElem.1 S;exact .inr ⟨i,U0,by rw[getD_at H];exact M⟩
     rcases x_law uA pA uB pB W uT pT N U C (lp.at_ e hfl) X (lt.at_ D hfl) hf with h|h
     . exact .inl h
     . exact .inr (Nat.le_trans U0 h)
 . refine made_of fs v (fun hfl f=>∀j,j<p.n.toNat+t.n.toNat->f j=0) (fun hfl=>zero_lin hfl _) (fun _ hfl x hx=>?_) (fun _ hfl f hf=>.inl (qcW hf)) hm;obtain⟨_,_,_,_,_,_,T,_⟩:=hx;exact absurd T Z
end Go.Proofs.YtndipkplnkfoeaaGreat
namespace Go.Proofs.YtndipkplnkfoeaaGreat
open Go.RowKit Pln
def npC(r:Int):Nat:=if r=19 then 3 else 2
def CombP(s:StD)(ps:List StD):Prop:=
 (s.rule=8/\∃p r,ps=[p,r]/\Two8 s p r)\/(s.rule=9/\∃p r,ps=[p,r]/\Two9 s p r)\/(s.rule=10/\∃p r,ps=[p,r]/\Two10 s p r)\/(s.rule=11/\∃p r,ps=[p,r]/\Two11 s p r)\/(s.rule=19/\∃p r t,ps=[p,r,t]/\Three s p r t)
theorem combP_len(s:StD)(b:List StD)(h:CombP s b):b.length=npC s.rule:=by unfold npC;rcases h with⟨e,p,r,rfl,_⟩|⟨e,p,r,rfl,_⟩|⟨e,p,r,rfl,_⟩|⟨e,p,r,rfl,_⟩|⟨e,p,r,t,rfl,_⟩<;>rw[e]<;>rfl
theorem comb_law(s:StD)(g:List StD)(f:List Nat)(c:formZ s=0)(b:∀p∈g,formZ p=0)(i:∀p∈g,TrueOk p)(h:CombP s g)(d:∀x∈f,x<s.p.toNat^s.m.toNat):WordOk s f:=by
 have low:∀p∈g,LowOk p:=fun p hp=>true_low (b p hp) (i p hp);rcases h with⟨e,p,r,rfl,h⟩|⟨e,p,r,rfl,h⟩|⟨e,p,r,rfl,h⟩|⟨e,p,r,rfl,h⟩|⟨e,p,r,t,rfl,h⟩
 . exact law_8 c (b p U2) (b r U2) (low p U2) (low r U2) h d
 . exact law_9 c (b p U2) (b r U2) (low p U2) (low r U2) h d
 . exact law_10 c (b p U2) (b r U2) (low p U2) (low r U2) h d
 . exact law_11 c (b p U2) (b r U2) (low p U2) (low r U2) h d
 . exact law_19 c (b p U2) (b r U2) (b t U2) (low p U2) (low r U2) (low t U2) h d
theorem comb_step(i:List StD)(l:∀d∈i,d.ok)(k:Nat)(j:k<i.length)(A:Option Addr)(c:Nat)(W:World)(m:StsX StC W W.heap.size A i)(n:i.length<=1000)(ht:∃t:Nat,t∈[8,9,10,11,19]/\(i[k]'j).rule=(t:Int)):
 zC 7 #[zL A i.length c,Y k] W (AccPost W i k CombP):=by
 obtain⟨t,ht,e⟩:=ht;have g:(i[k]'j).ok:=l _ (List.getElem_mem j);simp only[List.mem_cons,List.not_mem_nil,or_false] at ht;rcases ht with rfl|rfl|rfl|rfl|rfl
 . have f:(i[k]'j).rule=8:=e;refine qcN stX_c CombP 2 U0 i A c k W m l n j U0 U0 U0 U0 (fun W=>by rw[f];exact premises_8 W) (fun cs ps v B W' h1 h2 h3 h4 h5 h6=>?_);exact(fo_8 _ f cs ps v B W' h1 h2 h3 h4 h5 h6).mono fun _ _ ⟨b,g1,g2,g3⟩=>⟨b,g1,g2,fun h=>.inl ⟨f,g3 h⟩⟩
 . have f:(i[k]'j).rule=9:=e;refine qcN stX_c CombP 2 U0 i A c k W m l n j U0 U0 U0 U0 (fun W=>by rw[f];exact premises_9 W) (fun cs ps v B W' h1 h2 h3 h4 h5 h6=>?_);exact(fo_9 _ f cs ps v B W' h1 h2 h3 h4 h5 h6).mono fun _ _ ⟨b,g1,g2,g3⟩=>⟨b,g1,g2,fun h=>.inr (.inl ⟨f,g3 h⟩)⟩
 . have f:(i[k]'j).rule=10:=e;refine qcN stX_c CombP 2 U0 i A c k W m l n j U0 U0 U0 U0 (fun W=>by rw[f];exact premises_10 W) (fun cs ps v B W' h1 h2 h3 h4 h5 h6=>?_);exact(fo_10 _ f cs ps v B W' h1 h2 h3 h4 h5 h6).mono fun _ _ ⟨b,g1,g2,g3⟩=>⟨b,g1,g2,fun h=>.inr (.inr (.inl ⟨f,g3 h⟩))⟩
 . have f:(i[k]'j).rule=11:=e;refine qcN stX_c CombP 2 U0 i A c k W m l n j U0 U0 U0 U0 (fun W=>by rw[f];exact premises_11 W) (fun cs ps v B W' h1 h2 h3 h4 h5 h6=>?_);exact(fo_11 _ f g cs ps v B W' h1 h2 h3 h4 h5 h6).mono fun _ _ ⟨b,g1,g2,g3⟩=>⟨b,g1,g2,fun h=>.inr (.inr (.inr (.inl ⟨f,g3 h⟩)))⟩
 . have f:(i[k]'j).rule=19:=e;refine qcN stX_c CombP 3 U0 i A c k W m l n j U0 U0 U0 U0 (fun W=>by rw[f];exact premises_19 W) (fun cs ps v B W' h1 h2 h3 h4 h5 h6=>?_);exact(fo_19 _ cs ps v B W' h1 h2 h3 h4 h5 h6).mono fun _ _ ⟨b,g1,g2,g3⟩=>⟨b,g1,g2,fun h=>.inr (.inr (.inr (.inr ⟨f,g3 h⟩)))⟩
theorem rpremises_c(r:Nat)(W:World)(b:r∈[8,9,10,11,19]):zC 9 #[Y (r:Int)] W fun e w'=>e=.returned (Y (npC (r:Int):Int))/\W=w':=by
 simp only[List.mem_cons,List.not_mem_nil,or_false] at b;rcases b with rfl|rfl|rfl|rfl|rfl
 . show Calls _ _ #[Y 8] W fun e w'=>e=.returned (Y 2)/\W=w';go_enter Tryz.func9,Tryz.ntmps9;go_wp2_with fail;go_ret;exact⟨rfl,rfl⟩
 . show Calls _ _ #[Y 9] W fun e w'=>e=.returned (Y 2)/\W=w';go_enter Tryz.func9,Tryz.ntmps9;go_wp2_with fail;go_ret;exact⟨rfl,rfl⟩
 . show Calls _ _ #[Y 10] W fun e w'=>e=.returned (Y 2)/\W=w';go_enter Tryz.func9,Tryz.ntmps9;go_wp2_with fail;go_ret;exact⟨rfl,rfl⟩
 . show Calls _ _ #[Y 11] W fun e w'=>e=.returned (Y 2)/\W=w';go_enter Tryz.func9,Tryz.ntmps9;go_wp2_with fail;go_ret;exact⟨rfl,rfl⟩
 . show Calls _ _ #[Y 19] W fun e w'=>e=.returned (Y 3)/\W=w';go_enter Tryz.func9,Tryz.ntmps9;go_wp2_with fail;go_ret;exact⟨rfl,rfl⟩
theorem combines_c(t:ThreeOk)(m:List StD)(A:Option Addr)(c:Nat)(i:Int)(zs:List Int)(n:Option Addr)(q:Nat)(w:World)(u:StsX StC w w.heap.size A m)(o:∀d∈m,d.ok)(x:m.length<=maxLen)(v:IntsAt w w.heap.size n zs)(p:zs.length<=maxLen):
 zC 3 #[zL A m.length c,Y i,zL n zs.length q] w (LocPost w):=by
 have f:Below w.heap.size w (w.alloc (.cells #[Y 8,Y 9,Y 10,Y 11,Y 19] 3)):=(Below.refl _ _).alloc (Nat.le_refl _) _;have b:(w.alloc (.cells #[Y 8,Y 9,Y 10,Y 11,Y 19] 3)).heap[w.heap.size]?=some (.cells #[Y 8,Y 9,Y 10,Y 11,Y 19] 3 (0,0)):=heap_alloc_new _ _;have g:=zH f
 have l:=zH (local_g stX_c CombP npC [8,9,10,11,19] U2 t (fun r W hr=>rpremises_c r W hr) combP_len (fun s ps msg h1 h2 h4 h5 _ h7=>comb_law s ps msg h1 h2 h4 h5 h7) m A c i zs n q w.heap.size 5 (w.alloc (.cells #[Y 8,Y 9,Y 10,Y 11,Y 19] 3)) (StsX.more stX_c (StsX.keep stX_c u f) f.size) o x ((v.keep f).more f.size) p (block_lt b) (fun j r hj=>by
  rcases j with _|_|_|_|_|j
  . injection hj with hj;subst hj;exact cell_of_row _ _ 0 _ _ _ b
  . injection hj with hj;subst hj;exact cell_of_row _ _ 1 _ _ _ b
  . injection hj with hj;subst hj;exact cell_of_row _ _ 2 _ _ _ b
  . injection hj with hj;subst hj;exact cell_of_row _ _ 3 _ _ _ b
  . injection hj with hj;subst hj;exact cell_of_row _ _ 4 _ _ _ b
  . simp at hj) (fun k hk' A' c' W h1 h2 h4=>comb_step m o k hk' A' c' W h1 h2 h4))
 clear u o v f b t;go_enter Tryz.func3,Tryz.ntmps3;go_wp2_with fail;refine l.out.mono ?_;rintro e w' ⟨rfl,f⟩;have h:=zH (g.out.trans (f.mono g.out.size));clear f l g;go_wp2_with fail;go_ret;exact⟨rfl,h.out⟩
theorem itself_1(G:Nat)(w:World)(p:RowsAt w w.heap.size (zO G) [[1,1,1]]):
 zC 28 #[.agg (repC 1 3 G).toArray] w (BPost true w):=by have b:=zH (sb_new w (repC 1 3 G));have g:=zH p;clear p;go_enter Tryz.func28,Tryz.ntmps28;go_upto_region 1 with fail;generalize w.alloc (.cells (repC 1 3 G).toArray 40)=c at *;have h:c.cell? (zA w.heap.size 0)=some (Y 1):=b.out.cell rfl;have n:c.cell? (zA w.heap.size 6)=some (Y 3):=b.out.cell rfl;have i:c.cell? (zA w.heap.size 1)=some (Y 2):=b.out.cell rfl;have j:c.cell? (zA w.heap.size 2)=some (Y 1):=b.out.cell rfl;have k:c.cell? (zA w.heap.size 3)=some (zL none 0 0):=b.out.cell rfl;have l:c.cell? (zA w.heap.size 4)=some (Y 3):=b.out.cell rfl;have m:c.cell? (zA w.heap.size 5)=some (zS G 1 1):=b.out.cell rfl;have d:=zH (columns_rep G c ((g.out.keep b.out.2.1).more b.out.2.1.size));go_wp2_with fail;refine d.out.mono ?_;rintro e o ⟨rfl,hb⟩;have f:=zH (b.out.2.1.trans (hb.mono b.out.2.1.size));clear hb d b h i j k l m n;go_wp2_with fail;go_ret;exact⟨rfl,f.out⟩
def RepPost(w:World)(e:Ending)(w':World):Prop:=
 ∃G,e=.returned (Da 2 1 3 G 1 1)/\RowsAt w' w'.heap.size (zO G) [[1,1,1]]/\Below w.heap.size w w'
theorem rows_new(w1:World):RowsUp ((w1.alloc (.cells #[Y 1,Y 1,Y 1] 3)).alloc (.cells #[zS w1.heap.size 3 3] 23)) w1.heap.size (zO (w1.heap.size+1)) [[1,1,1]]:=fun _=>by
 have c:((w1.alloc (.cells #[Y 1,Y 1,Y 1] 3)).alloc (.cells #[zS w1.heap.size 3 3] 23)).heap[w1.heap.size]?=some (.cells #[Y 1,Y 1,Y 1] 3 (0,0)):=(Below.heap_alloc _ _ _ U2).trans (heap_alloc_new _ _)
 have d:((w1.alloc (.cells #[Y 1,Y 1,Y 1] 3)).alloc (.cells #[zS w1.heap.size 3 3] 23)).heap[w1.heap.size+1]?=some (.cells #[zS w1.heap.size 3 3] 23 (0,0)):=alloc_at U2 _
 refine⟨w1.heap.size+1,0,rfl,U0,U2,fun i hi=>?_⟩
 obtain rfl:i=0:=by simpa using hi
 refine⟨w1.heap.size,0,3,cell_of_row _ _ 0 _ _ _ d,Nat.le_refl _,so,fun j hj=>?_⟩
 rw[cell_of_row _ _ _ _ _ _ c]
 have b:j<3:=hj
 match j,b with
 |0,_=>rfl
 |1,_=>rfl
 |2,_=>rfl
theorem repeated_c(w:World):zC 13 #[] w (RepPost w):=by have g:=zH (bx_new w (Cd) 32);go_enter Tryz.func13,Tryz.ntmps13;go_upto_region 1 with fail;generalize w.alloc (Cc)=b at *;have d:Below b.heap.size b ((b.alloc (.cells #[Y 1,Y 1,Y 1] 3)).alloc (.cells #[zS b.heap.size 3 3] 23)):=((Below.refl _ _).alloc (Nat.le_refl _) _).alloc U2 _;have c:=zH (g.out.grow d);have f:=zH (rows_new b);have i:=g.out.2.2;clear d g;go_wp2_with (refine wpList_store_row rfl 32 (.tmp 0) (.tmp 4) rfl _ w.heap.size 32 (Cb) #[Y 2,Y 1,zL none 0 0,Y 3,zS (b.heap.size+1) 1 1] rfl rfl c.out.1 codeSize rfl sc ?_);have h:Hid (BX w (Cr 2 1 3 (b.heap.size+1) 1 1) 32 (((b.alloc (.cells #[Y 1,Y 1,Y 1] 3)).alloc (.cells #[zS b.heap.size 3 3] 23)).setRow w.heap.size #[Y 2,Y 1,zL none 0 0,Y 3,zS (b.heap.size+1) 1 1])):=⟨setRow_same _ _ _ _ _ c.out.1,qaR c.out.below (Nat.le_refl _) _,by have:=c.out.2.2;simp;omega⟩;refine bodyPost_ret (results_cell_row (P:=Tryz.prog) rfl _ _ w.heap.size 32 #[Y 2,Y 1,zL none 0 0,Y 3,zS (b.heap.size+1) 1 1] (0,0) _ rfl h.out.1 Tryz.underlying32 rfl codeSize) rfl ?_;have j:=f.out.of_blocks (w':=((b.alloc (.cells #[Y 1,Y 1,Y 1] 3)).alloc (.cells #[zS b.heap.size 3 3] 23)).setRow w.heap.size #[Y 2,Y 1,zL none 0 0,Y 3,zS (b.heap.size+1) 1 1]) U2 fun k hk _=>setRow_other _ w.heap.size k _ U0;exact⟨b.heap.size+1,rfl,j.rowsAt,h.out.below⟩
section
variable {P:Program} {ops:Array Oper} {rest:List Oper} {op:Oper} {a:Act} {w:World} {Q:Exit->Act->World->Prop}
theorem qdL(k:Region.wanted op (yielded ops a.tmps)=true)(c:TypeId)(x:Operand)(i:op.op=.load c x)(b o:Nat)(l:a.eval x=.pointer (some (zA b o)))(cs:List Value)(d:TypeDesc)(f:w.rangeAt b o cs)(j:P.underlying c=some d)(hd:d.isRow=true)(g:(P.info? c).map (·.size)=some cs.length)(h:wpList P ops Q rest (a.put op.dst (.agg cs.toArray)) w):wpList P ops Q (op :: rest) a w:=
 wpList_step fun K hK=>by
  rw[if_pos k]
  exact wp_load_mid c x i b o l cs d f j hd g (hK _ _ h)
end
theorem rows_111{G:Nat}{w:World}(h:RowsAt w w.heap.size (zO G) [[1,1,1]]):∃R ro cr,w.cell? (zA G 0)=some (zL (some (zA R ro)) 3 cr)/\∀j,j<3->w.cell? (zA R (ro+j))=some (Y 1):=by
 obtain⟨b,o,c,_,i⟩:=h U2;injection c with c;injection c with e1 e2;subst e1;subst e2;obtain⟨l,d,f,g⟩:=i 0 U2;obtain⟨R,ro,rfl,_,k⟩:=g U2;refine⟨R,ro,d,f,fun j hj3=>?_⟩;have:=k j hj3;rw[this];match j,hj3 with
 |0,_=>rfl
 |1,_=>rfl
 |2,_=>rfl
theorem check_1(G b:Nat)(w:World)(d:w.rangeAt b 0 (repC 1 3 G))(c:b<w.heap.size)(f:RowsAt w w.heap.size (zO G) [[1,1,1]]):
 zC 7 #[zS b 1 1,Y 0] w (ChkPost true w):=
 checkstep_rep 1 3 premises_1 U0 U0 U0 U0 form_rep1 G b 0 1 0 w U0 U0 d c f true fun W hW=>itself_1 G W ((f.keep hW).more hW.size)
theorem check_15(G b:Nat)(w:World)(i:w.rangeAt b 23 (repC 15 4 G))(h:b<w.heap.size)(j:RowsAt w w.heap.size (zO G) [[1,1,1]]):
 zC 7 #[zS b 2 2,Y 1] w (ChkPost false w):=
 checkstep_rep 15 4 premises_15 U0 U0 U0 U0 form_rep15 G b 0 2 1 w U0 U0 i h j false fun W hW=>by
  obtain⟨R,g,c,d,f⟩:=rows_111 ((j.keep hW).more hW.size)
  exact itself_15 G R g c W d f
theorem three_c:ThreeOk:=fun w=>by
 go_enter Tryz.func5,Tryz.ntmps5
 go_wp2_with fail
 refine(repeated_c w).mono ?_
 rintro e i ⟨G,rfl,hG,hb⟩
 go_upto_region 2 with(refine qaH rfl 40 (.tmp 1) (.tmp 4) rfl i _ #[Y 1,Y 2,Y 1,zL none 0 0,Y 3,zS G 1 1,Y 3,zL none 0 0,zL none 0 0,Y 0,Y 0,zL none 0 0,Y 0,Y 0,Y 0,Y 0,Y 0,zL none 0 0,zL none 0 0,zL none 0 0,zL none 0 0,Y 0,zL none 0 0] rfl rfl stepSize rfl sc ?_)
 have b:Below i.heap.size i (i.alloc (Cj 1 2 1 3 G 1 1 3)):=(Below.refl _ _).alloc (Nat.le_refl _) _
 have A:Hid ((i.alloc (Cj 1 2 1 3 G 1 1 3)).heap[i.heap.size]?=some (Cj 1 2 1 3 G 1 1 3)):=heap_alloc_new _ _
 have u:=zH ((hG.keep b).more b.size)
 have l:=zH (hb.trans (b.mono hb.size))
 have r:i.heap.size<(i.alloc (Cj 1 2 1 3 G 1 1 3)).heap.size:=U2
 clear b hG hb
 generalize i.alloc (Cj 1 2 1 3 G 1 1 3)=L at *
 generalize i.heap.size=p at *
 clear i
 go_wp2_with fail
 refine(repeated_c L).mono ?_
 rintro e d ⟨G2,rfl,hG2,hb2⟩
 go_upto_region 3 with(refine qaH rfl 40 (.tmp 2) (.tmp 6) rfl d _ #[Y 15,Y 2,Y 1,zL none 0 0,Y 3,zS G2 1 1,Y 4,zL none 0 0,zL none 0 0,Y 0,Y 0,zL none 0 0,Y 0,Y 0,Y 0,Y 0,Y 0,zL none 0 0,zL none 0 0,zL none 0 0,zL none 0 0,Y 0,zL none 0 0] rfl rfl stepSize rfl sc ?_)
 have b:Below d.heap.size d (d.alloc (Cj 15 2 1 3 G2 1 1 4)):=(Below.refl _ _).alloc (Nat.le_refl _) _
 have c:Below L.heap.size L (d.alloc (Cj 15 2 1 3 G2 1 1 4)):=hb2.trans (b.mono hb2.size)
 have B:Hid ((d.alloc (Cj 15 2 1 3 G2 1 1 4)).heap[d.heap.size]?=some (Cj 15 2 1 3 G2 1 1 4)):=heap_alloc_new _ _
 have x:=zH ((hG2.keep b).more b.size)
 have y:=zH ((u.out.keep c).more c.size)
 have m:=zH (l.out.trans (c.mono l.out.size))
 have o:=zH ((c.block p r).trans A.out)
 have J:d.heap.size<(d.alloc (Cj 15 2 1 3 G2 1 1 4)).heap.size:=U2
 have K:p<(d.alloc (Cj 15 2 1 3 G2 1 1 4)).heap.size:=Nat.lt_of_lt_of_le r c.size
 clear b c hG2 hb2 u l A r
 generalize d.alloc (Cj 15 2 1 3 G2 1 1 4)=k at *
 generalize d.heap.size=N at *
 clear d L
 have g:Hid (k.rangeAt p 0 (Cq 1 2 1 3 G 1 1 3)):=range_of_row o.out
 go_wp2_with (refine wpList_load_mid rfl 40 (.tmp 1) rfl p 0 rfl (Cq 1 2 1 3 G 1 1 3) _ g.out Tryz.underlying40 rfl stepSize ?_)
 have b:Below k.heap.size k (k.alloc (Cj 1 2 1 3 G 1 1 3)):=(Below.refl _ _).alloc (Nat.le_refl _) _
 have s:=zH (check_1 G k.heap.size (k.alloc (Cj 1 2 1 3 G 1 1 3)) (range_of_row (heap_alloc_new _ _)) U2 ((y.out.keep b).more b.size))
 refine s.out.mono ?_
 rintro e f ⟨he,hb4⟩
 have q:e=.returned (Y 0):=he
 subst q
 have c:Below k.heap.size k f:=b.trans (hb4.mono b.size)
 have C:=zH ((c.block p K).trans o.out)
 have D:=zH ((c.block N J).trans B.out)
 have z:=zH ((x.out.keep c).more c.size)
 have n:=zH (m.out.trans (c.mono m.out.size))
 clear he b hb4 c s g o B x y m J K
 generalize k.heap.size=Q at *
 have g:Hid (f.rangeAt p 0 (Cq 1 2 1 3 G 1 1 3)):=range_of_row C.out
 have H:Hid (f.rangeAt N 0 (Cq 15 2 1 3 G2 1 1 4)):=range_of_row D.out
 go_wp2_with (first
  |(refine qdL rfl 40 (.tmp 1) rfl p 0 rfl (Cq 1 2 1 3 G 1 1 3) _ g.out Tryz.underlying40 rfl stepSize ?_)
  |(refine qdL rfl 40 (.tmp 2) rfl N 0 rfl (Cq 15 2 1 3 G2 1 1 4) _ H.out Tryz.underlying40 rfl stepSize ?_))
 have b:Below f.heap.size f (f.alloc (Cm 1 2 1 3 G 1 1 3 15 2 1 3 G2 1 1 4)):=(Below.refl _ _).alloc (Nat.le_refl _) _
 have E:Hid ((f.alloc (Cm 1 2 1 3 G 1 1 3 15 2 1 3 G2 1 1 4)).heap[f.heap.size]?=some (.cells (repC 1 3 G++repC 15 4 G2).toArray 40 (0,0))):=heap_alloc_new _ _
 have I:Hid ((f.alloc (Cm 1 2 1 3 G 1 1 3 15 2 1 3 G2 1 1 4)).rangeAt f.heap.size 23 (repC 15 4 G2)):=fun j v hj=>by
  have h:(repC 1 3 G++repC 15 4 G2)[23+j]?=some v:=by
   rw[List.getElem?_append_right (by show 23<=23+j;omega)]
   show(repC 15 4 G2)[23+j-23]?=some v
   rw[Nat.add_sub_cancel_left]
   exact hj
  have O:=range_of_row E.out (23+j) v h
  rw[Nat.zero_add] at O
  exact O
 have t:=zH (check_15 G2 f.heap.size (f.alloc (Cm 1 2 1 3 G 1 1 3 15 2 1 3 G2 1 1 4)) I.out U2 ((z.out.keep b).more b.size))
 refine t.out.mono ?_
 rintro e P ⟨he,hb6⟩
 have q:e=.returned (Y 13):=he
 subst q
 have M:=zH (n.out.trans ((b.trans (hb6.mono b.size)).mono n.out.size))
 clear he b hb6 t I E g H C D z n
 go_wp2_with fail
 go_ret
 exact⟨rfl,M.out⟩
end Go.Proofs.YtndipkplnkfoeaaGreat
