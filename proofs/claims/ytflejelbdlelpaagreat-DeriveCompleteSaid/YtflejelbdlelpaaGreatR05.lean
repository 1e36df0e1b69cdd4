/- Parts of the proof. -/
import Derived.Test.YtflejelbdlelpaaGreatR04
import Derived.BigQuiet
set_option maxRecDepth 100000
set_option maxHeartbeats 8000000
namespace Go.Proofs.YtflejelbdlelpaaGreat
open Go.RowKit Pln Go.Proofs.Tryz
theorem infoBool:(prog.info? 4).map (fun i=>(i.zero,i.size,i.bytes))=some (some (.bool false),1,1):=U1
theorem fieldSize:(prog.info? 24).map (·.size)=some 3:=U1
theorem qeL{w:Wo}{b:Nat}{cs:List Value}{t:TypeId}{fr:Nat × Nat}(h:w.heap[b]?=some (.cells cs.toArray t fr)):w.rangeAt b 0 cs:=by intro j v c;rw[Nat.zero_add,cell_of_row _ _ j _ _ _ h,List.getElem?_toArray];exact c
def BRow(w:Wo)(B g c:Nat)(bs:List Bool):Prop:=w.ownsRow B 4 1 (zS g bs.length c) bs.length (bs.map Value.bool)
section
variable {w w':Wo} {B g c:Nat} {bs:List Bool}
theorem BRow.cell(h:BRow w B g c bs){j:Nat}(b:j<bs.length):w.cell? (zA g j)=some (.bool (bs.getD j false)):=by rw[World.ownsRow.cellAt h j U0];simp[List.getD,b]
theorem BRow.frozen(h:BRow w B g c bs)(j:Nat):w.frozen? (zA g j)=false:=World.ownsRow.frozenAt h j
theorem BRow.lt(h:BRow w B g c bs):B<=g/\g<w.heap.size:=World.ownsRow.lt h g rfl
theorem BRow.set(h:BRow w B g c bs)(j:Nat)(x:Bool):BRow (w.setCell (zA g j) (.bool x)) B g c (bs.set j x):=by have:=(World.ownsRow.stored h j (.bool x)).1;unfold BRow;rw[List.length_set,List.map_set];exact this
theorem BRow.grown{row:Option Nat}(h:BRow w B g c bs)(d:w.grownBy w' row)(b:some g≠row):BRow w' B g c bs:=World.ownsRow.kept h d (.inr b)
theorem BRow.below(h:BRow w B g c bs){B':Nat}(k:Below B' w w')(l:g<B'):BRow w' B g c bs:=by
 refine⟨h.1,?_⟩;rcases h.2 with⟨f,_⟩|⟨b,cap,cur,d,i,j,r⟩
 . cases f
 . (have:b=g:=by simp only[Value.slice.injEq,Option.some.injEq,Addr.mk.injEq,and_true,true_and] at d;exact d.1.symm);exact .inr ⟨b,cap,cur,d,i,(k.block b U0).trans j,r⟩
theorem BRow.alloc(h:BRow w B g c bs)(o:Obj):BRow (w.alloc o) B g c bs:=World.ownsRow.alloc h o
theorem row_brow_ne{B' o p:Nat}{zs:LI}(h:Row w B' o p zs)(q:BRow w B g c bs):o≠g:=by
 rintro rfl;rcases h.2 with⟨f,_⟩|⟨m,cap,cur,k,_,l,_⟩
 . cases f
 . rcases q.2 with⟨f,_⟩|⟨n,i,j,d,_,b,_⟩
   . cases f
   . simp only[Value.slice.injEq,Option.some.injEq,Addr.mk.injEq,and_true,true_and] at k d;obtain⟨rfl,_⟩:=k;obtain⟨rfl,_⟩:=d;rw[l] at b;injection b with b;injection b with _ ht;exact absurd ht dc
theorem BRow.of_make{n:Nat}(h:w.ownsRow B 4 1 (zS g n c) n (madeCells (Value.bool false).cells (n*1)).toList):BRow w B g c (List.replicate n false):=by
 unfold BRow;have e:(madeCells (Value.bool false).cells (n*1)).toList=(List.replicate n false).map Value.bool:=by
  apply List.ext_getElem
  . simp[madeCells]
  . intro i b d;simp[madeCells,Value.cells,Nat.mod_one]
 rw[List.length_replicate,<- e];exact h
theorem BRow.of_made{n:Nat}(h:w.ownsRow B 4 1 (zS g n c) n (madeCells #[Value.bool false] n).toList):BRow w B g c (List.replicate n false):=BRow.of_make (by rw[Nat.mul_one];exact h)
end
theorem row_lit(W:Wo)(z:Int){B:Nat}(b:B<=W.heap.size):Row (W.alloc (.cells #[Y z] 3)) B W.heap.size 1 [z]:=
 ⟨U2,.inr ⟨W.heap.size,1,#[Y z],rfl,b,heap_alloc_new W _,Nat.le_refl _,ml,rfl,rfl⟩⟩
def OwnI(w:Wo)(B:Nat)(v:Value)(zs:LI):Prop:=∃g c,v=zS g zs.length c/\Row w B g c zs
theorem own_of_row{w:Wo}{B g c k:Nat}{zs:LI}(h:Row w B g c zs)(b:zs.length=k){o:Obj}:(w.alloc o).ownsRow B 3 1 (zS g k c) k (zs.map (Value.int .i64)):=by subst b;exact World.ownsRow.alloc h o
theorem own_of_append{w:Wo}{B k:Nat}{v:Value}{l:LN}{y:Nat}(h:w.ownsRow B 3 1 v (k+1) ((nz l).map (Value.int .i64)++[Y (y:Int)]))(b:(nz l).length=k):OwnI w B v (nz (l++[y])):=by
 obtain⟨g,cap,rfl,_,_⟩:=h.form U0;have e:nz (l++[y])=nz l++[(y:Int)]:=by simp[nz]
 refine⟨g,cap,by rw[e,List.length_append,b];rfl,?_⟩;unfold Row;rw[e,List.length_append,b,List.map_append];exact h
theorem OwnI.below{w w':Wo}{B:Nat}{v:Value}{zs:LI}(h:OwnI w B v zs)(d:zB w w'):OwnI w' B v zs:=by obtain⟨g,c,rfl,b⟩:=h;exact⟨g,c,rfl,b.below d b.lt.2⟩
def Seen(q:Nat)(bs:List Bool)(acc:LN):Prop:=bs.length=q/\∀a,a<q->(bs.getD a false=true ↔ a∈acc)
theorem Seen.set{q:Nat}{bs:List Bool}{d:LN}(h:Seen q bs d){y:Nat}(f:y<q):Seen q (bs.set y true) (d++[y]):=by
 refine⟨by simp[h.1],fun a ha=>?_⟩;by_cases c:a=y
 . subst c;simp[List.getD,h.1,f]
 . have b:=h.2 a ha;simp only[List.getD] at b ⊢;rw[List.getElem?_set_ne U0,b];simp[c]
def RelP(w W0:Wo)(q x gs:Nat)(mul:Nat->Nat->Nat)(g:Nat)(v7 v9:Value)(wr:Wo):Prop:=
 ∃k bs,1<=k/\k+g=q/\Pln.Good mul x k/\pows mul x (q+1-k) (pw mul x k) (pl mul x k)=powers mul q x/\v9=Y ((pw mul x k:Nat):Int)/\
  OwnI wr (w.heap.size+1) v7 (nz (pl mul x k))/\BRow wr (w.heap.size+1) gs q bs/\Seen q bs (pl mul x k)/\Below (w.heap.size+1) W0 wr
theorem powers_c(p m x:Nat)(A:OA)(n c:Nat)(md:LN)(w:Wo)(hs:Small p m)(hM:ModAt w w.heap.size m A n md)(ce:∀ d∈md,d<p)(hx:x<p ^ m):
 zC 145 #[C4 p m A n c,Y ((p^m:Nat):Int),Y x] w fun e w'=>(∃v,e=.returned v/\OwnI w' w.heap.size v (nz (powers (mulM p m md) (p^m) x)))/\zB w w':=by
 have bd:=zH hs;have HM:=zH hM;have aq:=zH ce;have H:=zH (qaV (p:=p) (m:=m) (by have:=hs.p1;omega) hs.m1 md);have b8:=H.o.q1;have b9:=hs.q;have ay:=zH<|hx
 clear hs hM ce;obtain⟨i0,hi,a3,a4,a5⟩:=qaF infoInt;have HI:=zH hi;have bf:=zH a3;have bg:=zH a4;have bh:=zH a5;obtain⟨i1,ki,a6,a7,a8⟩:=qaF infoBool;have KI:=zH ki;have bm:=zH a6;have bn:=zH a7;clear hi a3 a4 a5
 have HC:zK (∀y W,y<p^m->w.heap.size<=W.heap.size->zB w W->zC 146 #[C4 p m A n c,Y ((y:Nat):Int),Y x] W fun e w'=>e=.returned (Y ((mulM p m md y x:Nat):Int))/\zB W w'):=
  fun y W hy hsz hb=>multiply_c p m y x A n c md W bd.o ((HM.o.keep hb).more hsz) aq.o hy ay.o
 generalize bq:mulM p m md=mul at *;clear bq;generalize bt:p^m=q at *;clear bt;have bi:=zH (show i1.bytes*q<=281474976710656 by rw[a8];omega);have bj:=zH (show q<=maxLen by unfold maxLen;omega);clear ki a6 a7 a8 HM aq;go_enter func145,ntmps145;go_wp2_with (refine wpList_make_full _ rfl (.tmp 11) (.tmp 11) 128 rfl (w.heap.size+1) 4 i1 (.bool false) 1 underlying128 KI.out bm.out bn.out .i64 .i64 q q q rfl rfl rfl rfl bi.out bj.out ?c1 ?_);case c1=>simp
 intro w1 ae aj;have E:=BRow.of_made ae;have D:zK ((w.alloc (C2 p m A n c)).heap.size=w.heap.size+1):=U7;have ao:zK ((w.alloc (C2 p m A n c)).heap[w.heap.size]?=some (.cells (C5 p m A n c).toArray 24 (0,0))):=heap_alloc_new _ _;have ak:zK (zB w (w.alloc (C2 p m A n c))):=zV.alloc zn _;generalize w.alloc (C2 p m A n c)=W0 at *;have a0:Row (W0.alloc (.cells #[Y 1] 3)) (w.heap.size+1) (w.heap.size+1) 1 [1]:=by have:=row_lit W0 1 (B:=w.heap.size+1) (Nat.le_of_eq D.o.symm);rw[D.o] at this;exact this
 have al:=zH<|(zV.alloc (Nat.le_of_eq D.o.symm) _).grown aj (by simp[D.o]) (fun _ h=>by cases h)
 have ax:=zH (a0.grown aj U2);have l:=zH E;have s0:=E.frozen 1;have s1:=E.cell (j:=1) (by rw [List.length_replicate];omega);clear ae aj a0 E;have cd:(1:Int)<(q:Int):=U0;go_wp2_with fail;have ac:=zH (ax.o.far (p:=(zA (w.heap.size+1+1) 1)) (by show w.heap.size+1≠w.heap.size+1+1;omega) (.bool true));have r:=zH (l.o.set 1 true);have an:=zH (al.o.setCell (p:=(zA (w.heap.size+1+1) 1)) (by show w.heap.size+1<=w.heap.size+1+1;omega) (.bool true));clear s0 s1 ax l al;generalize w1.setCell (zA (w.heap.size+1+1) 1) (.bool true)=w2 at *;clear w1;have bb:zK (w.heap.size+1<=w.heap.size+1+1):=Nat.le_succ _;generalize w.heap.size+1+1=gs at *;have au:zK (pw mul x 1=x):=H.o.one x ay.o;go_loopg [7,9] (q-1) (fun g v7 v9 wr=>RelP w W0 q x gs mul g v7 v9 wr);case atStart =>
  refine⟨1,(List.replicate q false).set 1 true,Nat.le_refl _,U0,good_one x,?_,by rw[au.o],⟨w.heap.size+1,1,rfl,ac.o⟩,?_,⟨U2,?_⟩,an.o⟩
  . rw[au.o];rfl
  . exact r.o
  . intro a ha;have e:pl mul x 1=[1]:=rfl;rw[e];by_cases h1:a=1
    . subst h1;simp[List.getD,ha]
    . simp only[List.getD];rw[List.getElem?_set_ne U0];simp[ha,h1]
 case round =>
  obtain⟨k,bs,b2,b3,T,X,rfl,⟨g,c',rfl,af⟩,E,Z,ad⟩:=hrel;have f:=zH af;have l:=zH E;have i:=zH Z;have M:=zH ad;have P:=zH T;have R:=zH X;have K:=pw_lt H.o x k;clear af E Z ad T X ac r an;have s:zK (pw mul x k=0\/pw mul x k∈pl mul x k->powers mul q x=pl mul x k):=fun h=>by rw[<- R.o,show q+1-k=(q-k)+1 by omega];simp only[pows,if_pos h]
  have O:=zH<|ak.o.trans (M.o.mono (Nat.le_succ _))
  have z:zK ((nz (pl mul x k)).length=k):=by show _=_;rw[qaA,pl_len]
  have ah:=zH (f.o.base (B':=w.heap.size) (by have:=f.o.lt;omega));have S:zK (pw mul x k<q->(bs.getD (pw mul x k) false=true ↔ pw mul x k∈pl mul x k)):=i.o.2 _;have L:=zH<|l.o.cell (by rw[i.o.1];exact K)
  have aa:zK (wr.frozen? (zA gs (pw mul x k))=false):=l.o.frozen _;have J:zK (pw mul x (k+1)=mul (pw mul x k) x):=rfl;have Q:zK (pl mul x (k+1)=pl mul x k++[pw mul x k]):=pl_succ x k;have I:zK (pw mul x k≠0->pw mul x k∉pl mul x k->Pln.Good mul x (k+1)/\pows mul x (q+1-(k+1)) (pw mul x (k+1)) (pl mul x (k+1))=powers mul q x):=fun h1 h2=>by
   refine⟨good_succ P.o h1 h2,?_⟩;rw[<- R.o,show q+1-k=(q+1-(k+1))+1 by omega];have hn:¬(pw mul x k=0\/pw mul x k∈pl mul x k):=by
    rintro(h|h)
    . exact h1 h
    . exact h2 h
   simp only[pows,if_neg hn,Q.o,J.o]
  rw[z.o];clear R P;by_cases hz:pw mul x k=0
  . have HE:=zH (s.o (.inl hz));clear s S L aa J Q I;rw[hz];clear hz K;go_wp2;go_ret;exact⟨⟨zS g k c',rfl,g,c',by rw[HE.o,z.o],by rw[HE.o];exact ah.o⟩,O.o⟩
  . by_cases hm : pw mul x k ∈ pl mul x k
    . have HE:=zH (s.o (.inr hm));have hb:=L.o;rw[(S.o K).2 hm] at hb;clear s S L aa J Q I hm;generalize pw mul x k=y at *;(have bz:((y:Int) != 0)=true:=by simpa using hz);have a1:¬(y:Int)=0:=U0;have bw:(0:Int)<=(y:Int):=U0;have bx:(y:Int)<(q:Int):=U0;go_wp2;go_ret;exact⟨⟨zS g k c',rfl,g,c',by rw[HE.o,z.o],by rw[HE.o];exact ah.o⟩,O.o⟩
    . have hb := L.o;have az:bs.getD (pw mul x k) false=false:=by
       cases h:bs.getD (pw mul x k) false
       . rfl
       . exact absurd ((S.o K).1 h) hm
      rw[az] at hb;have hf:=aa.o;obtain⟨ai,X⟩:=I.o hz hm;have ba:=zH ai;have R:=zH X;have b7:=good_len H.o ai;have ab:=zH (i.o.set K);have a9:zK (∀W,w.heap.size<=W.heap.size->zB w W->zC 146 #[C4 p m A n c,Y ((pw mul x k:Nat):Int),Y x] W fun e w'=>e=.returned (Y ((mul (pw mul x k) x:Nat):Int))/\zB W w'):=fun W h1 h2=>HC.o _ W K h1 h2;clear s S L aa I hm az ai X i O ah;have be:zK (pw mul x k=pw mul x k):=rfl;generalize a2:pw mul x k=y at *;have b0:=zH a2;clear be a2;(have bz:((y:Int) != 0)=true:=by simpa using hz);have a1:¬(y:Int)=0:=U0;have bw:(0:Int)<=(y:Int):=U0;have bx:(y:Int)<(q:Int):=U0;have br:=row_brow_ne f.o l.o;have av:=zH (f.o.far (p:=(zA gs y)) br (.bool true));have r:=zH (l.o.set y true);have C:=zH (M.o.setCell (p:=(zA gs y)) bb.o (.bool true));have bp:=f.o.lt;have b1:=bp.2;go_upto_region 8 with fail;clear hb hf f l M;generalize wr.setCell (zA gs y) (.bool true)=ws at *;(have bv:w.heap.size+1<=ws.heap.size:=by have:=C.o.size;have:=D.o;omega);have b6:k<=256:=U0;go_wp2_with (at_builtin;refine wpList_append_own_at _ rfl (.tmp 32) (.tmp 34) 22 rfl (w.heap.size+1) 3 i0 _ 1 8 underlying22 HI.o bf.o bg.o bh.o rfl dc (zS g k c') k ((nz (pl mul x k)).map (Value.int .i64)) rfl (own_of_row av.o z.o) (zA ws.heap.size 0) 1 1 [Y (y:Int)] rfl rfl ?c1 ?c2 ?c3 ?c4 ?c5 ?_);case c1=>exact World.news_of_block (cs:=#[Y (y:Int)]) (t:=3) (fr:=(0,0)) (heap_alloc_new ws _)
      case c2=>intro u hu;simp at hu;subst hu;rfl
      case c3=>unfold maxLen;omega
      case c4=>omega
      case c5=>simp;omega
      intro v' w3 V U _ bo;(have ar:zK (OwnI w3 (w.heap.size+1) v' (nz (pl mul x (k+1)))):=by rw[Q.o];exact own_of_append V z.o);(have N:=zH<|(r.o.alloc _).grown U V1);(have b:=zH<|(C.o.alloc bv _).grown U so (fun j hj=>by simp[Value.ownBlock] at hj;omega));(have aw:=zH<|qeL ((b.o.block _ (Nat.lt_succ_self _)).trans ao.o));(have bu:w.heap.size<=w3.heap.size:=by have:=b.o.size;have:=D.o;omega);clear V U bo av r C;go_wp2_with (refine wpList_load_mid rfl 24 (.tmp 3) rfl w.heap.size 0 rfl (C5 p m A n c) _ aw.o underlying24 rfl fieldSize ?_);(with_reducible refine(a9.o w3 bu (ak.o.trans (b.o.mono (Nat.le_succ _)))).mono ?_);rintro e w4 ⟨rfl,hb4⟩;have bc:=zH (ar.o.below hb4);have ap:=zH (N.o.below hb4 N.o.lt.2);have ag:=zH (b.o.trans (hb4.mono (by have:=b.o.size;have:=D.o;omega)));clear hb4 ar N b aw;go_wp2_with fail;go_roundg (q-(k+1));case measure=>omega
      case rel=>exact⟨k+1,_,U0,U0,ba.o,R.o,by rw[J.o],bc.o,ap.o,by rw[Q.o];exact ab.o,ag.o⟩
def GenV(w:Wo)(B:Nat)(v:Value)(l:LN):Prop:=(l=[]/\v=zL none 0 0)\/(l≠[]/\OwnI w B v (nz l))
def RelG(w W0:Wo)(q:Nat)(mul:Nat->Nat->Nat)(g:Nat)(v5:Value)(wr:Wo):Prop:=
 ∃x:Nat,1<=x/\x+g=q/\v5=Y x/\genGo mul q (q-x) x=genM mul q/\Below (w.heap.size+1) W0 wr
def CutG(w W0:Wo)(l:LN)(b:Bool)(v6 v31:Value)(wr:Wo):Prop:=v31=.bool b/\OwnI wr (w.heap.size+1) v6 (nz l)/\Below (w.heap.size+1) W0 wr
theorem generator_c(p m:Nat)(A:OA)(n c:Nat)(md:LN)(w:Wo)(hs:Small p m)(hM:ModAt w w.heap.size m A n md)(az:∀ d∈md,d<p):
 zC 90 #[C4 p m A n c,Y ((p^m:Nat):Int)] w fun e w'=>(∃v,e=.returned v/\GenV w' w.heap.size v (genM (mulM p m md) (p^m)))/\zB w w':=by
 have B:=zH (qaV (p:=p) (m:=m) (by have:=hs.p1;omega) hs.m1 md);have au:=B.o.q1;have av:=hs.q
 have ab:zK (∀x y W,x<p^m->y<p^m->w.heap.size<=W.heap.size->zB w W->zC 146 #[C4 p m A n c,zN x,Y ((y:Nat):Int)] W fun e w'=>e=.returned (Y ((mulM p m md x y:Nat):Int))/\zB W w'):=
  fun x y W hx hy hsz S=>multiply_c p m x y A n c md W hs ((hM.keep S).more hsz) az hx hy
 have ac:zK (∀x W,x<p^m->w.heap.size<=W.heap.size->zB w W->zC 145 #[C4 p m A n c,Y ((p^m:Nat):Int),zN x] W fun e w'=>(∃v,e=.returned v/\OwnI w' W.heap.size v (nz (powers (mulM p m md) (p^m) x)))/\zB W w'):=
  fun x W hx hsz S=>powers_c p m x A n c md W hs ((hM.keep S).more hsz) az hx
 clear hs hM az;generalize ai:mulM p m md=mul at *;clear ai;generalize aj:p^m=q at *;clear aj;go_enter func90,ntmps90;go_wp2_with fail;have D:zK ((w.alloc (C2 p m A n c)).heap.size=w.heap.size+1):=U7;have r:zK ((w.alloc (C2 p m A n c)).heap[w.heap.size]?=some (.cells (C5 p m A n c).toArray 24 (0,0))):=heap_alloc_new _ _;have M:zK (zB w (w.alloc (C2 p m A n c))):=zV.alloc zn _;generalize w.alloc (C2 p m A n c)=Z at *;go_loopg [5] (q-1) (fun g v5 wr=>RelG w Z q mul g v5 wr);case atStart=>exact⟨1,Nat.le_refl _,U0,rfl,rfl,Below.refl _ _⟩
 case round =>
  obtain⟨x,ax,ay,rfl,V,s⟩:=hrel;have t:=zH V;have k:=zH s;have u:=zH<|M.o.trans (s.mono (Nat.le_succ _))
  have al:w.heap.size<=wr.heap.size:=by have:=s.size;have:=D.o;omega
  clear V s;by_cases P:x<q
  . (have U := zH<|qeL ((k.o.block _ (Nat.lt_succ_self _)).trans r.o));go_wp2_with (refine wpList_load_mid rfl 24 (.tmp 2) rfl w.heap.size 0 rfl (C5 p m A n c) _ U.o underlying24 rfl fieldSize ?_);(with_reducible refine (ac.o x wr P al u.o).mono ?_);rintro e J ⟨⟨v,rfl,hown⟩,hb1⟩;obtain ⟨g,R,rfl,I⟩:=hown;have af:=I.lt;have b:=zH (k.o.trans (hb1.mono (by have:=k.o.size;have:=D.o;omega)));have C:=zH (I.base (B':=w.heap.size+1) (by have:=k.o.size;have:=D.o;omega));obtain ⟨kk,N,ar,Q⟩:=powers_spec B.o P;have aq:=zH Q;have z:zK (∀ j,(powers mul q x).getD j 0<q):=fun j=>by
     rw[Q];unfold pl;simp only[List.getD,List.getElem?_map];cases (List.range kk)[j]? with
     |none=>simp;omega
     |some i=>exact pw_lt B.o x i
    (have f:zK (genGo mul q (q-x) x=if (powers mul q x).length=q-1/\mul ((powers mul q x).getD (q-2) 0) x=1 then powers mul q x else genGo mul q (q-(x+1)) (x+1)):=by show _=_;rw [show q-x=(q-(x+1))+1 by omega];rfl);clear I hb1 Q N U k u;generalize ah:powers mul q x=l at *;clear ah;rw [qaA];go_upto_region 5 with fail;(have ak:w.heap.size<=J.heap.size:=by have:=b.o.size;have:=D.o;omega);have z0:J.cell? (zA w.heap.size 0)=some (Y p):=(b.o.cell (p:=(zA w.heap.size 0)) (by show w.heap.size < _;omega)).trans (cell_of_row _ _ 0 _ _ _ r.o);have z1:J.cell? (zA w.heap.size 1)=some (Y m):=(b.o.cell (p:=(zA w.heap.size 1)) (by show w.heap.size < _;omega)).trans (cell_of_row _ _ 1 _ _ _ r.o);have z2:J.cell? (zA w.heap.size 2)=some (zL A n c):=(b.o.cell (p:=(zA w.heap.size 2)) (by show w.heap.size < _;omega)).trans (cell_of_row _ _ 2 _ _ _ r.o);(have L:w.heap.size<J.heap.size:=by have:=b.o.size;have:=D.o;omega);go_cut [31] (fun v31 wx=>CutG w Z l (decide (l.length=q-1/\mul (l.getD (q-2) 0) x=1)) (zS g l.length R) v31 wx);case first =>
     by_cases hl:l.length=q-1
     . (have ag : ((l.length : Int) == (q : Int) - 1) = true := by simp;omega);have O:(l.length:Int)=(q:Int)-1:=U0;have ap:=zH O;(have T:zK (decide (l.length=q-1/\mul (l.getD (q-2) 0) x=1)=decide (mul (l.getD (q-2) 0) x=1)):=by show _=_;rw [decide_eq_decide];exact ⟨fun h=>h.2,fun h=>⟨hl,h⟩⟩);(have aw:J.cell? (zA g (q-2))=some (Y ((l.getD (q-2) 0:Nat):Int)):=by rw [<- qaC];exact C.o.cell (by rw [qaA];omega));have ao:=z.o (q-2);have X:=af.2;have t0:(0:Int)<=(q:Int)-2:=U0;have t1:(q:Int)-2<(l.length:Int):=U0;have t2:((q:Int)-2).toNat=q-2:=U0;have t3:(2:Int)<=(q:Int):=U0;have HL:=zH hl;clear hl O;generalize an:l.getD (q-2) 0=y at *;clear an;have aa:=zH (ab.o y x J.drew ao P (show w.heap.size<=J.drew.heap.size from ak) (M.o.trans (b.o.mono (Nat.le_succ _))).drew);have e1:IntKind.i64.wrap ((q:Int)-1)=(q:Int)-1:=IntWalk.i64_in _ U0;have e2:IntKind.i64.wrap ((q:Int)-2)=(q:Int)-2:=IntWalk.i64_in _ U0
       go_region_held3 (fun w'=>w'.cell? (zA w.heap.size 0)=some (Y p)/\w'.cell? (zA w.heap.size 1)=some (Y m)/\w'.cell? (zA w.heap.size 2)=some (zL A n c)/\w'.cell? (zA g (q-2))=some (Y (y:Int)))
        (first|go_keep|(go_split_ands;exact⟨(hbd.cell (p:=(zA w.heap.size 0)) L).trans am,(hbd.cell (p:=(zA w.heap.size 1)) L).trans am,(hbd.cell (p:=(zA w.heap.size 2)) L).trans am,(hbd.cell (p:=(zA g (q-2))) X).trans am⟩))
        (first|(go_fit aa.o;rintro e w2 ⟨rfl,hbd⟩))
       have E:zB J w2:=⟨hbd.os,hbd.tape,hbd.output,hbd.size,hbd.block⟩;have HY:zK (CutG w Z l (decide (l.length=q-1/\mul y x=1)) (zS g l.length R) (.bool (((mul y x:Nat):Int)==1)) w2):=by
        refine⟨?_,⟨g,R,by rw[qaA],C.o.below E X⟩,b.o.trans (E.mono L)⟩;rw[T.o];congr 1;by_cases h:mul y x=1
        . simp[h]
        . simp[h];omega
       clear e1 e2 z0 z1 z2 hbd E;go_wp2;go_meet;exact HY.o
     . have HX : zK (decide (l.length = q - 1 /\ mul (l.getD (q - 2) 0) x = 1) = false) := decide_eq_false (fun h => hl h.1);have ag:((l.length:Int)==(q:Int)-1)=false:=so;have O:¬ (l.length:Int)=(q:Int)-1:=U0;have e1:IntKind.i64.wrap ((q:Int)-1)=(q:Int)-1:=IntWalk.i64_in _ U0;go_quiet (fail)
       have HY:zK (CutG w Z l (decide (l.length=q-1/\mul (l.getD (q-2) 0) x=1)) (zS g l.length R) (.bool false) (J.drewN nq)):=
        ⟨by rw[HX.o],⟨g,R,by rw[qaA],C.o⟩,qaB b.o nq⟩
       clear e1 z0 z1 z2;go_wp2;go_meet;exact HY.o
    case rest =>
     obtain⟨rfl,⟨g',c2,he,hr⟩,S⟩:=hcut;have HR:=zH hr;have HB:=zH S;have HE:=zH he;clear hr S he z0 z1 z2;by_cases hd:l.length=q-1/\mul (l.getD (q-2) 0) x=1
     . (have K:zK (genM mul q=l):=by show _=_;rw[<- t.o,f.o,if_pos hd]);have H:=decide_eq_true hd;(have ae:zK (l≠[]):=fun h=>by subst h;have:=hd.1;simp at this;omega);rw[H];clear hd H f t z;go_wp2;go_ret;refine⟨⟨zS g l.length R,rfl,.inr ⟨by rw[K.o];exact ae.o,?_⟩⟩,M.o.trans (HB.o.mono (Nat.le_succ _))⟩;rw[K.o];exact⟨g',c2,HE.o,HR.o.base (by have:=HR.o.lt;omega)⟩
     . (have K : zK (genGo mul q (q - (x + 1)) (x + 1) = genM mul q):=by show _ = _;rw[<- t.o,f.o,if_neg hd]);have H:=decide_eq_false hd;rw[H];clear hd H f t z;go_wp2_with fail;go_roundg (q-(x+1));case measure=>omega
       case rel=>exact⟨x+1,U0,U0,U3,K.o,HB.o⟩
  . (obtain rfl:x=q:=by omega);(have ad:zK (genM mul x=[]):=by show _=_;rw[<- t.o,Nat.sub_self];rfl);clear t;go_wp2;go_ret;exact⟨⟨_,rfl,.inl ⟨ad.o,rfl⟩⟩,u.o⟩
def mdOf(m:Int)(mod:LI):LN:=if m=1 then[0] else mod.map Int.toNat
def inB(p c:Int):Bool:=decide (0<=c) && decide (c<p)
def shapeM(p m:Int)(mod:LI):Bool:=
 !(orderM p m==0) && primeP p.toNat && (if m=1 then mod.length==0 else((mod.length:Int)==m) && mod.all (inB p))
structure ShapeIs (p m:Int) (mod:LI):Prop where
 p0:((p.toNat:Nat):Int)=p
 m0:((m.toNat:Nat):Int)=m
 small:Small p.toNat m.toNat
 prime:primeP p.toNat=true
 ord:orderM p m=((p.toNat^m.toNat:Nat):Int)
 one:m=1->mod=[]
 len:m≠1->mod.length=m.toNat
 nat:m≠1->nz (mdOf m mod)=mod
 lt:∀d∈mdOf m mod,d<p.toNat
theorem orderM_ne{p m:Int}(h:orderM p m≠0):((p.toNat:Nat):Int)=p/\((m.toNat:Nat):Int)=m/\Small p.toNat m.toNat/\orderM p m=((p.toNat ^ m.toNat:Nat):Int):=by
 unfold orderM at h ⊢;by_cases b:p<2\/256<p\/m<1\/8<m
 . rw[if_pos b] at h;exact absurd rfl h
 . rw[if_neg b] at h ⊢;by_cases c:256<p.toNat^m.toNat
   . rw[if_pos c] at h;exact absurd rfl h
   . rw[if_neg c];exact⟨U0,U0,⟨U0,U0,U0,U0,U0⟩,rfl⟩
theorem qeQ{p m:Int}{mod:LI}(h:shapeM p m mod=true):ShapeIs p m mod:=by
 unfold shapeM at h;simp only[Bool.and_eq_true,Bool.not_eq_true',beq_eq_false_iff_ne,ne_eq] at h;obtain⟨⟨n,l⟩,j⟩:=h;obtain⟨a,b,c,d⟩:=orderM_ne n;by_cases g:m=1
 . rw[if_pos g] at j;refine⟨a,b,c,l,d,fun _=>by simpa using j,fun h=>absurd g h,fun h=>absurd g h,?_⟩;intro x i;unfold mdOf at i;rw[if_pos g] at i;simp at i;have:=c.p1;omega
 . rw[if_neg g] at j;simp only[Bool.and_eq_true,beq_iff_eq] at j;(have f:=fun z k=>by have:=List.all_eq_true.1 j.2 z k;simpa[inB] using this);refine⟨a,b,c,l,d,fun h=>absurd h g,fun _=>U0,fun _=>?_,?_⟩
   . unfold mdOf nz;rw[if_neg g,List.map_map];(conv=>rhs;rw[<- List.map_id mod]);apply List.map_congr_left;intro z k;have:=f z k;simp;omega
   . intro x i;unfold mdOf at i;rw[if_neg g] at i;obtain⟨z,k,rfl⟩:=List.mem_map.1 i;have:=f z k;omega
theorem ShapeIs.mod{w:Wo}{p m:Int}{mod:LI}{B:Nat}{A:OA}(h:ShapeIs p m mod)(f:IntsAt w B A mod):ModAt w B m.toNat A mod.length (mdOf m mod):=by
 by_cases b:m=1
 . refine .inl ⟨U0,?_⟩;unfold mdOf;rw[if_pos b]
 . have c:=h.small.m1;have d:=h.m0;refine .inr ⟨U0,h.len b,?_,?_⟩
   . have:=h.nat b;rw[<- h.len b,<- this,qaA,this]
   . rw[h.nat b];exact f
theorem shape_c(p m:Int)(mod:LI)(A:OA)(c:Nat)(w:Wo)(hA:zI w A mod)(hl:mod.length<=9223372036854775807):
 zC 89 #[C4 p m A mod.length c] w fun e w'=>e=.returned (.bool (shapeM p m mod))/\zB w w':=by
 have U:=zH hA;have d:zK (zB w (w.alloc (C2 p m A mod.length c))):=zV.alloc zn _;clear hA;by_cases u:orderM p m=0
 . (have j:zK (shapeM p m mod=false):=by show _=_;unfold shapeM;rw[u];rfl);(have C:(orderM p m==0)=true:=by rw[u];rfl);clear u;go_enter func89,ntmps89;go_wp2_with (go_at_call 91;refine(qcX _ _ _).mono ?_;rintro e w' ⟨rfl,rfl⟩);go_ret;exact⟨qaN j.o.symm,d.o⟩
 . obtain ⟨E,B,R,D⟩ := orderM_ne u;(have C:(orderM p m==0)=false:=by simpa using u);obtain ⟨p,rfl⟩:∃ p':Nat,p=p':=⟨p.toNat,E.symm⟩;obtain ⟨m,rfl⟩:∃ m':Nat,m=m':=⟨m.toNat,B.symm⟩;obtain ⟨Q,t,L,M,X⟩:=R;simp only [Int.toNat_natCast] at Q t L M;(have f:zK (shapeM p m mod=(primeP p && (if (m:Int)=1 then mod.length==0 else ((mod.length:Int)==(m:Int)) && mod.all (inB p)))):=by show _=_;unfold shapeM;rw [C];simp);clear E B u X D;cases hpr:primeP p
   . (have j:zK (shapeM p m mod=false):=by show _=_;rw[f.o,hpr];rfl);(have x:zK (∀W:Wo,zC 144 #[Y (p:Int)] W fun e w'=>e=.returned (.bool false)/\W=w'):=fun W=>by have:=isPrime_c p t W;rw[hpr] at this;exact this);clear hpr f;go_enter func89,ntmps89;go_wp2_with (first|(go_at_call 91;refine(qcX _ _ _).mono ?_;rintro e w' ⟨rfl,rfl⟩)|(go_at_call 144;refine(x.o _).mono ?_;rintro e w' ⟨rfl,rfl⟩));go_ret;exact⟨qaN j.o.symm,d.o⟩
   . (have x : zK (∀ W : Wo,zC 144 #[Y (p : Int)] W fun e w' => e = .returned (.bool true) /\ W = w') := fun W => by have:=isPrime_c p t W;rw [hpr] at this;exact this);rw [hpr] at f;clear hpr;have J:zK ((w.alloc (C2 p m A mod.length c)).heap[w.heap.size]?=some (C2 p m A mod.length c)):=heap_alloc_new _ _;by_cases P:m=1
     . (have j : zK (shapeM p m mod = (mod.length == 0)) := by show _ = _;rw [f.o,if_pos U0];rfl);have N:((m:Int)==1)=true:=so;have O:(m:Int)=1:=U0;clear f P O;go_enter func89,ntmps89;go_wp2_with (first|(go_at_call 91;refine (qcX _ _ _).mono ?_;rintro e w' ⟨rfl,rfl⟩)|(go_at_call 144;refine (x.o _).mono ?_;rintro e w' ⟨rfl,rfl⟩));go_ret;refine ⟨qaN ?_,d.o⟩;rw [j.o];have Z:((mod.length:Int)==0)=(mod.length==0):=by
        by_cases K:mod.length=0
        . rw[K];rfl
        . (have H:¬(mod.length:Int)=0:=by omega);rw[beq_eq_false_iff_ne.2 H,beq_eq_false_iff_ne.2 K]
       exact Z
     . (have N : ((m : Int) == 1) = false := by simp;omega);(have g:zK (shapeM p m mod=(((mod.length:Int)==(m:Int)) && mod.all (inB p))):=by show _=_;rw [f.o,if_neg U0];rfl);clear f;by_cases i:mod.length=m
       . (have l : ((mod.length : Int) == (m : Int)) = true := by simp;omega);have y:((mod.length:Int) != (m:Int))=false:=so;(have j:zK (shapeM p m mod=mod.all (inB p)):=by show _=_;rw [g.o,l];rfl);have S:=zH i;have V:mod.length<=8:=U0;clear g l i;go_enter func89,ntmps89;go_wp2_with (first|(go_at_call 91;refine (qcX _ _ _).mono ?_;rintro e w' ⟨rfl,rfl⟩)|(go_at_call 144;refine (x.o _).mono ?_;rintro e w' ⟨rfl,rfl⟩));generalize w.alloc (C2 p m A mod.length c)=W at *;go_loop [33] (fun v33=>∃ k:Nat,k<=mod.length/\v33=Y k/\(mod.take k).all (inB p)=true) (fun v33=>mod.length-(intOf v33).toNat);case atStart=>exact ⟨0,U0,rfl,U2⟩
         case round =>
          obtain⟨k,hk,rfl,s⟩:=hrel;have q:=zH s;clear s;have z0:W.cell? (zA w.heap.size 0)=some (Y p):=cell_of_row _ _ 0 _ _ _ J.o;by_cases n:k<mod.length
          . obtain ⟨b,o,rfl,hb,hc⟩ := (U.o.keep d.o).at_ n;(have I:zK ((mod.take (k+1)).all (inB p)=((mod.take k).all (inB p) && inB p (mod.getD k 0))):=by show _=_;rw [List.take_succ_eq_append_getElem n,List.all_append];simp [List.getD,n]);(have r:zK (inB p (mod.getD k 0)=false->mod.all (inB p)=false):=fun h=>by rw [List.all_eq_false];exact ⟨mod.getD k 0,by rw [List.getD_eq_getElem?_getD,List.getElem?_eq_getElem n];exact List.getElem_mem n,by rw [h];simp⟩);generalize mod.getD k 0=z at *;by_cases K:z<0
            . have v:=zH (r.o (by unfold inB;rw[decide_eq_false U0];rfl));go_wp2;go_ret;exact⟨qaN (by rw[j.o,v.o]),d.o⟩
            . by_cases H : z < p
              . (have v : zK (inB p z = true):=by show _ = _;unfold inB;rw[decide_eq_true U0,decide_eq_true H];rfl);go_wp2;go_round;case rel=>exact⟨k+1,U0,U3,by rw[I.o,q.o,v.o];rfl⟩
                case measure=>simp[intOf];omega
              . have v:=zH (r.o (by unfold inB;rw[decide_eq_false H,Bool.and_false]));go_wp2;go_ret;exact⟨qaN (by rw[j.o,v.o]),d.o⟩
          . go_wp2;go_ret;refine⟨qaN ?_,d.o⟩;have:=q.o;rw[List.take_of_length_le U0] at this;rw[j.o,this]
       . (have l:((mod.length:Int)==(m:Int))=false:=by simp;omega);have y:((mod.length:Int) != (m:Int))=true:=so;have T:=i;(have j:zK (shapeM p m mod=false):=by show _=_;rw[g.o,l];rfl);clear g l i;go_enter func89,ntmps89;go_wp2_with (first|(go_at_call 91;refine(qcX _ _ _).mono ?_;rintro e w' ⟨rfl,rfl⟩)|(go_at_call 144;refine(x.o _).mono ?_;rintro e w' ⟨rfl,rfl⟩));go_ret;exact⟨qaN j.o.symm,d.o⟩
def fieldOK(p m:Int)(mod:LI):Bool:=shapeM p m mod && !(genM (mulM p.toNat m.toNat (mdOf m mod)) (p.toNat^m.toNat)).isEmpty
def errF(b:Bool):Int:=if b=true then 0 else 1
def SBoxF(w:Wo)(p m:Int)(A:OA)(n c:Nat)(W:Wo):Prop:=
 zB w W/\w.heap.size<W.heap.size/\W.heap[w.heap.size]?=some (C2 p m A n c)
theorem SBoxF.grow{w:Wo}{p m:Int}{A:OA}{n c:Nat}{W d:Wo}(h:SBoxF w p m A n c W)(b:zB W d):SBoxF w p m A n c d:=
 ⟨h.1.trans (b.mono (Nat.le_of_lt h.2.1)),Nat.lt_of_lt_of_le h.2.1 b.size,(b.block _ h.2.1).trans h.2.2⟩
def CutC(w _W0:Wo)(b:Bool)(v15:Value)(wx:Wo):Prop:=v15=.bool b/\zB w wx
theorem qfV{p m:Int}{mod:LI}(b:ShapeIs p m mod)(A:OA)(c:Nat)(w:Wo)(d:zI w A mod):
 zC 90 #[C4 p m A mod.length c,Y (orderM p m)] w fun e w'=>(∃v,e=.returned v/\GenV w' w.heap.size v (genM (mulM p.toNat m.toNat (mdOf m mod)) (p.toNat^m.toNat)))/\zB w w':=by have h:=generator_c p.toNat m.toNat A mod.length c (mdOf m mod) w b.small (b.mod d) b.lt;rw[b.p0,b.m0] at h;rw[b.ord];exact h
theorem fcheck_c(p m:Int)(mod:LI)(A:OA)(c:Nat)(w:Wo)(hA:zI w A mod)(hl:mod.length<=9223372036854775807):
 zC 40 #[C4 p m A mod.length c] w fun e w'=>e=.returned (Y (errF (fieldOK p m mod)))/\zB w w':=by
 have Z:=zH hA
 have I:zK (∀W,w.heap.size<=W.heap.size->zB w W->zC 89 #[C4 p m A mod.length c] W fun e w'=>e=.returned (.bool (shapeM p m mod))/\zB W w'):=
  fun W h1 h2=>shape_c p m mod A c W ((hA.keep h2).more h1) hl
 have z:zK (ShapeIs p m mod->∀W,w.heap.size<=W.heap.size->zB w W->zC 90 #[C4 p m A mod.length c,Y (orderM p m)] W fun e w'=>(∃v,e=.returned v/\GenV w' W.heap.size v (genM (mulM p.toNat m.toNat (mdOf m mod)) (p.toNat^m.toNat)))/\zB W w'):=
  fun hs W h1 h2=>qfV hs A c W ((hA.keep h2).more h1)
 clear hA;go_enter func40,ntmps40;go_upto_region 1 with fail;have R:zK ((w.alloc (C2 p m A mod.length c)).heap.size=w.heap.size+1):=U7;have f:zK ((w.alloc (C2 p m A mod.length c)).heap[w.heap.size]?=some (.cells (C5 p m A mod.length c).toArray 24 (0,0))):=heap_alloc_new _ _;have x:zK (zB w (w.alloc (C2 p m A mod.length c))):=zV.alloc zn _;generalize w.alloc (C2 p m A mod.length c)=D at *;have O:D.cell? (zA w.heap.size 0)=some (Y p):=cell_of_row _ _ 0 _ _ _ f.o;have P:D.cell? (zA w.heap.size 1)=some (Y m):=cell_of_row _ _ 1 _ _ _ f.o;have Q:D.cell? (zA w.heap.size 2)=some (zL A mod.length c):=cell_of_row _ _ 2 _ _ _ f.o;have d:w.heap.size<D.heap.size:=by have:=R.o;omega
 go_cut [15] (fun v15 wx=>CutC w D (!fieldOK p m mod) v15 wx);case first =>
  have y:=zH (I.o D.drew (Nat.le_of_lt d) x.o.drew);cases hsh:shapeM p m mod
  . (have B : zK (fieldOK p m mod = false) := by show _ = _;unfold fieldOK;rw [hsh];rfl);have M:=zH (fun W h1 h2=>I.o W h1 h2);rw [hsh] at M;clear hsh z y;refine qaD (SBoxF w p m A mod.length c) U1 U1 ⟨x.o.drew,d,f.o⟩ ?_
    repeat (first
     | (apply qaJ rfl
        . intro W E
          obtain⟨_,_,u⟩:=E
          have e0:W.cell? (zA w.heap.size 0)=some (Y p):=cell_of_row _ _ 0 _ _ _ u
          have e1:W.cell? (zA w.heap.size 1)=some (Y m):=cell_of_row _ _ 1 _ _ _ u
          have e2:W.cell? (zA w.heap.size 2)=some (zL A mod.length c):=cell_of_row _ _ 2 _ _ _ u
          go_simp
          rfl
        go_simp)
     | (apply qaO rfl
        . intro W E
          go_simp
          exact⟨rfl,rfl⟩
        . intro W E
          exact(M.o W (Nat.le_of_lt E.2.1) E.1).mono (by rintro e w' ⟨rfl,hbw⟩;exact⟨rfl,E.grow hbw⟩)
        go_simp)
     |(apply qbI rfl;go_simp))
    refine qaE ?_;intro S E;have N:zK (CutC w D (!fieldOK p m mod) (.bool true) S):=⟨by rw[B.o];rfl,E.1⟩;clear E O P Q;go_wp2;go_meet;exact N.o
  . have j := qeQ hsh;rw [hsh] at y;have i:=zH (z.o j);(have C:zK (fieldOK p m mod=!(genM (mulM p.toNat m.toNat (mdOf m mod)) (p.toNat ^ m.toNat)).isEmpty):=by show _=_;unfold fieldOK;rw [hsh];rfl);clear hsh z j;generalize genM (mulM p.toNat m.toNat (mdOf m mod)) (p.toNat ^ m.toNat)=V at *;by_cases l:V=[]
    . (have B : zK (fieldOK p m mod = false) := by show _ = _;rw [C.o,l];rfl)
      have t:zK (∀ W,w.heap.size<=W.heap.size->zB w W->zC 90 #[C4 p m A mod.length c,Y (orderM p m)] W fun e w'=>e=.returned (zL none 0 0)/\zB W w'):=fun W h1 h2 =>
       (i.o W h1 h2).mono fun e w' ⟨⟨v,he,H⟩,K⟩=>by
         rcases H with⟨_,rfl⟩|⟨h,_⟩
         . exact⟨he,K⟩
         . exact absurd l h
      clear l i C;have J:∀(W:Wo)(a:OA)(n c n' q:Nat),(binOp .eql 22 (zL a n c) (zL none n' q)).run prog W=.ok (.bool a.isNone) W:=fun W a n c n' q=>Lib.run_eql_slice_nil W 22 3 a n c n' q underlying22
      go_region_held3 (fun w'=>w'.cell? (zA w.heap.size 0)=some (Y p)/\w'.cell? (zA w.heap.size 1)=some (Y m)/\w'.cell? (zA w.heap.size 2)=some (zL A mod.length c))
       (first|go_keep|(go_split_ands;exact⟨(hb3.cell (p:=(zA w.heap.size 0)) b).trans am,(hb3.cell (p:=(zA w.heap.size 1)) b).trans am,(hb3.cell (p:=(zA w.heap.size 2)) b).trans am⟩)|(go_split_ands;exact⟨(hb1.cell (p:=(zA w.heap.size 0)) d).trans am,(hb1.cell (p:=(zA w.heap.size 1)) d).trans am,(hb1.cell (p:=(zA w.heap.size 2)) d).trans am⟩))
       (first|(go_fit y.o;rintro e S ⟨rfl,hb1⟩;have b:=Nat.lt_of_lt_of_le d hb1.size;have s:=zH<|x.o.drew.trans (hb1.mono (Nat.le_of_lt d)))|((with_reducible refine(qcX _ _ _).mono ?_);rintro e X ⟨rfl,rfl⟩)|((with_reducible refine(t.o _ (Nat.le_of_lt b) s.o).mono ?_);rintro e T ⟨rfl,hb3⟩))
      have N:zK (CutC w D (!fieldOK p m mod) (.bool true) T):=⟨by rw[B.o];rfl,s.o.trans (hb3.mono (Nat.le_of_lt b))⟩;clear hb1 hb3 O P Q J;go_wp2;go_meet;exact N.o
    . have B : zK (fieldOK p m mod = true) := by
       show _=_;rw[C.o];cases V with
       |nil=>exact absurd rfl l
       |cons a r=>rfl
      have t:zK (∀ W,w.heap.size<=W.heap.size->zB w W->zC 90 #[C4 p m A mod.length c,Y (orderM p m)] W fun e w'=>(∃ (g k q:Nat),e=.returned (zS g k q))/\zB W w'):=fun W h1 h2 =>
       (i.o W h1 h2).mono fun e w' ⟨⟨v,he,H⟩,K⟩=>by
         rcases H with⟨h,_⟩|⟨_,g,q,rfl,_⟩
         . exact absurd h l
         . exact⟨⟨g,_,q,he⟩,K⟩
      clear l i C;have J:∀(W:Wo)(a:OA)(n c n' q:Nat),(binOp .eql 22 (zL a n c) (zL none n' q)).run prog W=.ok (.bool a.isNone) W:=fun W a n c n' q=>Lib.run_eql_slice_nil W 22 3 a n c n' q underlying22
      go_region_held3 (fun w'=>w'.cell? (zA w.heap.size 0)=some (Y p)/\w'.cell? (zA w.heap.size 1)=some (Y m)/\w'.cell? (zA w.heap.size 2)=some (zL A mod.length c))
       (first|go_keep|(go_split_ands;exact⟨(hb3.cell (p:=(zA w.heap.size 0)) b).trans am,(hb3.cell (p:=(zA w.heap.size 1)) b).trans am,(hb3.cell (p:=(zA w.heap.size 2)) b).trans am⟩)|(go_split_ands;exact⟨(hb1.cell (p:=(zA w.heap.size 0)) d).trans am,(hb1.cell (p:=(zA w.heap.size 1)) d).trans am,(hb1.cell (p:=(zA w.heap.size 2)) d).trans am⟩))
       (first|(go_fit y.o;rintro e S ⟨rfl,hb1⟩;have b:=Nat.lt_of_lt_of_le d hb1.size;have s:=zH<|x.o.drew.trans (hb1.mono (Nat.le_of_lt d)))|((with_reducible refine(qcX _ _ _).mono ?_);rintro e X ⟨rfl,rfl⟩)|((with_reducible refine(t.o _ (Nat.le_of_lt b) s.o).mono ?_);rintro e T ⟨⟨g,k,q,rfl⟩,hb3⟩))
      have N:zK (CutC w D (!fieldOK p m mod) (.bool false) T):=⟨by rw[B.o];rfl,s.o.trans (hb3.mono (Nat.le_of_lt b))⟩;clear hb1 hb3 O P Q J;go_wp2;go_meet;exact N.o
 case rest=>
  obtain⟨rfl,K⟩:=hcut;have U:=zH K;clear K O P Q z I;by_cases L:fieldOK p m mod=true
  . (have B:zK (errF (fieldOK p m mod)=0):=by show _=_;rw[L];rfl);(have H:(!fieldOK p m mod)=false:=by rw[L];rfl);rw[H];clear H L;go_wp2;go_ret;exact⟨qaG B.o.symm,U.o⟩
  . (have B:zK (errF (fieldOK p m mod)=1):=by show _=_;rw[show fieldOK p m mod=false by simpa using L];rfl);(have H:(!fieldOK p m mod)=true:=by simpa using L);rw[H];clear H L;go_wp2;go_ret;exact⟨qaG B.o.symm,U.o⟩
end Go.Proofs.YtflejelbdlelpaaGreat
