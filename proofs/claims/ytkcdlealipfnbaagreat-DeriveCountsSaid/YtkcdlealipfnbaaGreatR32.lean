/- Parts of the proof. -/
import Derived.Test.YtkcdlealipfnbaaGreatR31
set_option maxRecDepth 100000
set_option maxHeartbeats 8000000
namespace Go.Proofs.YtkcdlealipfnbaaGreat
open Go.RowKit Pln Go.Proofs.Tryz
def pcs(gb:Nat)(P M Ma N G:Value)(mm ww:Int)(S:Value)(k:Int):List Value:=[zP gb,P,M,Ma,N,G,zL none 0 0,.bool false,Y mm,Y ww,S,Y k]
def PrAt(w:Wo)(bp:Nat)(cs:List Value):Prop:=w.heap[bp]?=some (.cells cs.toArray 239 (0,0))
theorem PrAt.lt{w:Wo}{b:Nat}{cs:List Value}(h:PrAt w b cs):b<w.heap.size:=(Array.getElem?_eq_some_iff.1 h).1
theorem PrAt.grow{w w':Wo}{b:Nat}{cs:List Value}(h:PrAt w b cs)(c:zB w w'):PrAt w' b cs:=(c.block b h.lt).trans h
theorem PrAt.cell{w:Wo}{b:Nat}{cs:List Value}(h:PrAt w b cs)(j:Nat):w.cell? (zA b j)=cs[j]?:=by rw[cell_of_row w b j _ _ _ h];simp
def colK(rows:LL)(i k:Nat):LN:=(Al.colOf rows i).take k++List.replicate (rows.length-k) 0
theorem colK_len{rows:LL}{i k:Nat}(b:k<=rows.length):(colK rows i k).length=rows.length:=by unfold colK;rw[List.length_append,List.length_take,Al.col_len,List.length_replicate];omega
theorem colK_set{rows:LL}{i k:Nat}(c:k<rows.length):(colK rows i k).set k ((rows.getD k []).getD i 0)=colK rows i (k+1):=by
 have b:((Al.colOf rows i).take k).length=k:=by rw[List.length_take,Al.col_len];omega
 unfold colK;rw[List.set_append_right _ _ U0,b,Nat.sub_self,show rows.length-k=(rows.length-(k+1))+1 by omega,List.replicate_succ,List.set_cons_zero,List.take_add_one];have:(Al.colOf rows i)[k]?=some ((rows.getD k []).getD i 0):=by unfold Al.colOf;simp[List.getD,c]
 rw[this];simp
def RelCol(w:Wo)(rows:LL)(i:Nat)(v21:Value)(wr:Wo):Prop:=
 ∃k:Nat,k<=rows.length/\v21=Y (k:Int)/\Row wr w.heap.size w.heap.size rows.length (nz (colK rows i k))/\zB w wr
theorem column_c(bp gb:Nat)(P M Ma N S:Value)(mm ww k:Int)(A:OA)(ca q n:Nat)(rows:LL)(i:Nat)(w:Wo)(hp:PrAt w bp (pcs gb P M Ma N (zL A rows.length ca) mm ww S k))(hA:zR w A (nzs rows))(hg:∀ r∈rows,Dv.Ok q n r)(hi:i<n)(hl:rows.length<=64):
 zC 263 (Cm bp i) w fun e w'=>e=.returned (zS w.heap.size rows.length rows.length)/\Row w' w.heap.size w.heap.size rows.length (nz (Al.colOf rows i))/\zB w w':=by
 obtain⟨L,m,p,s,t⟩:=qaF infoInt;have T:=zH m;have C:=zH p;have D:=zH s;have x:=zH (show L.bytes*rows.length<=281474976710656 by rw[t];omega);have y:=zH (show rows.length<=maxLen by unfold maxLen;omega);have U:=zH hp;have Q:=zH hA;have R:=zH hg;have Z:w.cell? (zA bp 5)=some (zL A rows.length ca):=hp.cell 5;clear m p s t hp hA hg;go_enter func263,ntmps263;go_upto_region 2 with(refine wpList_make_full w rfl (.tmp 13) (.tmp 13) 23 rfl w.heap.size 3 L (Y 0) 1 underlying23 T.o C.o D.o .i64 .i64 rows.length rows.length rows.length rfl rfl rfl rfl x.o y.o zn ?_;intro O f c);have h:=qaL c
 have I:zK (RelCol w rows i (Y 0) O):=⟨0,U0,rfl,by
  have:=Row.of_make f
  unfold colK
  rw[List.take_zero,List.nil_append,Nat.sub_zero]
  exact this,h⟩
 have H:O.cell? (zA bp 5)=some (zL A rows.length ca):=(U.o.grow h).cell 5;clear f c h Z;go_wp2_with fail;clear H;go_loopw [21] (fun v21 wr=>RelCol w rows i v21 wr) (fun v21 _=>rows.length-(intOf v21).toNat);case atStart=>exact I.o
 case round =>
  obtain⟨j,X,rfl,g,J⟩:=hrel;have u:=zH g;have v:=zH J;clear g J I;by_cases d:j<rows.length
  . obtain⟨b,o,Ai,ci,rfl,W,K,l⟩:=(Q.o.keep v.o).at_ (i:=j) (by rw[nzs_len];exact d);have c:=R.o (rows.getD j []) (Al.mem_getD d);rw[nzs_getD] at K l;rw[qaA,c.1] at K;obtain⟨bi,oi,rfl,V,E⟩:=l.at_ (k:=i) (by rw[qaA,c.1];exact hi);rw[qaC] at E;have yg:=u.o.cell (j:=j) (by rw[qaA,colK_len X];exact d);have fg:=u.o.frozen j;have B:=zH (colK_set (i:=i) d);clear l c;generalize (nz (colK rows i j)).getD j 0=z0 at *;generalize (rows.getD j []).getD i 0=z at *;go_wp2;go_roundw;case rel=>refine⟨j+1,U0,U3,?_,v.o.setCell zn _⟩;rw[<- B.o,<- qbC];exact u.o.set j _
    case measure=>simp[intOf];omega
  . (obtain rfl:j=rows.length:=by omega);go_wp2;go_ret;refine⟨rfl,?_,v.o⟩;have e:=u.o;unfold colK at e;rw[Nat.sub_self,List.replicate_zero,List.append_nil,List.take_of_length_le (by rw[Al.col_len];exact Nat.le_refl _)] at e;exact e
structure Elem {X:Type} (E:Wo->(Nat->Prop)->Value->X->Prop):Prop where
 blocks:∀{w w':Wo}{p:Nat->Prop}{u:Value}{x:X},E w p u x->w.heap.size<=w'.heap.size->(∀k,p k->k<w.heap.size->w'.heap[k]?=w.heap[k]?)->E w' p u x
 imp:∀{w:Wo}{p q:Nat->Prop}{u:Value}{x:X},E w p u x->(∀b,b<w.heap.size->p b->q b)->E w q u x
 one:∀{w:Wo}{p:Nat->Prop}{u:Value}{x:X},E w p u x->u.oneCell'=true
def EOwn{X:Type}(T:TypeId)(E:Wo->(Nat->Prop)->Value->X->Prop)(p:Nat->Prop)(w:Wo)(B:Nat)(v:Value)(L:List X):Prop:=
 ∃xs:List Value,w.ownsRow B T 1 v L.length xs/\∀(j:Nat)(x:X),L[j]?=some x->∃u,xs[j]?=some u/\E w (fun b=>p b/\v.ownBlock≠some b) u x
section
variable {X:Type} {T:TypeId} {E:Wo->(Nat->Prop)->Value->X->Prop} {w w':Wo} {p:Nat->Prop} {B:Nat} {v:Value} {L:List X}
theorem EOwn.nil:EOwn T E p w B (zL none 0 0) ([]:List X):=⟨[],World.ownsRow_nil _ _ _ _,fun j x h=>by simp at h⟩
theorem EOwn.of_blocks(m:Elem E)(h:EOwn T E p w B v L)(n:w.heap.size<=w'.heap.size)(l:∀ k,k<w.heap.size->(v.ownBlock=some k\/p k)->w'.heap[k]?=w.heap[k]?):EOwn T E p w' B v L:=by
 obtain⟨i,b,d⟩:=h;refine⟨i,⟨b.1,?_⟩,fun j x hj=>?_⟩
 . rcases b.2 with h|⟨g,cap,cur,hv,hB,hh,r⟩
   . exact .inl h
   . exact .inr ⟨g,cap,cur,hv,hB,(l g (Array.getElem?_eq_some_iff.1 hh).1 (.inl (by rw[hv];rfl))).trans hh,r⟩
 . obtain⟨u,c,f⟩:=d j x hj;exact⟨u,c,m.blocks f n fun k hk hlt=>l k hlt (.inr hk.1)⟩
theorem EOwn.grow(c:Elem E)(h:EOwn T E p w B v L)(b:zB w w'):EOwn T E p w' B v L:=h.of_blocks c b.size fun k hk _=>b.block k hk
theorem EOwn.own_lt(h:EOwn T E p w B v L):∀k,v.ownBlock=some k->B<=k/\k<w.heap.size:=by obtain⟨c,b,_⟩:=h;exact World.ownsRow.lt b
theorem EOwn.form(h:EOwn T E p w B v L):∃A c,v=zL A L.length c/\L.length<=c/\(0<L.length->∃g,A=some (zA g 0)/\B<=g/\g<w.heap.size/\∀(j:Nat)(x:X),L[j]?=some x->∃u,w.cell? (zA g j)=some u/\E w (fun b=>p b/\v.ownBlock≠some b) u x):=by
 obtain⟨s,d,k⟩:=h;rcases d.2 with⟨e,i⟩|⟨g,cap,cur,r,m,o,n,_⟩
 . exact⟨none,0,by rw[i];exact e,U0,fun h=>U0⟩
 . subst r;refine⟨_,_,rfl,n,fun _=>⟨g,rfl,m,(Array.getElem?_eq_some_iff.1 o).1,fun j x hj=>?_⟩⟩;obtain⟨u,f,l⟩:=k j x hj;have q:j<L.length:=(List.getElem?_eq_some_iff.1 hj).1;exact⟨u,by rw[World.ownsRow.cellAt d j U0,f],l⟩
theorem EOwn.append{K:TypeId}{N:TypeInfo}{z:Value}{I:Nat}{u:Value}{x:X}(O:Elem E)(S:prog.underlying K=some (.slice T))(R:prog.info? T=some N)(U:N.zero=some z)(V:N.size=1)(W:N.bytes=I)(Z:z.cells.size=1)(Q:I<=64)(h:EOwn T E p w B v L)(hB:B<=w.heap.size){b:Nat}(J:w.heap[b]?=some (.cells #[u] T (0,0)))(hu:E w (fun b=>p b/\v.ownBlock≠some b) u x)(hl:L.length<=1000000):
 ∃v' w',(Builtin.append_ #[K,K] K #[v,zS b 1 1]).run prog w=.ok v' w'/\EOwn T E p w' B v' (L++[x])/\Below B w w'/\w.heap.size<=w'.heap.size/\(∀k,k<w.heap.size->v.ownBlock≠some k->w'.heap[k]?=w.heap[k]?)/\(v.ownBlock=v'.ownBlock\/v'.ownBlock=some w.heap.size):=by
 obtain⟨r,o,A⟩:=h
 obtain ⟨g,cap,w',m,l,f,d,i⟩:=run_append_lies (P:=prog) (w:=w) K K B T N z 1 I S R U V W Z dc v L.length r o (zA b 0) 1 1 [u] rfl (World.news_of_block J)
  (fun y hy=>by
    rw[List.mem_singleton.1 hy]
    exact O.one hu) U0 ml (by
    have:(L.length+1)*I<=(L.length+1)*64:=Nat.mul_le_mul_left _ Q
    omega) hB w.heap.size rfl
 refine⟨_,w',m,⟨r++[u],by rw[List.length_append];exact l,fun j y hj=>?_⟩,zV.grown f hB (fun k J=>(World.ownsRow.lt o k J).1),f.size,fun k J hne=>f.block k J fun e=>hne e.symm,d.imp (fun h=>h) fun h=>by rw[<- h];rfl⟩;have H:=o.1;have c:∀{y:Value}{M:X},E w (fun b=>p b/\v.ownBlock≠some b) y M->E w' (fun b=>p b/\(Value.slice (zO g) (L.length+1) cap).ownBlock≠some b) y M:=fun{y M} R=>by
  refine O.imp (O.blocks (O.imp R (q:=fun b=>(p b/\v.ownBlock≠some b)/\b<w.heap.size) fun b hb hp=>⟨hp,hb⟩) f.size fun k J i=>f.block k i fun e=>J.1.2 e.symm) fun b _ hb=>⟨hb.1.1,fun e=>?_⟩;have t:g=b:=by simpa[Value.ownBlock] using e
  rcases d with h|h
  . exact hb.1.2 (by rw[h,t])
  . have:=hb.2;omega
 by_cases e:j=L.length
 . subst e;(have:y=x:=by simpa using hj.symm);subst this;exact⟨u,by rw[List.getElem?_append_right U0];simp[show L.length-r.length=0 by omega],c hu⟩
 . have n:j<(L++[x]).length:=(List.getElem?_eq_some_iff.1 hj).1;rw[List.length_append,List.length_singleton] at n;rw[List.getElem?_append_left U0] at hj;obtain⟨D,s,C⟩:=A j y hj;exact⟨D,by rw[List.getElem?_append_left U0];exact s,c C⟩
end
def IntsQ(w:Wo)(p:Nat->Prop)(A:OA)(zs:LI):Prop:=
 0<zs.length->∃b o,A=some (zA b o)/\p b/\b<w.heap.size/\∀j,j<zs.length->w.cell? (zA b (o+j))=some (Y (zs.getD j 0))
def RowE(w:Wo)(p:Nat->Prop)(u:Value)(r:LN):Prop:=∃A c,u=zL A r.length c/\IntsQ w p A (nz r)
theorem rowE:Elem RowE where
 blocks:=fun{w w' p u x} ⟨A,c,e,h⟩ hs hb=>⟨A,c,e,fun hz=>by
  obtain⟨b,o,e,f,d,g⟩:=h hz
  refine⟨b,o,e,f,U0,fun j hj=>?_⟩
  have:w'.cell? (zA b (o+j))=w.cell? (zA b (o+j)):=by
   unfold World.cell?
   rw[hb b f d]
  exact this.trans (g j hj)⟩
 imp:=fun{w p q u x} ⟨A,c,e,h⟩ hq=>⟨A,c,e,fun hz=>by
  obtain⟨b,o,e,f,d,g⟩:=h hz
  exact⟨b,o,e,hq b d f,d,g⟩⟩
 one:=fun{w p u x} ⟨A,c,e,h⟩=>by rw[e];rfl
theorem IntsQ.ints{w:Wo}{p:Nat->Prop}{A:OA}{zs:LI}(h:IntsQ w p A zs):zI w A zs:=fun hz=>by
 obtain⟨b,o,e,_,c,d⟩:=h hz
 exact⟨b,o,e,c,d⟩
def IntE(_:Wo)(_:Nat->Prop)(u:Value)(x:Nat):Prop:=u=Y (x:Int)
theorem intE:Elem IntE where
 blocks:=fun h _ _=>h
 imp:=fun h _=>h
 one:=fun{w p u x} h=>by rw[show u=Y (x:Int) from h];rfl
def BasV(w:Wo)(B:Nat)(D:Nat->Prop)(bb gb:Nat)(Vr Vp:Value)(bs:LL)(pl:LN):Prop:=
 w.heap[bb]?=some (.cells [zP gb,Vr,Vp].toArray 269 (0,0))/\B<=bb/\¬D bb/\(∀k,Vr.ownBlock=some k->¬D k/\k≠bb/\Vp.ownBlock≠some k)/\(∀k,Vp.ownBlock=some k->¬D k/\k≠bb)/\
  EOwn 23 RowE (fun b=>¬D b/\b≠bb/\Vp.ownBlock≠some b) w B Vr bs/\EOwn 3 IntE (fun _=>False) w B Vp pl
def BasAt(w:Wo)(B:Nat)(D:Nat->Prop)(bb gb:Nat)(bs:LL)(pl:LN):Prop:=∃Vr Vp,BasV w B D bb gb Vr Vp bs pl
theorem BasV.of_blocks{w w':Wo}{B:Nat}{D:Nat->Prop}{l gb:Nat}{o n:Value}{p:LL}{pl:LN}(h:BasV w B D l gb o n p pl)(q:w.heap.size<=w'.heap.size)(m:∀ k,k<w.heap.size->¬ D k->w'.heap[k]?=w.heap[k]?):BasV w' B D l gb o n p pl:=by
 obtain⟨b,g,c,d,f,i,j⟩:=h;refine⟨(m l (Array.getElem?_eq_some_iff.1 b).1 c).trans b,g,c,d,f,i.of_blocks rowE q fun k hk hp=>m k hk ?_,j.of_blocks intE q fun k hk hp=>m k hk ?_⟩
 . rcases hp with e|hp
   . exact(d k e).1
   . exact hp.1
 . rcases hp with e|hp
   . exact(f k e).1
   . exact hp.elim
theorem BasAt.of_blocks{w w':Wo}{B:Nat}{D:Nat->Prop}{d gb:Nat}{f:LL}{pl:LN}(h:BasAt w B D d gb f pl)(i:w.heap.size<=w'.heap.size)(g:∀k,k<w.heap.size->¬D k->w'.heap[k]?=w.heap[k]?):BasAt w' B D d gb f pl:=by obtain⟨c,b,h⟩:=h;exact⟨c,b,h.of_blocks i g⟩
theorem BasAt.turn{w:Wo}{B:Nat}{D E:Nat->Prop}{C gb:Nat}{H:LL}{pl:LN}(h:BasAt w B D C gb H pl)(A:∀k,k<w.heap.size->E k->D k):BasAt w B E C gb H pl:=by
 obtain⟨o,n,i,s,t,v,y,⟨z,l,f⟩,m⟩:=h;have g:=(Array.getElem?_eq_some_iff.1 i).1;refine⟨o,n,i,s,fun h=>t (A C g h),fun k e=>?_,fun k e=>?_,⟨z,l,fun j x hj=>?_⟩,m⟩
 . obtain⟨c,d,p⟩:=v k e;exact⟨fun h=>c (A k (World.ownsRow.lt l k e).2 h),d,p⟩
 . obtain⟨c,d⟩:=y k e;exact⟨fun h=>c (A k (m.own_lt k e).2 h),d⟩
 . obtain⟨u,q,r⟩:=f j x hj;exact⟨u,q,rowE.imp r fun b hb hp=>⟨⟨fun h=>hp.1.1 (A b hb h),hp.1.2⟩,hp.2⟩⟩
theorem EOwn.imp{X:Type}{T:TypeId}{E:Wo->(Nat->Prop)->Value->X->Prop}{w:Wo}{p q:Nat->Prop}{B:Nat}{v:Value}{L:List X}(k:Elem E)(h:EOwn T E p w B v L)(l:∀b,b<w.heap.size->p b->q b):EOwn T E q w B v L:=by obtain⟨i,f,g⟩:=h;refine⟨i,f,fun j x hj=>?_⟩;obtain⟨u,c,d⟩:=g j x hj;exact⟨u,c,k.imp d fun b hb hp=>⟨l b hb hp.1,hp.2⟩⟩
theorem infoRowX:(prog.info? 23).map (fun i=>(i.zero,i.size,i.bytes))=some (some (zL none 0 0),1,24):=U1
theorem qfI(w:Wo)(p:Addr)(u:Value){k:Nat}(h:k≠p.block):(w.setCell p u).heap[k]?=w.heap[k]?:=Below.heap_setCell w p u k (by first|exact h|exact h.symm)
section
variable {w:Wo} {B:Nat} {D:Nat->Prop} {bb gb:Nat} {Vr Vp:Value} {bs:LL} {pl:LN}
theorem BasV.pushRow(h:BasV w B D bb gb Vr Vp bs pl)(M:B<=w.heap.size)(N:∀ k,D k->k<w.heap.size){b s c:Nat}{r:LN}(L:w.heap[b]?=some (.cells #[zS s r.length c] 23 (0,0)))(O:RowE w (fun b=>(¬ D b/\b≠bb/\Vp.ownBlock≠some b)/\Vr.ownBlock≠some b) (zS s r.length c) r)(P:bs.length<=1000):
 ∃Vr' w1,(Builtin.append_ #[30,30] 30 #[Vr,zS b 1 1]).run prog w=.ok Vr' w1/\w1.cell? (zA bb 1)=some Vr/\w1.frozen? (zA bb 1)=false/\BasV (w1.setCell (zA bb 1) Vr') B D bb gb Vr' Vp (bs++[r]) pl/\Below B w w1/\w.heap.size<=w1.heap.size/\(∀k,k<w.heap.size->D k->w1.heap[k]?=w.heap[k]?)/\w1.heap[bb]?=w.heap[bb]?:=by
 obtain ⟨K,H,p,q,t⟩:=qaF infoRowX;obtain ⟨v,A,C,l,x,E,y⟩:=h;have o:=(Array.getElem?_eq_some_iff.1 v).1;obtain ⟨u,w1,i,I,n,j,f,m⟩:=E.append rowE underlying30 H p q t rfl dc M L O U0;have g:=f bb o fun e=>(l bb e).2.1 rfl;have d:=g.trans v;have z:∀ k,u.ownBlock=some k->¬ D k/\k≠bb/\Vp.ownBlock≠some k:=fun k e=>by
  rcases m with h|h
  . exact l k (by rw[h,e])
  . (have J : k = w.heap.size:=by rw[e] at h;injection h);refine⟨fun hd=>?_,fun e=>?_,fun e=>?_⟩
    . have:=N k hd;omega
    . omega
    . have:=(y.own_lt k e).2;omega
 refine⟨u,w1,i,cell_of_row _ _ 1 _ _ _ d,frozen_of_row _ _ _ _ _ d,⟨heap_set_same d 1 u,A,C,z,x,I.of_blocks rowE U2 fun k _ hp=>qfI _ _ _ ?_,y.of_blocks intE (by simp;exact j) fun k L hp=>?_⟩,n,j,fun k L hd=>f k L fun e=>(l k e).1 hd,g⟩
 . rcases hp with e|hp
   . exact(z k e).2.1
   . exact hp.2.1
 . rcases hp with e|hp
   . rw[qfI _ _ _ (x k e).2];exact f k L fun e'=>(l k e').2.2 e
   . exact hp.elim
theorem BasV.pushPlace(h:BasV w B D bb gb Vr Vp bs pl)(L:B<=w.heap.size)(M:∀ k,D k->k<w.heap.size){b P:Nat}(K:w.heap[b]?=some (.cells #[Y (P:Int)] 3 (0,0)))(N:pl.length<=1000):
 ∃Vp' w1,(Builtin.append_ #[23,23] 23 #[Vp,zS b 1 1]).run prog w=.ok Vp' w1/\w1.cell? (zA bb 2)=some Vp/\w1.frozen? (zA bb 2)=false/\BasV (w1.setCell (zA bb 2) Vp') B D bb gb Vr Vp' bs (pl++[P])/\Below B w w1/\w.heap.size<=w1.heap.size/\(∀k,k<w.heap.size->D k->w1.heap[k]?=w.heap[k]?):=by
 obtain ⟨J,E,r,s,t⟩:=qaF infoInt;obtain ⟨u,z,A,f,m,v,C⟩:=h;have p:=(Array.getElem?_eq_some_iff.1 u).1;obtain ⟨l,w1,i,H,n,j,c,g⟩:=C.append intE underlying23 E r s t rfl dc L K (show IntE w _ (Y (P:Int)) P from rfl) U0;have o:=c bb p fun e=>(m bb e).2 rfl;have d:=o.trans u;have y:∀ k,l.ownBlock=some k->¬ D k/\k≠bb:=fun k e=>by
  rcases g with h|h
  . exact m k (by rw[h,e])
  . (have I : k = w.heap.size:=by rw[e] at h;injection h);refine⟨fun hd=>?_,fun e=>?_⟩
    . have:=M k hd;omega
    . omega
 have x:∀k,k<w.heap.size->Vp.ownBlock≠some k->l.ownBlock≠some k:=fun k K hne e=>by
  rcases g with h|h
  . exact hne (by rw[h,e])
  . rw[e] at h;injection h with h;omega
 refine⟨l,w1,i,cell_of_row _ _ 2 _ _ _ d,frozen_of_row _ _ _ _ _ d,⟨heap_set_same d 2 l,z,A,fun k e=>⟨(f k e).1,(f k e).2.1,x k (v.own_lt k e).2 (f k e).2.2⟩,y,(v.imp (q:=fun b=>(¬D b/\b≠bb/\Vp.ownBlock≠some b)/\b<w.heap.size) rowE fun b hb hp=>⟨hp,hb⟩).of_blocks rowE (by simp;exact j) (fun k K hp=>?_) |>.imp rowE fun b _ hp=>⟨hp.1.1,hp.1.2.1,x b hp.2 hp.1.2.2⟩,H.of_blocks intE U2 fun k K hp=>?_⟩,n,j,fun k K hd=>c k K fun e=>(m k e).1 hd⟩
 . rcases hp with e|hp
   . rw[qfI _ _ _ (f k e).2.1];exact c k K (f k e).2.2
   . rw[qfI _ _ _ hp.1.2.1];exact c k K hp.1.2.2
 . rcases hp with e|hp
   . exact qfI _ _ _ (y k e).2
   . exact hp.elim
end
theorem nzIx_or:∀ (v:LN)(k:Nat),nzIx v k=-1\/∃ P,k<=P/\P<k+v.length/\nzIx v k=(P:Int)/\v.getD (P-k) 0≠0
 |[],_=>.inl rfl
 | x :: r,k => by
   unfold nzIx
   split
   . rcases nzIx_or r (k + 1) with h|⟨P,h1,h2,h3,h4⟩
     . exact .inl h
     . refine .inr ⟨P,U0,by rw[List.length_cons];omega,h3,?_⟩
       rw[show P-k=(P-(k+1))+1 by omega]
       simpa[List.getD] using h4
   . rename_i hx
     exact .inr ⟨k,Nat.le_refl _,by rw[List.length_cons];omega,rfl,by simpa[List.getD] using hx⟩
theorem add1_c(x:Int)(W:Wo):zC 267 #[Y x] W fun e w'=>e=.returned (.bool (x != 0))/\W=w':=by go_enter func267,ntmps267;go_wp2;go_ret;exact⟨rfl,rfl⟩
theorem redG_okX{q:Nat}{O:Ops}(h:Al.Fld q O){n:Nat}{b:LL}{pl v:LN}(c:∀ r∈b,Dv.Ok q n r)(d:Dv.Ok q n v):∀ t,t<=b.length->Dv.Ok q n (Al.redG O b pl v t)
 |0,_=>d
 |t + 1,ht=>by
   have ih:=redG_okX h c d (pl:=pl) t U0
   unfold Al.redG
   split
   . exact ih
   . exact(subF_ok h (Al.getD_ok ih.2 (by have:=h.q1;omega) _) ih (c _ (Al.mem_getD U0))).1
theorem qeY{w w':Wo}{g:Nat}(h:w.grownBy w' (some g)){k o:Nat}(c:k<w.heap.size)(b:k≠g):w'.cell? (zA k o)=w.cell? (zA k o):=by unfold World.cell?;rw[h.block k c fun e=>by injection e with e;exact b e]
def RelBd(w:Wo)(B g c N:Nat)(rd:Nat->LN)(v18:Value)(wr:Wo):Prop:=
 ∃i:Nat,i<=N/\v18=Y (i:Int)/\Row wr B g c (nz (rd i))/\w.grownBy wr (some g)
def AddPost(w:Wo)(O:Ops)(B:Nat)(D:Nat->Prop)(bb gb g:Nat)(bs:LL)(pl R:LN)(e:Ending)(w':Wo):Prop:=
 Below B w w'/\w.heap.size<=w'.heap.size/\(∀k,k<w.heap.size->D k->k≠g->w'.heap[k]?=w.heap[k]?)/\
  ((nzIx R 0=-1/\e=.returned (.bool false)/\BasAt w' B D bb gb bs pl)\/∃P:Nat,nzIx R 0=(P:Int)/\P<R.length/\R.getD P 0≠0/\e=.returned (.bool true)/\BasAt w' B D bb gb (bs++[scaleRow O (O.inv (R.getD P 0)) R]) (pl++[P]))
def LSad(w:Wo)(B bb:Nat)(cs:List Value)(W:Wo):Prop:=Below B w W/\W.heap[bb]?=some (.cells cs.toArray 269 (0,0))
theorem mixf_app{P:Program}{S:Wo->Prop}{K:Act->Wo->Prop}{r:List (Nat × Oper)}{a:Act}{w:Wo}{o:Oper}(b:o.guard=none)(s x:Operand)(t:TypeId)(d:o.op=.call { callee:=.builtin .append,args:=#[s,x],argTypes:=#[t,t] }){v1 v2 v:Value}{w':Wo}(g:a.eval s=v1)(i:a.eval x=v2)(f:(Builtin.append_ #[t,t] o.type #[v1,v2]).run P w=.ok v w')(c:S w')(h:wpMixF P S K r (a.put o.dst v) w'):wpMixF P S K ((2,o):: r) a w:=
 qdM (v:=v) (w':=w') b (by
  unfold execOp
  simp only[d,resolve,invoke,builtin,Sem.run_bind,Sem.run_pure,Result.andThen_ok,List.map_toArray,List.map_cons,List.map_nil,g,i,f]) c h
theorem badd_c(bb gb g c p m:Nat)(md l:LN)(B:Nat)(D:Nat->Prop)(bs:LL)(pl v:LN)(n:Nat)(w:Wo)(hF:FT p m md l)(hG:GFAt w B gb p m l (logL l (p ^ m)))(hB:B<=w.heap.size)(hD:∀ k,D k->k<w.heap.size)(fy:D g)(hb:BasAt w B D bb gb bs pl)(hv:Row w B g c (nz v))(fx:Dv.Ok (p ^ m) n v)(fz:∀ r∈bs,Dv.Ok (p ^ m) n r)(f0:pl.length=bs.length)(f1:∀ y∈pl,y<n)(hn:n<=64)(hl:bs.length<=1000):
 zC 262 #[zP bb,zS g n c] w (AddPost w (opsT p m l) B D bb gb g bs pl (Al.redG (opsT p m l) bs pl v bs.length)):=by
 have cy:=hv.lt;have ax:zK (∀(W:Wo)(a b:Nat),Below B w W->a<p^m->b<p^m->zC 142 (Cf gb a b) W (Quiet (Y (((opsT p m l).mul a b:Nat):Int)) W)):=fun W a b E ha hb=>mul_c a b gb p m B md l W hF (hG.keep E) ha hb;have a1:zK (∀(W:Wo)(a b:Nat),Below B w W->a<p^m->b<p^m->zC 76 (Cf gb a b) W (Quiet (Y (((opsT p m l).add a ((opsT p m l).neg b):Nat):Int)) W)):=fun W a b E ha hb=>sub_c a b gb p m B md l W hF (hG.keep E) (Nat.le_trans hB E.size) ha hb;have aw:zK (∀(W:Wo)(x:Nat),Below B w W->x<p^m->x≠0->zC 101 (Cm gb x) W (Quiet (.tuple #[Y (((opsT p m l).inv x:Nat):Int),Y 0]) W)):=fun W x E hx h0=>inv_c x gb p m B md l W hF (hG.keep E) hx h0;have cf:zK (∀(W:Wo)(a:Nat)(u:LN),Below B w W->a<p^m->Dv.Ok (p^m) n u->Row W B g c (nz u)->zC 75 #[zP gb,Y (a:Int),zS g n c] W fun e w'=>e=.returned (zS W.heap.size n n)/\Row w' W.heap.size W.heap.size n (nz (scaleRow (opsT p m l) a u))/\zB W w'):=fun W a u E ha hu hr=>by have:=scale_c a gb p m md l u (zO g) c W hF ((hG.keep E).more (Nat.le_trans hB E.size)) ha hu.2 (hr.ints hr.lt.2) (by rw[hu.1];omega);rw[hu.1] at this;exact this
 have aq:=Al.fld_of hF;have dp:zK (∀x,x<p^m->x≠0->(opsT p m l).inv x<p^m):=fun x hx h0=>aq.invL x hx h0;have dq:zK (∀a b,a<p^m->b<p^m->(opsT p m l).mul a b<p^m):=fun a b ha hb=>mulT_lt hF ha hb;have bf:zK (∀i,i<=bs.length->Dv.Ok (p^m) n (Al.redG (opsT p m l) bs pl v i)):=fun i hi=>redG_okX aq fz fx i hi;have b7:zK (∀i,(Al.redG (opsT p m l) bs pl v i).getD (pl.getD i 0) 0=0->Al.redG (opsT p m l) bs pl v (i+1)=Al.redG (opsT p m l) bs pl v i):=fun i h=>by show(if _=0 then _ else _)=_;rw[if_pos h]
 have b8:zK (∀i,(Al.redG (opsT p m l) bs pl v i).getD (pl.getD i 0) 0≠0->Al.redG (opsT p m l) bs pl v (i+1)=List.zipWith (subF (opsT p m l) ((Al.redG (opsT p m l) bs pl v i).getD (pl.getD i 0) 0)) (Al.redG (opsT p m l) bs pl v i) (bs.getD i [])):=fun i h=>by show(if _=0 then _ else _)=_;rw[if_neg h]
 have ar:0<p^m:=by have:=aq.q1;omega
 have dx:zK (∀a u,(scaleRow (opsT p m l) a u).length=u.length):=fun a u=>by show(scaleRow _ _ _).length=_;unfold scaleRow;rw[List.length_map]
 have ay:zK (Al.redG (opsT p m l) bs pl v 0=v):=rfl;clear hF hG aq;generalize opsT p m l=O at *;generalize p^m=q at *;generalize Al.redG O bs pl v=rd at *;have a0:zK (RelBd w B g c bs.length rd (Y ((0:Nat):Int)) w):=⟨0,U0,rfl,by rw[ay.o];exact hv,World.grownBy.refl _ _⟩;obtain⟨Vr,Vp,bn⟩:=hb;obtain⟨h1,h2,h3,h4,h5,h6,h7⟩:=id bn;obtain⟨Ar,cr,cm,fp,hr⟩:=h6.form;obtain⟨Ap,cp,cl,fo,hp⟩:=h7.form;have ak:=(Array.getElem?_eq_some_iff.1 h1).1;have ap:bb≠g:=fun e=>h3 (e ▸ fy);have b1:zK (∀i,i<bs.length->∃gr,Ar=some (zA gr 0)/\gr<w.heap.size/\gr≠g/\∃bi oi ci,w.cell? (zA gr i)=some (zL (some (zA bi oi)) n ci)/\bi≠g/\bi<w.heap.size/\∀j,j<n->w.cell? (zA bi (oi+j))=some (Y (((bs.getD i []).getD j 0:Nat):Int))):=fun i hi=>by
  obtain⟨gr,hA,_,M,hc⟩:=hr U0;have hx:bs[i]?=some (bs.getD i []):=by simp[List.getD,hi]
  have ho:=fz _ (Al.mem_getD hi);have d8:0<n:=by have:=f1 _ (Al.mem_getD' (L:=pl) (j:=i) U0);omega
  obtain⟨u,hu,A2,c2,rfl,d7⟩:=hc i _ hx;obtain⟨b,o,d1,d9,c5,d3⟩:=d7 (by rw[qaA,ho.1];exact d8);subst d1;rw[ho.1] at hu;refine⟨gr,hA,M,fun e=>(h4 gr (by rw[cm,hA];rfl)).1 (e ▸ fy),b,o,c2,hu,fun e=>d9.1.1 (e ▸ fy),c5,fun j hj=>?_⟩;rw[d3 j (by rw[qaA,ho.1];exact hj),qaC]
 have b0:zK (∀i,i<bs.length->∃gp,Ap=some (zA gp 0)/\gp<w.heap.size/\gp≠g/\w.cell? (zA gp i)=some (Y ((pl.getD i 0:Nat):Int))):=fun i hi=>by
  obtain⟨gp,hA,_,M,hc⟩:=hp U0;have hx:pl[i]?=some (pl.getD i 0):=by simp[List.getD,show i<pl.length by omega]
  obtain⟨u,hu,rfl⟩:=hc i _ hx;exact⟨gp,hA,M,fun e=>(h5 gp (by rw[cl,hA];rfl)).1 (e ▸ fy),hu⟩
 have ba:=zH bn;have an:=zH h1;have dh:=zH fz;have dt:=zH f1;have be:=zH f0;have bc:=zH hD;have dj:=zH fy;have y1:w.cell? (zA bb 1)=some Vr:=cell_of_row _ _ 1 _ _ _ h1;subst cm;subst cl;clear bn h1 h2 h3 h4 h5 h6 h7 hr hp hv fx fz f0 f1 hD fy;go_enter func262,ntmps262;go_wp2_with fail;clear y1;go_loopw [18] (fun v18 wr=>RelBd w B g c bs.length rd v18 wr) (fun v18 _=>bs.length-(intOf v18).toNat);case atStart=>exact a0.o
 case round =>
  obtain⟨i,hi,rfl,N,bp⟩:=hrel;generalize wr=S at *;have A:=zH N;have z:=zH bp;have U:zK (Below B w S):=(qfK bp U0).mono cy.1;clear N bp a0;have y0:S.cell? (zA bb 0)=some (zP gb):=(qeY z.o ak ap).trans (cell_of_row _ _ 0 _ _ _ an.o);have y1:S.cell? (zA bb 1)=some (zL Ar bs.length cr):=(qeY z.o ak ap).trans (cell_of_row _ _ 1 _ _ _ an.o);have y2:S.cell? (zA bb 2)=some (zL Ap pl.length cp):=(qeY z.o ak ap).trans (cell_of_row _ _ 2 _ _ _ an.o);by_cases M:i<bs.length
  . obtain ⟨gr,dy,d6,cx,bi,oi,ci,a5,cq,a3,cs⟩ := b1.o i M;obtain ⟨gp,dz,d5,cw,a4⟩:=b0.o i M;subst dy;subst dz;have fx:=bf.o i U0;have c8:Dv.Ok q n (bs.getD i []):=dh.o _ (Al.mem_getD M);have fa:pl.getD i 0<n:=dt.o _ (Al.mem_getD' (by rw [be.o];exact M));have du:=zH (b7.o i);have dv:=zH (b8.o i);have yr:=(qeY z.o d6 cx).trans a5;have yp:=(qeY z.o d5 cw).trans a4;have di:zK (∀ (W:Wo) j,S.grownBy W (some g)->j<n->W.cell? (zA bi (oi+j))=some (Y (((bs.getD i []).getD j 0:Nat):Int))):=fun W j E hj=>(qeY E (Nat.lt_of_lt_of_le a3 z.o.size) cq).trans ((qeY z.o a3 cq).trans (cs j hj));have ct:=A.o.cell (j:=pl.getD i 0) (by rw [qaA,fx.1];exact fa);rw [qaC] at ct;have dg:(rd i).getD (pl.getD i 0) 0<q:=Al.getD_ok fx.2 ar _;have b6:=zH fx;have bg:=zH c8;have f0:=be.o;have p1:(i:Int)<(pl.length:Int):=U0;clear cs a5 a4 fx c8;generalize c7:rd (i+1)=Z at *;have b9:=zH c7;clear c7;generalize fb:rd i=rest at *;generalize fe:bs.getD i []=row at *;generalize fr:pl.getD i 0=pv at *;generalize fv:rest.getD pv 0=y at *;have i0:(0:Int)<=(i:Int):=U0;have i1:(i:Int)<(bs.length:Int):=U0;have v0:(0:Int)<=(pv:Int):=U0;have v1:(pv:Int)<(n:Int):=U0;clear f0;by_cases bq:y=0
    . have bd : zK (Z = rest):=du.o bq;subst bq;go_wp2;go_roundw;case rel=>exact⟨i+1,U0,U3,by rw[b9.o,bd.o];exact A.o,z.o⟩
      case measure=>simp[intOf];omega
    . have fu : ((y : Int) != 0) = true := bne_iff_ne.2 U0;have bd:zK (Z=List.zipWith (subF O y) rest row):=dv.o bq;(have ah:zK (rest.length=row.length):=by show _=_;rw [b6.o.1,bg.o.1]);have az:zK (RelRe S B g c (subF O y) rest row (Y ((0:Nat):Int)) S):=⟨0,U0,rfl,by rw [zwK_zero];exact A.o,World.grownBy.refl _ _⟩;have dw:=zH bg.o.1;go_wp2;go_loopw [37] (fun v37 W=>RelRe S B g c (subF O y) rest row v37 W) (fun v37 _=>n-(intOf v37).toNat);case atStart=>exact az.o
      case round =>
       obtain⟨t,ht,rfl,N,a8⟩:=hrel;have H:=zH N;have I:=zH a8;clear N a8 az yr yp ct y1 y2;have bt:zK (Below B w wr):=U.o.trans ((qfK I.o (by have:=U.o.size;omega)).mono cy.1);have fc:=dw.o;have ff:=ah.o;by_cases c4:t<n
       . (have db : t < rest.length := by omega);have fw:wr.cell? (zA bb 0)=some (zP gb):=(qeY I.o (Nat.lt_of_lt_of_le ak U.o.size) ap).trans y0;have yc:wr.cell? (zA bi (oi+t))=some (Y ((row.getD t 0:Nat):Int)):=di.o wr t I.o c4;have yg:=H.o.cell (j:=t) (by rw [qaA,zwK_len ah.o U0];omega);rw [qaC,zwK_at ah.o db] at yg;have fg:=H.o.frozen t;have cj:=zH (zwK_set (f:=subF O y) ah.o db);have ha:rest.getD t 0<q:=Al.getD_ok b6.o.2 ar t;have hb:row.getD t 0<q:=Al.getD_ok bg.o.2 ar t;have t0:(0:Int)<=(t:Int):=U0;have t1:(t:Int)<(n:Int):=U0;have cg:zK (subF O y (rest.getD t 0) (row.getD t 0)=O.add (rest.getD t 0) (O.neg (O.mul y (row.getD t 0)))):=rfl;rw [cg.o] at cj;generalize rest.getD t 0=av at *;generalize row.getD t 0=bv at *;(have HM:zK (∀ V,SDrew wr V->zC 142 (Cf gb y bv) V fun e w'=>e=.returned (Y ((O.mul y bv:Nat):Int))/\SDrew wr w'):=fun V ⟨X,E⟩=>by subst E;refine (ax.o _ y bv (qaB bt.o X) dg hb).mono ?_;rintro e w' ⟨he,k,rfl⟩;exact ⟨he,X+k,U9⟩);have b3:=dq.o y bv dg hb;(have HS:zK (∀ V,SDrew wr V->zC 76 (Cf gb av ((O.mul y bv:Nat):Int)) V fun e w'=>e=.returned (Y ((O.add av (O.neg (O.mul y bv)):Nat):Int))/\SDrew wr w'):=fun V ⟨X,E⟩=>by subst E;refine (a1.o _ av _ (qaB bt.o X) ha b3).mono ?_;rintro e w' ⟨he,k,rfl⟩;exact ⟨he,X+k,U9⟩);clear cg b3;go_upto_region 9 with fail;refine qaI 18 (SDrew wr) U1 U1 ⟨1,rfl⟩ ?_;simp only [List.take_succ_cons,List.take_zero,List.drop_succ_cons,List.drop_zero]
         repeat (first
          | (apply qaJ rfl
             . intro V hS
               obtain⟨X,rfl⟩:=hS
               go_simp
               rfl
             go_simp)
          | (apply qaO rfl
             . intro V hS
               go_simp
               exact⟨rfl,rfl⟩
             . intro V hS
               first
                |exact HM.o V hS
                |exact HS.o V hS
             go_simp))
         refine qaE ?_;intro w2 bm;obtain⟨X,rfl⟩:=bm;generalize O.add av (O.neg (O.mul y bv))=zv at *;go_wp2;go_roundw;case rel=>refine⟨t+1,U0,U3,?_,grown_trans (grown_trans I.o (grown_drewN wr X _)) (grown_set _ (zA g t) _)⟩;rw[<- cj.o,<- qbC];exact Row.set (w:=wr.drewN X) H.o t _
         case measure=>simp[intOf];omega
       . (obtain rfl : t = n:=by omega);(have dn:zK (Row wr B g c (nz Z)):=by have:=H.o;rw[<- fc,<- ff,zwK_all ah.o,<- bd.o] at this;exact this);go_wp2;go_roundw;case rel=>exact⟨i+1,U0,U3,by rw[b9.o];exact dn.o,grown_trans z.o I.o⟩
         case measure=>simp[intOf];omega
  . (obtain rfl : i = bs.length := by omega);have ad:=bf.o bs.length zn;(have af:zK (BasV S B D bb gb (zL Ar bs.length cr) (zL Ap pl.length cp) bs pl):=ba.o.of_blocks z.o.size fun k hk hd=>z.o.block k hk fun e=>by injection e with e;exact hd (e ▸ dj.o));(have J:zK (zC 99 #[zS g n c,.func (.func 267) #[] #[]] S fun e w'=>e=.returned (Y (nzIx (rd bs.length) 0))/\S=w'):=by have:=indexnz_c 267 add1_c (enters_of func267 U1 rfl) (rd bs.length) (zO g) c S (A.o.ints A.o.lt.2) (by rw [ad.1];omega);rw [ad.1] at this;exact this);have K:=zH ad;clear ad y1 y2 b7 b8 bf ay;generalize rd bs.length=R at *;have bo:=z.o.size;rcases nzIx_or R 0 with hm|⟨P,_,hP,hr,h0⟩
    . rw[hm] at J;go_wp2_with fail;go_fit J.o;rintro e w' ⟨rfl,rfl⟩;go_wp2;go_ret;exact⟨U.o,bo,fun k hk _ hne=>z.o.block k hk fun e=>by injection e with e;exact hne e,.inl ⟨hm,rfl,_,_,af.o⟩⟩
    . rw [hr] at J;rw [Nat.zero_add] at hP;rw [Nat.sub_zero] at h0;have ds:=zH hP;rw [K.o.1] at hP;have hx:R.getD P 0<q:=Al.getD_ok K.o.2 ar P;have yg:=A.o.cell (j:=P) (by rw [qaA,K.o.1];exact hP);rw [qaC] at yg;have P0:(0:Int)<=(P:Int):=U0;have P1:(P:Int)<(n:Int):=U0;have P2:¬ (P:Int)<0:=U0;generalize de:R.getD P 0=x at *;have ck:=zH de;have dr:=zH hr;have bh:=zH h0;clear de hr h0;(have b2:zK (∀ V,SDrew S V->zC 101 (Cm gb x) V fun e w'=>e=.returned (.tuple #[Y ((O.inv x:Nat):Int),Y 0])/\SDrew S w'):=fun V ⟨X,E⟩=>by subst E;refine (aw.o _ x (qaB U.o X) hx bh.o).mono ?_;rintro e w' ⟨he,k,rfl⟩;exact ⟨he,X+k,U9⟩);have cz:=dp.o x hx bh.o;go_wp2_with fail;go_fit J.o;rintro e w' ⟨rfl,rfl⟩;go_upto_region 15 with fail;refine qaD (SDrew S) U1 U1 ⟨1,rfl⟩ ?_
      repeat (first
       | (apply qaJ rfl
          . intro W hS
            obtain⟨X,rfl⟩:=hS
            go_simp
            rfl
          go_simp)
       | (apply qaO rfl
          . intro W hS
            go_simp
            exact⟨rfl,rfl⟩
          . intro W hS
            exact b2.o W hS
          go_simp))
      refine qaE ?_;intro w2 bm;obtain⟨X,dd⟩:=bm;(have T:zK (zB S w2.drew):=by show Below _ _ _;rw[dd];exact(qaB zV X).drew);have aa:zK (BasV w2.drew B D bb gb (zL Ar bs.length cr) (zL Ap pl.length cp) bs pl):=af.o.of_blocks T.o.size fun k hk _=>T.o.block k hk;have ag:zK (Row w2.drew B g c (nz R)):=A.o.below T.o A.o.lt.2;have ac:zK (Below B w w2.drew):=U.o.trans (T.o.mono U0);have da:w.heap.size<=w2.drew.heap.size:=Nat.le_trans bo T.o.size;have bz:zK (∀k,k<w.heap.size->D k->k≠g->w2.drew.heap[k]?=w.heap[k]?):=fun k hk _ hne=>(T.o.block k U0).trans (z.o.block k hk fun e=>by injection e with e;exact hne e);clear dd T af A U bo z y0 yg b2 J b1 b0;go_upto_region 16 with fail;have ce:zK (LSad w B bb [zP gb,zL Ar bs.length cr,zL Ap pl.length cp] w2.drew):=⟨ac.o,aa.o.1⟩;refine qaS 14 14 (LSad w B bb [zP gb,zL Ar bs.length cr,zL Ap pl.length cp]) [(1,0),(1,1),(1,2),(1,3),(0,4),(1,5),(1,6),(1,7),(0,8),(1,9),(1,10),(2,11),(2,12),(2,13)] default U1 U1 (fun _ _ d _ _ h=>by cases d<;>exact h) ce.o ?_;generalize w2.drew=Wd at *;simp only[List.map_cons,List.map_nil,List.getD_cons_zero,List.getD_cons_succ]
      repeat (first
       | (apply qaM rfl
          . intro W
            go_simp
            rfl
          go_simp)
       | (apply qbF rfl
          . intro W E
            have c0:=cell_of_row _ _ 0 _ _ _ (And.right E)
            have c1:=cell_of_row _ _ 1 _ _ _ (And.right E)
            go_simp
            rfl
          go_simp))
      apply qbE rfl
      . go_simp;exact⟨rfl,rfl⟩
      refine(cf.o Wd (O.inv x) R ac.o cz K.o ag.o).mono ?_;rintro e wz ⟨rfl,hzrow,hbz⟩;have d0:B<=Wd.heap.size:=Nat.le_trans hB da;have ab:zK (BasV (wz.alloc (.cells #[zS Wd.heap.size n n] 23)) B D bb gb (zL Ar bs.length cr) (zL Ap pl.length cp) bs pl):=aa.o.of_blocks (by simp;have:=hbz.size;omega) fun k hk _=>(heap_alloc_old _ _ (by have:=hbz.size;omega)).trans (hbz.block k hk);have ao:zK (Below B w wz):=ac.o.trans (hbz.mono d0);refine⟨_,rfl,⟨ao.o,(hbz.block _ (Nat.lt_of_lt_of_le ak da)).trans aa.o.1⟩,?_⟩;go_simp;have ae:zK (Below B w (wz.alloc (.cells #[zS Wd.heap.size n n] 23))):=ao.o.trans (zV.alloc (by have:=ao.o.size;omega) _);have bj:zK (Row (wz.alloc (.cells #[zS Wd.heap.size n n] 23)) Wd.heap.size Wd.heap.size n (nz (scaleRow O (O.inv x) R))):=hzrow.below (zV.alloc zn _) hzrow.lt.2;have ft:=hbz.size;refine qdM (v:=zS wz.heap.size 1 1) (w':=wz.alloc (.cells #[zS Wd.heap.size n n] 23)) rfl ?_ ⟨ae.o,ab.o.1⟩ ?_
      . go_simp
      go_simp;(have fj:(scaleRow O (O.inv x) R).length=n:=by rw[dx.o,K.o.1]);obtain⟨fm,w3,Q,d2,d4,ai,cn,fh,a6,a2⟩:=ab.o.pushRow (b:=wz.heap.size) (s:=Wd.heap.size) (c:=n) (r:=scaleRow O (O.inv x) R) (by have:=ae.o.size;omega) (fun k hk=>by have:=bc.o k hk;have:=ae.o.size;omega) (by rw[fj];exact heap_alloc_new _ _) ⟨_,_,rfl,fun _=>⟨Wd.heap.size,0,rfl,⟨⟨fun h=>by have:=bc.o _ h;omega,U0,fun e=>by have:=(ba.o.2.2.2.2.2.2.own_lt _ e).2;omega⟩,fun e=>by have:=(ba.o.2.2.2.2.2.1.own_lt _ e).2;omega⟩,bj.o.lt.2,fun j hj=>by rw[Nat.zero_add];exact bj.o.cell hj⟩⟩ hl;obtain⟨A3,c3,rfl,_⟩:=ai.2.2.2.2.2.1.form;generalize (bs++[scaleRow O (O.inv x) R]).length=k3 at *;have al:zK (Below B w w3):=ae.o.trans cn;have bw:zK (∀k,k<w.heap.size->D k->k≠g->w3.heap[k]?=w.heap[k]?):=fun k hk hd hne=>(a6 k (by have:=ae.o.size;omega) hd).trans ((heap_alloc_old _ _ U0).trans ((hbz.block k U0).trans (bz.o k hk hd hne)));have C:=zH ai;have c9:w.heap.size<=w3.heap.size:=al.o.size;refine mixf_app rfl (.tmp 83) (.tmp 91) 30 rfl rfl rfl Q ⟨al.o,a2.trans ab.o.1⟩ ?_;clear Q cn fh a6 a2 ab ae bj hzrow hbz ao ce bz aa ac ag ai an cf aw ax a1;go_simp;refine qbH ?_;show wpList _ _ _ _ _ _;go_upto_region 17 with fail;have a9:zK (Below B w (w3.setCell (zA bb 1) (zL A3 k3 c3))):=al.o.setCell (p:=(zA bb 1)) C.o.2.1 _;have bx:zK (∀k,k<w.heap.size->D k->k≠g->(w3.setCell (zA bb 1) (zL A3 k3 c3)).heap[k]?=w.heap[k]?):=fun k hk hd hne=>(qfI _ _ _ fun e=>C.o.2.2.1 (by rw[show bb=k from e.symm];exact hd)).trans (bw.o k hk hd hne);have fs:w.heap.size<=(w3.setCell (zA bb 1) (zL A3 k3 c3)).heap.size:=a9.o.size;clear bw al c9 d2 d4;generalize w3.setCell (zA bb 1) (zL A3 k3 c3)=w4 at *;have y2:w4.cell? (zA bb 2)=some (zL Ap pl.length cp):=cell_of_row _ _ 2 _ _ _ C.o.1;have au:zK (BasV (w4.alloc (.cells #[Y (P:Int)] 3)) B D bb gb (zL A3 k3 c3) (zL Ap pl.length cp) (bs++[scaleRow O (O.inv x) R]) pl):=C.o.of_blocks U2 fun k hk _=>heap_alloc_old _ _ hk;obtain⟨fk,w6,Q,fn,fq,aj,co,fi,a7⟩:=au.o.pushPlace (b:=w4.heap.size) (P:=P) so (fun k hk=>by have:=bc.o k hk;simp;omega) (heap_alloc_new _ _) (by rw[be.o];exact hl);obtain⟨A6,c6,rfl,_⟩:=aj.2.2.2.2.2.2.form;generalize (pl++[P]).length=k6 at *;have br:zK (Below B w (w6.setCell (zA bb 2) (zL A6 k6 c6))):=((a9.o.trans (zV.alloc U0 _)).trans co).setCell (p:=(zA bb 2)) C.o.2.1 _;have dm:zK (∀k,k<w.heap.size->D k->k≠g->(w6.setCell (zA bb 2) (zL A6 k6 c6)).heap[k]?=w.heap[k]?):=fun k hk hd hne=>(qfI _ _ _ fun e=>C.o.2.2.1 (by rw[show bb=k from e.symm];exact hd)).trans ((a7 k so hd).trans ((heap_alloc_old _ _ U0).trans (bx.o k hk hd hne)));have bu:=zH aj;have cd:=zH Q;clear Q co fi a7 aj au C bx a9;go_wp2_with (at_builtin;refine qaP rfl (.tmp 99) (.tmp 101) 23 rfl rfl rfl cd.o ?_);go_ret;exact⟨br.o,br.o.size,dm.o,.inr ⟨P,dr.o,ds.o,by rw[ck.o];exact bh.o,rfl,by rw[ck.o];exact⟨_,_,bu.o⟩⟩⟩
end Go.Proofs.YtkcdlealipfnbaaGreat
