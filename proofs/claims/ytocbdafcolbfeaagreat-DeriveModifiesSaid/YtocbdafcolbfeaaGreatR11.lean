/- Parts of the proof. -/
import Derived.Test.YtocbdafcolbfeaaGreatR10
import Derived.OrdersIn
import Derived.RangeFuncSeq
set_option maxRecDepth 100000
set_option maxHeartbeats 8000000
namespace Go.Proofs.YtocbdafcolbfeaaGreat
open Go.RowKit Pln
def IntsUp(w:Wo)(lo:Nat)(A:OA)(zs:LI):Prop:=
 0<zs.length->∃b o,A=some (zA b o)/\lo<=b/\b<w.heap.size/\∀j,j<zs.length->w.cell? (zA b (o+j))=some (Y (zs.getD j 0))
theorem IntsUp.ints{w:Wo}{f:Nat}{A:OA}{zs:LI}(h:IntsUp w f A zs):zI w A zs:=fun hz=>by
 obtain⟨b,o,e,_,c,d⟩:=h hz
 exact⟨b,o,e,c,d⟩
theorem IntsUp.of_blocks{w w':Wo}{g:Nat}{A:OA}{zs:LI}(h:IntsUp w g A zs)(l:w.heap.size<=w'.heap.size)(i:∀k,g<=k->k<w.heap.size->w'.heap[k]?=w.heap[k]?):IntsUp w' g A zs:=fun hz=>by
 obtain⟨b,o,e,c,d,f⟩:=h hz
 refine⟨b,o,e,c,U0,fun j hj=>?_⟩
 have:w'.cell? (zA b (o+j))=w.cell? (zA b (o+j)):=by
  unfold World.cell?
  rw[i b c d]
 exact this.trans (f j hj)
theorem IntsUp.grow{w w':Wo}{c:Nat}{A:OA}{zs:LI}(h:IntsUp w c A zs)(b:zB w w'):IntsUp w' c A zs:=h.of_blocks b.size fun k _ hk=>b.block k hk
theorem RowsUp.grow{w w':Wo}{c:Nat}{A:OA}{zs:List LI}(h:RowsUp w c A zs)(b:zB w w'):RowsUp w' c A zs:=h.of_blocks b.size fun k _ hk=>b.block k hk
structure LGrid (w:Wo) (B:Nat) (v:Value) (rows:LL) (bs:List (Nat × Nat)) (k:Nat):Prop where
 len:bs.length=k
 le:k<=rows.length
 out:w.ownsRow B 23 1 v k ((List.range k).map (hdr rows bs))
 row:∀i,i<k->Row w B (bk bs i) (cp bs i) (nz (rows.getD i []))
 apart:∀i,i<k->v.ownBlock≠some (bk bs i)
theorem LGrid.step{w w1 w2:Wo}{B:Nat}{v v':Value}{rows:LL}{t:List (Nat × Nat)}{k g c:Nat}{o:Obj}(h:LGrid w B v rows t k)(C:k<rows.length)(D:B<=w.heap.size)(y:zB w w1)(A:Row w1 w.heap.size g c (nz (rows.getD k [])))(u:w2.ownsRow B 23 1 v' (k+1) ((List.range k).map (hdr rows t)++[zS g (rows.getD k []).length c]))(z:(w1.alloc o).grownBy w2 v.ownBlock)(x:v'.ownBlock=v.ownBlock\/v'.ownBlock=some (w1.alloc o).heap.size):
 LGrid w2 B v' rows (t++[(g,c)]) (k+1):=by
 have r:=A.lt;have s:=y.size;have p:=fun b e=>(h.out.lt b e).2;have f:∀i,i<k->bk (t++[(g,c)]) i=bk t i/\cp (t++[(g,c)]) i=cp t i:=fun i hi=>by unfold bk cp;rw[getD_snoc_lt (by rw[h.len];exact hi)];exact⟨rfl,rfl⟩
 have j:bk (t++[(g,c)]) k=g/\cp (t++[(g,c)]) k=c:=by unfold bk cp;have:=getD_snoc_eq t (g,c) (0,0);rw[h.len] at this;rw[this];exact⟨rfl,rfl⟩
 refine⟨by simp[h.len],C,?_,fun i hi=>?_,fun i hi=>?_⟩
 . rw[List.range_succ,List.map_append];(have q:(List.range k).map (hdr rows (t++[(g,c)]))=(List.range k).map (hdr rows t):=List.map_congr_left fun i hi=>by unfold hdr;rw[(f i (List.mem_range.1 hi)).1,(f i (List.mem_range.1 hi)).2]);rw[q,List.map_cons,List.map_nil];unfold hdr at u ⊢;rw[j.1,j.2];exact u
 . by_cases m : i = k
   . subst m;rw[j.1,j.2];exact((A.base (B':=B) U0).alloc o).grown z (fun e=>by have:=p g e.symm;omega)
   . (have d:i<k:=by omega);rw[(f i d).1,(f i d).2];have n:=h.row i d;exact((n.below y n.lt.2).alloc o).grown z (fun e=>h.apart i d e.symm)
 . by_cases m : i = k
   . subst m;rw[j.1];rcases x with e|e
     . rw[e];exact fun l=>by have:=p g l;omega
     . rw[e];intro l;injection l with l;simp at l;omega
   . (have d : i < k:=by omega);rw[(f i d).1];rcases x with e|e
     . rw[e];exact h.apart i d
     . rw[e];have:=(h.row i d).lt.2;intro l;injection l with l;simp at l;omega
theorem own_slice'{w:Wo}{base n:Nat}{e:TypeId}{v:Value}{xs:List Value}(h:w.ownsRow base e 1 v n xs):∃VA ck,v=zL VA n ck/\(0<n->∃R,VA=some (zA R 0)):=by
 rcases h.2 with⟨c,d⟩|⟨g,b,cur,f,_⟩
 . subst d;exact⟨_,_,c,fun h=>U0⟩
 . exact⟨_,_,f,fun _=>⟨g,rfl⟩⟩
theorem LGrid.up{w:Wo}{B:Nat}{m:OA}{n:Nat}{rows:LL}{l:List (Nat × Nat)}(h:LGrid w B (zL m rows.length n) rows l rows.length):RowsUp w B m (nzs rows):=by
 intro d;rw[nzs_len] at d;obtain⟨f,g,e,k⟩:=own_slice' h.out;injection e with e1 e2 e3;subst e1;obtain⟨R,rfl⟩:=k d;have b:=World.ownsRow.lt h.out R rfl;refine⟨R,0,rfl,b.1,b.2,fun i hi=>?_⟩;rw[nzs_len] at hi;have c:=h.row i hi;refine⟨bk l i,0,cp l i,?_,c.lt.1,c.lt.2,fun j hj=>?_⟩
 . rw[Nat.zero_add,nzs_getD,qaA,World.ownsRow.cellAt h.out i U0];simp[hi,hdr]
 . rw[nzs_getD] at hj ⊢;rw[Nat.zero_add];exact c.cell hj
theorem heap_set_same{w:Wo}{b:Nat}{cs:List Value}{t:TypeId}{fr:Nat × Nat}(h:w.heap[b]?=some (.cells cs.toArray t fr))(k:Nat)(v:Value):(w.setCell (zA b k) v).heap[b]?=some (.cells (cs.set k v).toArray t fr):=by simp[World.setCell,Array.getElem?_modify,h]
theorem IntsUp.lower{w:Wo}{g lo':Nat}{A:OA}{zs:LI}(h:IntsUp w g A zs)(i:lo'<=g):IntsUp w lo' A zs:=fun hz=>by
 obtain⟨b,o,e,f,c,d⟩:=h hz
 exact⟨b,o,e,U0,c,d⟩
theorem RowsUp.lower{w:Wo}{p lo':Nat}{A:OA}{zs:List LI}(h:RowsUp w p A zs)(q:lo'<=p):RowsUp w lo' A zs:=fun hz=>by
 obtain⟨b,o,e,m,f,k⟩:=h hz
 refine⟨b,o,e,U0,f,fun i hi=>?_⟩
 obtain⟨c,l,d,g,n,j⟩:=k i hi
 exact⟨c,l,d,g,U0,j⟩
theorem RowsUp.setCell{w:Wo}{b:Nat}{A:OA}{zs:List LI}(h:RowsUp w b A zs){p:Addr}(c:p.block<b)(v:Value):RowsUp (w.setCell p v) b A zs:=
 h.of_blocks U2 fun k hk _=>Below.heap_setCell w p v k U0
end Go.Proofs.YtocbdafcolbfeaaGreat
namespace Go.Proofs.YtocbdafcolbfeaaGreat
open Go.RowKit Pln Tryz
def RelIx(zs:LI)(x:Int)(w:Wo)(v:Value)(wr:Wo):Prop:=∃k n:Nat,k<=zs.length/\v=Y k/\x∉zs.take k/\wr=w.drewN n
theorem not_take_succ{zs:LI}{x:Int}{k:Nat}(b:k<zs.length)(h:x∉zs.take k)(c:x≠zs.getD k 0):x∉zs.take (k+1):=by
 have e:zs.getD k 0=zs[k]:=by simp[List.getD,b]
 rw[List.take_succ_eq_append_getElem b,<- e,List.mem_append,not_or];exact⟨h,by simpa only[List.mem_singleton] using c⟩
theorem sindexv_c(zs:LI)(x:Int)(A:OA)(c:Nat)(w:Wo)(L:zI w A zs)(M:zs.length<=9223372036854775807):
 zC 144 (D6 A zs.length c x) w fun e w'=>(∃r:Int,e=.returned (Y r)/\(0<=r ↔ x∈zs)/\(0<=r->∃k:Nat,r=(k:Int)/\k<zs.length/\zs.getD k 0=x))/\∃n,w'=w.drewN n:=by
 have B:=zH L;have u:zK (∀k,k<zs.length->x∉zs.take k->x≠zs.getD k 0->x∉zs.take (k+1)):=fun k l h he=>not_take_succ l h he;have p:zK (∀k,k<zs.length->x=zs.getD k 0->x∈zs):=fun k l he=>by
  have e:zs.getD k 0=zs[k]:=by simp[List.getD,l]
  rw[he,e];exact List.getElem_mem l
 have g:zK (x∉zs.take zs.length->x∉zs):=fun h=>by rwa [List.take_length] at h
 clear L;go_enter func144,ntmps144;go_wp2;go_loopw [8] (fun v8 wr=>RelIx zs x w v8 wr) (fun v8 _=>zs.length-(intOf v8).toNat);case atStart=>exact⟨0,0,U0,rfl,U2,rfl⟩
 case round =>
  obtain⟨k,n,l,rfl,m,rfl⟩:=hrel;have i:=zH m;clear m;by_cases d:k<zs.length
  . obtain ⟨b,o,rfl,H,I⟩ := B.o.at_ d;have D:=zH (p.o k d);have E:=zH (u.o k d i.o);generalize j:zs.getD k 0=z at *;have q:=zH j;clear j;have J:(0:Int)<=(k:Int):=U0;have K:(k:Int)<(zs.length:Int):=U0;by_cases f:x=z
    . (have y:(x==z)=true:=by simp[f]);have s:=zH (D.o f);have v:=zH (q.o.trans f.symm);clear f;go_wp2;go_ret;exact⟨⟨(k:Int),rfl,by simp[s.o],fun _=>⟨k,rfl,d,v.o⟩⟩,n,df⟩
    . (have y : (x == z) = false:=by simp[f]);have t:=zH (E.o f);clear f;go_wp2;go_roundw;case rel=>exact⟨k+1,n,U0,gn,t.o,df⟩
      case measure=>simp[intOf];omega
  . (obtain rfl:k=zs.length:=by omega);have C:=zH (g.o i.o);go_wp2;go_ret;exact⟨⟨-1,rfl,by simp[C.o],fun h=>absurd h dc⟩,n,rfl⟩
theorem sindex_c(zs:LI)(x:Int)(A:OA)(c:Nat)(w:Wo)(b:zI w A zs)(d:zs.length<=9223372036854775807):
 zC 144 (D6 A zs.length c x) w fun e w'=>(∃r:Int,e=.returned (Y r)/\(0<=r ↔ x∈zs))/\∃n,w'=w.drewN n:=
 (sindexv_c zs x A c w b d).mono fun _ _ ⟨⟨r,h1,h2,_⟩,h3⟩=>⟨⟨r,h1,h2⟩,h3⟩
theorem contains_c(zs:LI)(x:Int)(A:OA)(c:Nat)(w:Wo)(f:zI w A zs)(g:zs.length<=9223372036854775807):
 zC 77 (D6 A zs.length c x) w (Quiet (.bool (decide (x∈zs))) w):=by have b:=zH (sindex_c zs x A c w f g);clear f;go_enter func77,ntmps77;go_wp2_with fail;go_fit b.o;rintro e d ⟨⟨r,rfl,hr⟩,n1,rfl⟩;go_wp2;go_ret;exact⟨qaN (by by_cases h:x∈zs<;>simp_all),_,rfl⟩
structure OB (w:Wo) (n:Int) (rows:LL) (k:Nat) (v:Value) (bs:List (Nat × Nat)) (W:Wo):Prop where
 below:zB w W
 size:w.heap.size<W.heap.size
 box:W.heap[w.heap.size]?=some (.cells [Y n,v].toArray 54 (0,0))
 grid:LGrid W (w.heap.size+1) v rows bs k
section
variable {w:Wo} {n:Int} {rows:LL} {k:Nat} {v:Value} {bs:List (Nat × Nat)} {W W':Wo}
theorem OB.start(w:Wo)(n:Int)(rows:LL):OB w n rows 0 (zL none 0 0) [] (w.alloc (D1 n)):=
 ⟨zV.alloc zn _,U2,heap_alloc_new _ _,⟨rfl,Nat.zero_le _,World.ownsRow_nil _ _ _ _,fun i hi=>U0,fun i hi=>U0⟩⟩
theorem LGrid.grow{B:Nat}(h:LGrid W B v rows bs k)(b:zB W W'):LGrid W' B v rows bs k:=by refine⟨h.len,h.le,?_,fun i hi=>(h.row i hi).below b (h.row i hi).lt.2,h.apart⟩;exact h.out.kept (row:=none) ⟨b.os,b.tape,b.output,b.size,fun j hj _=>b.block j hj⟩ (by cases v.ownBlock<;>simp)
theorem LGrid.set{B:Nat}(h:LGrid W B v rows bs k){p:Addr}(c:p.block<B)(u:Value):LGrid (W.setCell p u) B v rows bs k:=by
 refine⟨h.len,h.le,?_,fun i hi=>(h.row i hi).far (by have:=(h.row i hi).lt.1;omega) u,h.apart⟩
 exact h.out.kept (row:=some p.block) ⟨rfl,rfl,rfl,U2,fun j _ hne=>Below.heap_setCell W p u j (fun e=>hne (by rw[e]))⟩ (by
  cases hv:v.ownBlock with
  |none=>exact .inl rfl
  |some b=>exact .inr (fun e=>by injection e with e;have:=(h.out.lt b hv).1;omega))
theorem OB.grow(h:OB w n rows k v bs W)(b:zB W W'):OB w n rows k v bs W':=
 ⟨h.below.trans (b.mono h.below.size),Nat.lt_of_lt_of_le h.size b.size,(b.block _ h.size).trans h.box,h.grid.grow b⟩
theorem OB.cell1(h:OB w n rows k v bs W):W.cell? (zA w.heap.size 1)=some v:=cell_of_row _ _ 1 _ _ _ h.box
theorem OB.frozen(h:OB w n rows k v bs W)(j:Nat):W.frozen? (zA w.heap.size j)=false:=by simp[World.frozen?,h.box]
theorem OB.range(h:OB w n rows k v bs W):W.rangeAt w.heap.size 0 [Y n,v]:=qeS h.box
theorem OB.step{w1 w2:Wo}{g c:Nat}{o:Obj}{v':Value}(h:OB w n rows k v bs W)(u:k<rows.length)(r:zB W w1)(x:Row w1 W.heap.size g c (nz (rows.getD k [])))(q:w2.ownsRow (w.heap.size+1) 23 1 v' (k+1) ((List.range k).map (hdr rows bs)++[zS g (rows.getD k []).length c]))(s:(w1.alloc o).grownBy w2 v.ownBlock)(t:v'.ownBlock=v.ownBlock\/v'.ownBlock=some (w1.alloc o).heap.size):
 OB w n rows (k+1) v' (bs++[(g,c)]) (w2.setCell (zA w.heap.size 1) v'):=by
 have i:=h.size;have l:=r.size;have m:w1.heap.size<w2.heap.size:=by have:=s.size;simp at this;omega
 have f:=h.grid.step u U0 r x q s t;have d:w2.heap[w.heap.size]?=some (.cells [Y n,v].toArray 54 (0,0)):=by rw[s.block w.heap.size so (fun e=>by have:=(h.grid.out.lt _ e.symm).1;omega),heap_alloc_old _ _ U0,r.block _ i];exact h.box
 have b:=((h.below.trans (r.mono U0)).alloc U0 _).grown s so (fun j hj=>by have:=(h.grid.out.lt _ hj).1;omega);exact⟨b.setCell (p:=(zA w.heap.size 1)) zn _,so,by have:=heap_set_same d 1 v';simpa using this,f.set (p:=(zA w.heap.size 1)) (by show w.heap.size < _;omega) _⟩
theorem OB.own{w1:Wo}(h:OB w n rows k v bs W)(b:zB W w1)(o:Obj):(w1.alloc o).ownsRow (w.heap.size+1) 23 1 v k ((List.range k).map (hdr rows bs)):=
 World.ownsRow.alloc (h.grid.out.kept (row:=none) ⟨b.os,b.tape,b.output,b.size,fun j hj _=>b.block j hj⟩ (by cases v.ownBlock<;>simp)) _
end
def MatPost(w:Wo)(n:Int)(rows:LL)(e:Ending)(w':Wo):Prop:=
 (∃(A':OA)(c':Nat),e=.returned (.tuple #[Co n A' rows.length c',Y 0])/\RowsUp w' w.heap.size A' (nzs rows))/\zB w w'
def colsM(rows:LL)(set:LN):LL:=rows.map fun r=>set.map fun j=>r.getD j 0
theorem colsM_len(rows:LL)(set:LN):(colsM rows set).length=rows.length:=by simp[colsM]
theorem colsM_getD(rows:LL)(set:LN)(k:Nat)(b:k<rows.length):(colsM rows set).getD k []=set.map fun j=>(rows.getD k []).getD j 0:=by simp[colsM,List.getD,b]
def RelHb1(W:Wo)(n:Nat)(v35:Value)(wr:Wo):Prop:=∃k:Nat,k<=n/\v35=Y k/\zB W wr
def RelHb2(w1:Wo)(n:Int)(rows:LL)(v55:Value)(wr:Wo):Prop:=∃(k:Nat)(v:Value)(bs:List (Nat × Nat)),v55=Y k/\k<=rows.length/\OB w1 n rows k v bs wr
def RelHb3(W:Wo)(g:Nat)(f:Nat->Nat)(set:LN)(v64:Value)(wr:Wo):Prop:=∃k:Nat,k<=set.length/\v64=Y k/\Row wr W.heap.size g set.length (nz (scK f set k))/\zB W wr
theorem columns_g(p m:Int)(mod:LI)(Am:OA)(cm:Nat)(cols:Int)(rows:LL)(A:OA)(c:Nat)(set:LN)(As:OA)(cs:Nat)(w:Wo)(hM:zI w Am mod)(hl:mod.length<=9223372036854775807)(hA:zR w A (nzs rows))(b3:rows.length<=256)(hS:zI w As (nz set))(bz:errC p m mod cols (nzs rows)=0)(b0:∀ j∈set,(j:Int)<cols)(hs:set.length<=256)(b1:∀ r∈rows,(r.length:Int)=cols)(_:cols<=256):
 zC 178 #[C7 p m Am mod.length cm,Co cols A rows.length c,zL As set.length cs] w (MatPost w set.length (colsM rows set)):=by
 obtain⟨az,hz⟩:fieldOK p m mod=true/\checkZ (p.toNat^m.toNat) cols (nzs rows)=0:=by
  unfold errC at bz;split at bz
  . exact⟨am,bz⟩
  . simp at bz
 obtain⟨i0,Z,a0,a2,a3⟩:=qaF infoInt;obtain⟨bq,aw,Q,R,S⟩:=qaF infoInts;have HI:=zH Z;have bg:=zH a0;have bh:=zH a2;have a8:=zH aw;have al:=zH Q;have an:=zH R;have ao:=zH S;have a4:=zH (show i0.bytes*set.length<=281474976710656 by rw[a3];omega);have a5:=zH (show set.length<=maxLen by unfold maxLen;omega);have X:=zH ((box3 w p m Am mod.length cm cols A rows.length c 54 (Cv)).keep (zV.alloc zn (Cb cols A rows.length c)));have af:zK (((((w.alloc (C3 p m Am mod.length cm)).alloc (Cb cols A rows.length c)).alloc (Cq)).alloc (Cb cols A rows.length c)).heap[w.heap.size+1+1+1]?=some (Cb cols A rows.length c)):=by have:=heap_alloc_new (((w.alloc (C3 p m Am mod.length cm)).alloc (Cb cols A rows.length c)).alloc (Cq)) (Cb cols A rows.length c);rw[show(((w.alloc (C3 p m Am mod.length cm)).alloc (Cb cols A rows.length c)).alloc (Cq)).heap.size=w.heap.size+1+1+1 by simp] at this;exact this
 have HM:=zH hM;have HA:=zH hA;have HS:=zH hS;have K:zK (∀k,k<set.length->(set.getD k 0:Int)<cols):=fun k D=>by
  have:set.getD k 0=set[k]:=by simp[List.getD,D]
  rw[this];exact b0 _ (List.getElem_mem D)
 have bc:zK (∀k,k<rows.length->((rows.getD k []).length:Int)=cols):=fun k D=>by
  have:rows.getD k []=rows[k]:=by simp[List.getD,D]
  rw[this];exact b1 _ (List.getElem_mem D)
 have y:zK ((colsM rows set).length=rows.length):=colsM_len _ _;have a6:zK (∀k,k<rows.length->(colsM rows set).getD k []=set.map fun j=>(rows.getD k []).getD j 0):=fun k D=>colsM_getD rows set k D
 clear hM hA hS Z a0 a2 a3 aw Q R S b0 b1 bz;generalize colsM rows set=x at *
 go_enter func178,ntmps178;go_wp2_with fail;generalize (((w.alloc (C3 p m Am mod.length cm)).alloc (Cb cols A rows.length c)).alloc (Cq)).alloc (Cb cols A rows.length c)=W0 at *;have ax:(nzs rows).length<=9223372036854775807:=by rw[nzs_len];omega
 have HC:=zH (open_c p m mod Am cm cols (nzs rows) A c (w.heap.size+1+1+1) 1 W0 ((HM.o.keep X.o.below).more X.o.below.size) hl ((HA.o.keep X.o.below).more X.o.below.size) ax (by rw[nzs_len];exact af.o));go_fit HC.o;rintro e w1 ⟨hb1,hcase⟩;have h:=zH (X.o.keep hb1);have aa:=zH ((HA.o.keep h.o.below).more h.o.below.size);have T:=zH ((HS.o.keep h.o.below).more h.o.below.size);clear X HM HA HC af hb1 HS;clear W0;rcases hcase with⟨M,_⟩|⟨_,bp,_⟩|⟨_,_,gb,rfl,hg⟩
 . rw[az] at M;cases M
 . exact absurd hz bp
 clear hg az hz;have ac:=zH h.o.k1;have ad:w.heap.size+1<w1.heap.size:=by have:=h.o.size;omega
 go_wp2;go_loopw [35] (fun v35 wr=>RelHb1 w1 set.length v35 wr) (fun v35 _=>set.length-(intOf v35).toNat);case atStart=>exact⟨0,U0,rfl,Below.refl _ _⟩
 case round =>
  obtain⟨k,D,rfl,V⟩:=hrel;have f:=zH V;clear V;by_cases q:k<set.length
  . obtain⟨b,o,rfl,ar,W⟩:=(T.o.keep f.o).at_ (k:=k) (by rw[qaA];exact q);rw[qaC] at W;have bj:=K.o k q;have c0:wr.cell? (zA (w.heap.size+1) 0)=some (Y cols):=(f.o.cell (p:=(zA (w.heap.size+1) 0)) ad).trans (cell_of_row _ _ 0 _ _ _ ac.o);(generalize set.getD k 0=j at *);have j0:((j:Int)<0)=False:=U2;have j1:(cols<=(j:Int))=False:=so;have k0:(0:Int)<=(k:Int):=U0;have k1:(k:Int)<(set.length:Int):=U0;go_wp2;go_roundw;case rel=>exact⟨k+1,U0,gn,f.o⟩
    case measure=>simp[intOf];omega
  . (obtain rfl : k = set.length := by omega);have bo:=f.o.size;have ah:zK (OB wr set.length x 0 (zL none 0 0) [] (wr.alloc (D1 (set.length:Int)))):=OB.start wr _ x;obtain ⟨l,rfl⟩:∃ l,l=wr:=⟨wr,rfl⟩;have ab:=zH ((aa.o.keep f.o).more f.o.size);have ak:=zH ((T.o.keep f.o).more f.o.size);have U:=zH (h.o.keep f.o);have a1:l.cell? (zA (w.heap.size+1) 1)=some (zL A rows.length c):=cell_of_row _ _ 1 _ _ _ U.o.k1;have a9:w.heap.size+1<l.heap.size:=U0;clear h aa T f ac;go_wp2_with (refine qaH rfl 54 (.tmp 12) (.tmp 51) rfl l _ #[Y (set.length:Int),zL none 0 0] rfl rfl matSize rfl U3 ?_);generalize l.alloc (D1 (set.length:Int))=W2 at *;go_loopw [55] (fun v55 wr=>RelHb2 l set.length x v55 wr) (fun v55 _=>rows.length-(intOf v55).toNat);case atStart=>exact ⟨0,_,_,rfl,U0,ah.o⟩
    case round =>
     obtain⟨k,v,bs,rfl,D,ay⟩:=hrel;have d:=zH ay;clear ay D ah;(have bw:k<=rows.length:=by have:=d.o.grid.le;rw[y.o] at this;exact this);by_cases q:k<rows.length
     . obtain ⟨b,o,Ai,ci,rfl,ar,W,Z⟩ := (ab.o.keep d.o.below).at_ (i := k) (by rw [nzs_len];exact q);rw [nzs_getD] at W Z;rw [qaA] at W;have b1:=bc.o k q;have bb:=zH (Z.more d.o.below.size);have ai:=a6.o k q;have k0:(0:Int)<=(k:Int):=U0;have k1:(k:Int)<(rows.length:Int):=U0;clear Z;generalize rows.getD k []=row at *;obtain ⟨n,rfl⟩:∃ n,n=wr:=⟨wr,rfl⟩;go_wp2_with (refine wpList_make_full n rfl (.tmp 60) (.tmp 60) 23 rfl n.heap.size 3 i0 (Y 0) 1 underlying23 HI.o bg.o bh.o .i64 .i64 set.length set.length set.length rfl rfl rfl rfl a4.o a5.o zn ?_;intro w5 N av);have ag:zK (RelHb3 n n.heap.size (fun j=>row.getD j 0) set (Y ((0:Nat):Int)) w5):=⟨0,U0,rfl,by have:=Row.of_make N;exact this,qaL av⟩;clear N av W;go_loopw [64] (fun v64 wr=>RelHb3 n n.heap.size (fun j=>row.getD j 0) set v64 wr) (fun v64 _=>set.length-(intOf v64).toNat);case atStart=>exact ag.o
       case round =>
        obtain⟨t,ht,rfl,O,hb⟩:=hrel;have HR:=zH O;have C:=zH hb;clear O hb ag;by_cases J:t<set.length
        . obtain⟨b,o,rfl,ar,W⟩:=((ak.o.keep d.o.below).more d.o.below.size |>.keep C.o).at_ (k:=t) (by rw[qaA];exact J);rw[qaC] at W;have bj:=K.o t J;have bf:=zH (scK_set (fun j=>row.getD j 0) set t J);have f0:=HR.o.frozen t;have c0:=HR.o.cell (j:=t) (by rw[qaA,scK_len _ set t ht];exact J);(generalize set.getD t 0=j at *);have bm:j<row.length:=U0;obtain⟨br,bx,rfl,V,bi⟩:=(bb.o.keep C.o).at_ (k:=j) (by rw[qaA];exact bm);rw[qaC] at bi;have t0:(0:Int)<=(t:Int):=U0;have t1:(t:Int)<(set.length:Int):=U0;have j0:(0:Int)<=(j:Int):=U0;have j1:(j:Int)<(row.length:Int):=U0;generalize hz:row.getD j 0=z at *;go_wp2;go_roundw;case rel=>refine⟨t+1,U0,gn,?_,C.o.setCell (p:=(zA n.heap.size t)) zn _⟩;rw[<- bf.o,<- qbC];exact Row.set HR.o t _
          case measure=>simp[intOf];omega
        . (obtain rfl : t = set.length:=by omega);(have be:zK (Row wr n.heap.size n.heap.size set.length (nz (x.getD k []))):=by have:=HR.o;unfold scK at this;rw[Nat.sub_self,List.replicate_zero,List.append_nil,List.take_length] at this;show Row _ _ _ _ _;rw[ai];exact this);(have bn:(x.getD k []).length=set.length:=by rw[ai];simp);obtain⟨w6,rfl⟩:∃w6,w6=wr:=⟨wr,rfl⟩;have y1:=(d.o.grow C.o).cell1;have aj:=zH (d.o.own C.o (.cells #[zS n.heap.size set.length set.length] 23));obtain⟨H,L,rfl,_⟩:=own_slice' d.o.grid.out;have bo:=d.o.size;have bt:=C.o.size;have a7:=(d.o.grow C.o).frozen 1;clear HR;go_wp2_with (at_builtin;refine wpList_append_own_at _ rfl (.tmp 78) (.tmp 80) 30 rfl (l.heap.size+1) 23 bq _ 1 24 underlying30 a8.o al.o an.o ao.o rfl dc (zL H k L) k ((List.range k).map (hdr x bs)) rfl aj.o (zA w6.heap.size 0) 1 1 [zS n.heap.size set.length set.length] rfl rfl ?c1 ?c2 ?c3 ?c4 ?c5 ?_);case c1=>exact World.news_of_block (cs:=#[zS n.heap.size set.length set.length]) (t:=23) (fr:=(0,0)) (heap_alloc_new w6 _)
          case c2=>intro u hu;simp at hu;subst hu;rfl
          case c3=>unfold maxLen;omega
          case c4=>omega
          case c5=>simp;omega
          intro v' w7 s I _ aq;obtain⟨bu,bv,rfl,_⟩:=own_slice' s;have E:=zH (d.o.step (g:=n.heap.size) (c:=set.length) (by rw[y.o];exact q) C.o be.o (by rw[bn];exact s) I (by simpa using aq));(have y2:w7.cell? (zA l.heap.size 1)=some (zL H k L):=by have B:w7.heap[l.heap.size]?=(w6.alloc (.cells #[zS n.heap.size set.length set.length] 23)).heap[l.heap.size]?:=I.block _ so (fun e=>by have:=(d.o.grid.out.lt _ e.symm).1;omega);rw[heap_alloc_old _ _ U0,(d.o.grow C.o).box] at B;exact cell_of_row _ _ 1 _ _ _ B);(have y3:w7.frozen? (zA l.heap.size 1)=false:=by have B:w7.heap[l.heap.size]?=(w6.alloc (.cells #[zS n.heap.size set.length set.length] 23)).heap[l.heap.size]?:=I.block _ so (fun e=>by have:=(d.o.grid.out.lt _ e.symm).1;omega);rw[heap_alloc_old _ _ U0,(d.o.grow C.o).box] at B;simp[World.frozen?,B]);clear s I aq aj y1 a7;go_wp2;go_roundw;case rel=>exact⟨k+1,_,_,gn,by rw[y.o];omega,E.o⟩
          case measure=>simp[intOf];omega
     . (obtain rfl:k=rows.length:=by omega);obtain⟨H,L,rfl,_⟩:=own_slice' d.o.grid.out;have E:=zH (U.o.keep d.o.below);have ae:=zH E.o.k2;have HY:=zH (E.o.set (Cz (set.length:Int) H rows.length L));have ba:=zH d.o.range;(have bd:zK (RowsUp wr (l.heap.size+1) H (nzs x)):=by have au:=d.o.grid;rw[<- y.o] at au;exact au.up);have ap:w.heap.size+1+1<l.heap.size+1:=U0;clear U a1 d ab ak;go_wp2_with (first|(refine wpList_load_mid rfl 54 (.tmp 12) rfl l.heap.size 0 rfl (Cn (set.length:Int) H rows.length L) _ ba.o underlying54 rfl matSize ?_)|(refine wpList_store_row rfl 54 (.tmp 6) (.tmp 84) rfl wr (w.heap.size+1+1) 54 (Cv) (Cz (set.length:Int) H rows.length L) rfl rfl ae.o matSize rfl U3 ?_));refine bodyPost_ret (results_row_one (P:=prog) rfl _ _ (w.heap.size+1+1) 54 (Cz (set.length:Int) H rows.length L) (0,0) _ _ rfl rfl HY.o.k2 underlying54 rfl matSize) rfl ?_;exact⟨⟨H,L,by rw[y.o];rfl,((bd.o.setRow ap _).lower U0)⟩,HY.o.below⟩
theorem columns_c(p m:Int)(mod:LI)(g:OA)(o:Nat)(cols:Int)(rows:LL)(A:OA)(c:Nat)(set:LN)(h:OA)(cs:Nat)(w:Wo)(t:zI w g mod)(x:mod.length<=9223372036854775807)(s:zR w A (nzs rows))(i:rows.length<=256)(u:zI w h (nz set))(d:errC p m mod cols (nzs rows)=0)(f:∀j∈set,(j:Int)<cols)(_:0<set.length)(y:set.length<=256)(l:∀r∈rows,(r.length:Int)=cols)(b:cols<=256):
 zC 178 #[C7 p m g mod.length o,Co cols A rows.length c,zL h set.length cs] w (MatPost w set.length (colsM rows set)):=
 columns_g p m mod g o cols rows A c set h cs w t x s i u d f y l b
theorem madd2_c(a o p m n B g cv cu:Nat)(j:OA)(md l v u:LN)(w:Wo)(hF:FT p m md l)(s:GFAt w n o p m l (logL l (p^m)))(q:n<=g)(t:a<p^m)(A:∀x∈v,x<p^m)(z:∀x∈u,x<p^m)(i:Row w B g cv (nz v))(r:IntsAt w g j (nz u))(h:v.length=u.length)(y:v.length<=1000):
 zC 233 #[zP o,zS g v.length cv,Y a,zL j v.length cu] w fun e w'=>e=.returned (.tuple #[])/\Row w' B g cv (nz (addRow (opsT p m l) v a u))/\w.grownBy w' (some g):=
 madd_u a o p m n B g cv cu j md l v u w hF s q t A z i (fun W hW k hk=>by
  obtain⟨c,f,d,_,b⟩:=(r.keep (qbB hW (Nat.le_of_lt i.lt.2))).at_ (k:=k) (by rw[qaA];exact hk)
  rw[qaC] at b
  exact⟨c,f,d,b⟩) h y
def vecM(O:Ops)(x:LN)(rows:LL)(cols:Nat):Nat->LN
 |0=>List.replicate cols 0
 |k+1=>if x.getD k 0=0 then vecM O x rows cols k else addRow O (vecM O x rows cols k) (x.getD k 0) (rows.getD k [])
theorem vecM_mem{q n cols:Nat}{O:Ops}(E:OpsEq q O O){x:LN}{rows:LL}(d:∀ k,k<n->x.getD k 0<q)(c:Grid q n cols rows)(f:0<q):∀ k,k<=n->(vecM O x rows cols k).length=cols/\∀ y∈vecM O x rows cols k,y<q
 |0,_=>⟨by simp[vecM],fun y hy=>by simp[vecM] at hy;omega⟩
 | k + 1,hk => by
   obtain⟨i1,i2⟩:=vecM_mem E d c f k U0
   unfold vecM
   split
   . exact⟨i1,i2⟩
   . have b:=c.row (i:=k) U0
     exact⟨by rw[qbU _ _ _ _ (by rw[i1,b.1]),i1],(qdB E (d k U0) i2 b.2).2⟩
def RelVec(w:Wo)(O:Ops)(x:LN)(rows:LL)(cols:Nat)(v16:Value)(wr:Wo):Prop:=
 ∃k:Nat,k<=x.length/\v16=Y k/\Row wr w.heap.size w.heap.size cols (nz (vecM O x rows cols k))/\zB w wr
theorem vec_c(gb Bg p m cols:Nat)(md l x:LN)(rows:LL)(Ax:OA)(cx:Nat)(A:OA)(c:Nat)(w:Wo)(hF:FT p m md l)(hG:GFAt w Bg gb p m l (logL l (p ^ m)))(ah:Bg<=w.heap.size)(hX:zI w Ax (nz x))(hA:zR w A (nzs rows))(ai:x.length=rows.length)(hx:∀ k,k<x.length->x.getD k 0<p ^ m)(ag:Grid (p ^ m) rows.length cols rows)(hc:cols<=256)(hn:rows.length<=256):
 zC 198 #[zP gb,zL Ax x.length cx,zL A rows.length c,Y cols] w fun e w'=>e=.returned (zS w.heap.size cols cols)/\Row w' w.heap.size w.heap.size cols (nz (vecM (opsT p m l) x rows cols x.length))/\zB w w':=by
 obtain⟨i0,R,M,N,P⟩:=qaF infoInt;have HI:=zH R;have ab:=zH M;have ac:=zH N;have U:=zH (show i0.bytes*cols<=281474976710656 by rw[P];omega);have V:=zH (show cols<=maxLen by unfold maxLen;omega);have L:0<p^m:=Nat.pow_pos (by have:=hF.small.p1;omega);have Z:=zH (vecM_mem (qdA hF) (x:=x) (fun k hk=>hx k U0) ag L);have D:zK (∀k,k<x.length->(rows.getD k []).length=cols/\∀y∈rows.getD k [],y<p^m):=fun k hk=>ag.row (i:=k) U0;have HX:=zH hX;have HA:=zH hA;have aa:=zH hx;have S:zK (∀(W:Wo)(a:Nat)(v u:LN)(Au:OA)(cu:Nat),zB w W->a<p^m->(∀z∈v,z<p^m)->(∀z∈u,z<p^m)->Row W w.heap.size w.heap.size cols (nz v)->IntsAt W w.heap.size Au (nz u)->v.length=cols->u.length=cols->zC 233 #[zP gb,zS w.heap.size cols cols,Y (a:Int),zL Au cols cu] W fun e w'=>e=.returned (.tuple #[])/\Row w' w.heap.size w.heap.size cols (nz (addRow (opsT p m l) v a u))/\W.grownBy w' (some w.heap.size)):=fun W a v u Au cu hW ha hv hu hr R hvl hul=>by have:=madd2_c a gb p m Bg w.heap.size w.heap.size cols cu Au md l v u W hF (hG.keep (hW.mono ah)) ah ha hv hu hr R (by rw[hvl,hul]) U0;rw[hvl] at this;exact this
 have HK:zK (∀k,vecM (opsT p m l) x rows cols (k+1)=if x.getD k 0=0 then vecM (opsT p m l) x rows cols k else addRow (opsT p m l) (vecM (opsT p m l) x rows cols k) (x.getD k 0) (rows.getD k [])):=fun k=>rfl;have E:zK (∀W,Row W w.heap.size w.heap.size cols (nz (List.replicate cols 0))->Row W w.heap.size w.heap.size cols (nz (vecM (opsT p m l) x rows cols 0))):=fun W h=>h;clear R M N P hX hA hF hG hx ag L;generalize opsT p m l=O at *;generalize p^m=q at *;go_enter func198,ntmps198;go_wp2_with (refine wpList_make_full w rfl (.tmp 12) (.tmp 12) 23 rfl w.heap.size 3 i0 (Y 0) 1 underlying23 HI.o ab.o ac.o .i64 .i64 cols cols cols rfl rfl rfl rfl U.o V.o zn ?_;intro w1 j g);have HS:zK (RelVec w O x rows cols (Y ((0:Nat):Int)) w1):=⟨0,U0,rfl,E.o _ (by have:=Row.of_make j;exact this),qaL g⟩;clear j g E;go_loopw [16] (fun v16 wr=>RelVec w O x rows cols v16 wr) (fun v16 _=>x.length-(intOf v16).toNat);case atStart=>exact HS.o
 case round =>
  obtain⟨k,hk,rfl,n,hb⟩:=hrel;have Q:=zH n;have t:=zH hb;clear n hb HS;by_cases f:k<x.length
  . obtain ⟨b,o,rfl,ae,K⟩ := (HX.o.keep t.o).at_ (k := k) (by rw [qaA];exact f);rw [qaC] at K;obtain ⟨ba,oa,Ai,ci,rfl,ad,J,r⟩:=(HA.o.keep t.o).at_ (i:=k) (by rw [nzs_len];omega);rw [nzs_getD] at J r;rw [qaA,(D.o k f).1] at J;have s:=aa.o k f;have d:=zH (HK.o k);have H:=zH (Z.o k U0);have C:=zH (D.o k f);have T:=zH r;have k0:(0:Int)<=(k:Int):=U0;have k1:(k:Int)<(x.length:Int):=U0;have k2:(k:Int)<(rows.length:Int):=U0;clear r;by_cases I:x.getD k 0=0
    . rw[if_pos I] at d;rw[I] at K;clear I s;go_wp2;go_roundw;case rel=>exact⟨k+1,U0,gn,by rw[d.o];exact Q.o,t.o⟩
      case measure=>simp[intOf];omega
    . rw[if_neg I] at d;(have af:(((x.getD k 0:Nat):Int) != 0)=true:=by rw[bne_iff_ne];omega);have HC:=zH (S.o wr (x.getD k 0) _ _ Ai ci t.o s H.o.2 C.o.2 Q.o T.o H.o.1 C.o.1);clear I s;generalize x.getD k 0=a at *;go_wp2_with fail;go_fit HC.o;rintro e w2 ⟨rfl,hr2,hg2⟩;have X:=zH hr2;(have B:=zH<|t.o.trans (qbB hg2 (Nat.le_of_lt Q.o.lt.2)));clear hr2 hg2;go_wp2;go_roundw;case rel=>exact⟨k+1,U0,gn,by rw[d.o];exact X.o,B.o⟩
      case measure=>simp[intOf];omega
  . (obtain rfl:k=x.length:=by omega);go_wp2;go_ret;exact⟨rfl,Q.o,t.o⟩
def RelO2(w1:Wo)(v20:Value)(wr:Wo):Prop:=∃k:Nat,k<=2/\v20=Y k/\zB w1 wr
theorem open2_c(p m:Int)(mod:LI)(V:OA)(Z:Nat)(cols S:Int)(zs T:List LI)(A U:OA)(c X b cb:Nat)(w:Wo)(hM:zI w V mod)(hA:zR w A zs)(ae:zs.length<=9223372036854775807)(aa:zR w U T)(ab:T.length<=9223372036854775807)(hb:w.heap[b]?=some (.cells #[Y cols,zL A zs.length c,Y S,zL U T.length X] 54 (0,0)))(ac:fieldOK p m mod=true)(hz:checkZ (p.toNat ^ m.toNat) cols zs=0)(ad:checkZ (p.toNat ^ m.toNat) S T=0):
 zC 193 #[C7 p m V mod.length Z,zS b 2 cb] w fun e w'=>zB w w'/\∃gb,e=.returned (.tuple (D4 gb))/\GFAt w' w'.heap.size gb p.toNat m.toNat (lOf p m mod) (logL (lOf p m mod) (p.toNat^m.toNat)):=by
 have r:zK (zB w (w.alloc (C3 p m V mod.length Z))):=zV.alloc zn _;have t:zK (w.heap.size<=(w.alloc (C3 p m V mod.length Z)).heap.size):=by show _<=_;simp
 have N:=zH ((hM.keep r.o).more t.o);have L:=zH hA;have x:=zH aa;have z:=zH hb;have u:=block_lt hb;have M:=zH (fnew_ok p m mod V Z _ N.o ac);have O:=zH hz;have I:=zH ad;clear ac N hM hA aa hb hz ad;go_enter func193,ntmps193;go_wp2_with fail;generalize w.alloc (C3 p m V mod.length Z)=P at *;go_fit M.o;rintro e q ⟨⟨gb,rfl,hgb0,hg⟩,hb1⟩;have f:=zH (r.o.trans (hb1.mono t.o));have H:zK (GFAt q q.heap.size gb p.toNat m.toNat (lOf p m mod) (logL (lOf p m mod) (p.toNat^m.toNat))):=hg;have E:=zH ((L.o.keep f.o).more f.o.size);have y:=zH ((x.o.keep f.o).more f.o.size);have B:=zH ((f.o.block b u).trans z.o);have C:=Nat.lt_of_lt_of_le u f.o.size;clear hb1 hg hgb0 M z L x r t u;clear P;go_wp2;go_loopw [20] (fun v20 wr=>RelO2 q v20 wr) (fun v20 _=>2-(intOf v20).toNat);case atStart=>exact⟨0,U0,rfl,Below.refl _ _⟩
 case round =>
  obtain⟨k,R,rfl,D⟩:=hrel;have g:=zH D;clear D;have l:=zH<|qeS ((g.o.block b C).trans B.o)
  have n:zK (wr.rangeAt b 0 (Cn cols A zs.length c)):=fun j v hv=>l.o j v (by
   match j,hv with
   |0,hv=>exact hv
   |1,hv=>exact hv
   |j+2,hv=>simp at hv)
  have h:zK (wr.rangeAt b 2 (Cn S U T.length X)):=fun j v hv=>by
   have:=l.o (2+j) v (by
    match j,hv with
    |0,hv=>exact hv
    |1,hv=>exact hv
    |j+2,hv=>simp at hv)
   rwa [Nat.zero_add] at this
  by_cases J:k=0
  . subst J;have d:zK (zB q (wr.alloc (Cb cols A zs.length c))):=g.o.alloc g.o.size _
    have i:=zH <|
     fun W hW=>by
      have:=check_c gb p.toNat m.toNat q.heap.size _ _ cols zs A c W (H.o.keep hW) hW.size ((E.o.keep hW).more hW.size) ae
      rw[O.o] at this
      exact this
    clear l h;go_wp2_with (first|(refine wpList_load_mid rfl 54 (.tmp 22) rfl b 0 rfl (Cn cols A zs.length c) _ n.o underlying54 rfl matSize ?_)|(refine qaH rfl 54 (.tmp 9) (.tmp 23) rfl wr _ (Cz cols A zs.length c) rfl rfl matSize rfl U3 ?_));(with_reducible refine(i.o _ d.o).mono ?_);rintro e Q ⟨rfl,hb3⟩;have s:=zH (d.o.trans (hb3.mono d.o.size));clear hb3 d i n;go_wp2;go_roundw;case rel=>exact⟨1,U0,gn,s.o⟩
    case measure=>simp[intOf]
  . by_cases K : k = 1
    . subst K;have d:zK (zB q (wr.alloc (Cb S U T.length X))):=g.o.alloc g.o.size _
      have i:=zH <|
       fun W hW=>by
        have:=check_c gb p.toNat m.toNat q.heap.size _ _ S T U X W (H.o.keep hW) hW.size ((y.o.keep hW).more hW.size) ab
        rw[I.o] at this
        exact this
      clear l n;go_wp2_with (first|(refine wpList_load_mid rfl 54 (.tmp 22) rfl b 2 rfl (Cn S U T.length X) _ h.o underlying54 rfl matSize ?_)|(refine qaH rfl 54 (.tmp 9) (.tmp 23) rfl wr _ (Cz S U T.length X) rfl rfl matSize rfl U3 ?_));(with_reducible refine(i.o _ d.o).mono ?_);rintro e Q ⟨rfl,hb3⟩;have s:=zH (d.o.trans (hb3.mono d.o.size));clear hb3 d i h;go_wp2;go_roundw;case rel=>exact⟨2,U0,gn,s.o⟩
      case measure=>simp[intOf]
    . (obtain rfl:k=2:=by omega);clear l n h;go_wp2;go_ret2;exact⟨f.o.trans (g.o.mono f.o.size),gb,rfl,(H.o.keep g.o).more g.o.size⟩
theorem natR_nzs(rows:LL):natR (nzs rows)=rows:=by
 unfold natR nzs nz;rw[List.map_map];conv=>rhs;rw[<- List.map_id rows]
 apply List.map_congr_left;intro r _;show(r.map fun x:Nat=>(x:Int)).map Int.toNat=id r;rw[List.map_map];conv=>rhs;rw[id,<- List.map_id r]
 apply List.map_congr_left;intro x _;simp
theorem errC_grid{p m:Int}{mod:LI}{cols:Int}{rows:LL}(h:errC p m mod cols (nzs rows)=0):fieldOK p m mod=true/\checkZ (p.toNat^m.toNat) cols (nzs rows)=0/\Grid (p.toNat^m.toNat) rows.length cols.toNat rows/\0<=cols/\cols<=256/\rows.length<=256:=by
 obtain⟨b,f⟩:fieldOK p m mod=true/\checkZ (p.toNat^m.toNat) cols (nzs rows)=0:=by
  unfold errC at h;split at h
  . exact⟨am,h⟩
  . simp at h
 obtain⟨_,c,g,i,d⟩:=check_grid f;rw[natR_nzs] at c;rw[nzs_len] at d;exact⟨b,f,c,g,i,d⟩
def mulMat(O:Ops)(ra rb:LL)(cols:Nat):LL:=ra.map fun r=>vecM O r rb cols rb.length
theorem mulMat_len(O:Ops)(b c:LL)(cols:Nat):(mulMat O b c cols).length=b.length:=by simp[mulMat]
theorem mulMat_getD(O:Ops)(b c:LL)(cols k:Nat)(d:k<b.length):(mulMat O b c cols).getD k []=vecM O (b.getD k []) c cols c.length:=by simp[mulMat,List.getD,d]
structure BoxH2 (w:Wo) (f a b r:Array Value) (W:Wo):Prop where
 below:zB w W
 size:w.heap.size+3<W.heap.size
 k1:W.heap[w.heap.size+1]?=some (.cells a 54 (0,0))
 k2:W.heap[w.heap.size+1+1]?=some (.cells b 54 (0,0))
 k3:W.heap[w.heap.size+1+1+1]?=some (.cells r 54 (0,0))
section
variable {w:Wo} {f a b r:Array Value} {W W':Wo}
theorem BoxH2.keep(h:BoxH2 w f a b r W)(d:zB W W'):BoxH2 w f a b r W':=by have c:=h.size;exact⟨h.below.trans (d.mono U0),Nat.lt_of_lt_of_le c d.size,(d.block _ U0).trans h.k1,(d.block _ U0).trans h.k2,(d.block _ U0).trans h.k3⟩
theorem BoxH2.set(h:BoxH2 w f a b r W)(c:Array Value):BoxH2 w f a b c (W.setRow (w.heap.size+1+1+1) c):=
 ⟨qaR h.below U0 c,by simpa using h.size,(setRow_other W _ _ _ U0).trans h.k1,(setRow_other W _ _ _ U0).trans h.k2,setRow_same W _ _ _ c h.k3⟩
theorem alloc_at{w:Wo}{n:Nat}(h:w.heap.size=n)(o:Obj):(w.alloc o).heap[n]?=some o:=by subst h;exact heap_alloc_new _ _
theorem box2(w:Wo)(f a b r:Array Value):BoxH2 w f a b r ((((w.alloc (.cells f 29)).alloc (.cells a 54)).alloc (.cells b 54)).alloc (.cells r 54)):=by
 refine⟨(((zV.alloc zn _).alloc U2 _).alloc so _).alloc so _,U2,?_,?_,?_⟩
 . exact(heap_alloc_old _ _ U2).trans ((heap_alloc_old _ _ U2).trans (alloc_at U2 _))
 . exact(heap_alloc_old _ _ U2).trans (alloc_at U2 _)
 . exact alloc_at U2 _
end
def LSt(w0 W:Wo):Prop:=zB w0 W
theorem matmul_c(p m:Int)(mod:LI)(Am:OA)(cm:Nat)(ra:LL)(A:OA)(c cols:Nat)(rb:LL)(B:OA)(c':Nat)(w:Wo)(hM:zI w Am mod)(hA:zR w A (nzs ra))(hB:zR w B (nzs rb))(br:errC p m mod rb.length (nzs ra)=0)(bq:errC p m mod cols (nzs rb)=0):
 zC 180 #[C7 p m Am mod.length cm,Co (rb.length:Int) A ra.length c,Co cols B rb.length c'] w (MatPost w cols (mulMat (opsT p.toNat m.toNat (lOf p m mod)) ra rb cols)):=by
 obtain⟨E,hz,L,_,_,hn⟩:=errC_grid br;obtain⟨_,av,y,_,bj,bc⟩:=errC_grid bq;rw[Int.toNat_natCast] at L y;obtain⟨be,aq,O,Q,R⟩:=qaF infoInts;have a2:=zH aq;have ah:=zH O;have ai:=zH Q;have aj:=zH R;have N:=zH ((box2 w (Db p m Am mod.length cm) (Cz (rb.length:Int) A ra.length c) (Cz cols B rb.length c') (Cv)).keep (zV.alloc zn (.cells #[Y (rb.length:Int),zL A ra.length c,Y (cols:Int),zL B rb.length c'] 54)));have ac:zK ((((((w.alloc (C3 p m Am mod.length cm)).alloc (Cb (rb.length:Int) A ra.length c)).alloc (Cb cols B rb.length c')).alloc (Cq)).alloc (.cells #[Y (rb.length:Int),zL A ra.length c,Y (cols:Int),zL B rb.length c'] 54)).heap[w.heap.size+1+1+1+1]?=some (.cells #[Y (rb.length:Int),zL A ra.length c,Y (cols:Int),zL B rb.length c'] 54 (0,0))):=alloc_at U2 _;have HM:=zH hM;have HA:=zH hA;have HB:=zH hB;have a3:=zH E;have ak:=zH hz;have al:=zH av;have C:zK ((mulMat (opsT p.toNat m.toNat (lOf p m mod)) ra rb cols).length=ra.length):=mulMat_len _ _ _ _;have aw:zK (∀k,k<ra.length->(mulMat (opsT p.toNat m.toNat (lOf p m mod)) ra rb cols).getD k []=vecM (opsT p.toNat m.toNat (lOf p m mod)) (ra.getD k []) rb cols rb.length):=fun k U=>mulMat_getD _ _ _ _ k U;have ax:=zH (field_ft E);have ay:=zH L;have az:=zH y;have ba:zK (∀k,k<ra.length->(vecM (opsT p.toNat m.toNat (lOf p m mod)) (ra.getD k []) rb cols rb.length).length=cols):=fun k U=>by
  have hr:=L.row (i:=k) U
  exact(vecM_mem (qdA (field_ft E)) (fun j hj=>by
   have:∀(l:LN)(hj:j<l.length),l.getD j 0=l[j]:=fun l hj=>by simp[List.getD,hj]
   rw[this _ U0]
   exact hr.2 _ (List.getElem_mem _)) y (Nat.pow_pos (by have:=(field_ft E).small.p1;omega)) rb.length zn).1
 clear aq O Q R hM hA hB br bq E hz av L y;generalize mulMat (opsT p.toNat m.toNat (lOf p m mod)) ra rb cols=x at *;go_enter func180,ntmps180;go_wp2_with fail;generalize ((((w.alloc (C3 p m Am mod.length cm)).alloc (Cb (rb.length:Int) A ra.length c)).alloc (Cb cols B rb.length c')).alloc (Cq)).alloc (.cells #[Y (rb.length:Int),zL A ra.length c,Y (cols:Int),zL B rb.length c'] 54)=W0 at *;have HC:=zH (open2_c p m mod Am cm rb.length cols (nzs ra) (nzs rb) A B c c' (w.heap.size+1+1+1+1) 2 W0 ((HM.o.keep N.o.below).more N.o.below.size) ((HA.o.keep N.o.below).more N.o.below.size) (by rw[nzs_len];omega) ((HB.o.keep N.o.below).more N.o.below.size) (by rw[nzs_len];omega) (by rw[nzs_len,nzs_len];exact ac.o) a3.o ak.o al.o);go_fit HC.o;rintro e r ⟨hb1,gb,rfl,hg⟩;have n:=zH (N.o.keep hb1);have V:=zH ((HA.o.keep n.o.below).more n.o.below.size);have X:=zH ((HB.o.keep n.o.below).more n.o.below.size);have HG:=zH hg;clear N HM HA HB HC ac hb1 hg ak al;clear W0;have a0:r.cell? (zA (w.heap.size+1) 0)=some (Y (rb.length:Int)):=cell_of_row _ _ 0 _ _ _ n.o.k1;have a1:r.cell? (zA (w.heap.size+1) 1)=some (zL A ra.length c):=cell_of_row _ _ 1 _ _ _ n.o.k1;have b0:r.cell? (zA (w.heap.size+1+1) 0)=some (Y (cols:Int)):=cell_of_row _ _ 0 _ _ _ n.o.k2;have b1:r.cell? (zA (w.heap.size+1+1) 1)=some (zL B rb.length c'):=cell_of_row _ _ 1 _ _ _ n.o.k2;have bn:=n.o.size;have bo:w.heap.size+1<r.heap.size:=U0;have bp:w.heap.size+1+1<r.heap.size:=U0;have ad:zK (OB r cols x 0 (zL none 0 0) [] (r.alloc (D1 cols))):=OB.start r _ x;go_wp2_with (refine qaH rfl 54 (.tmp 10) (.tmp 34) rfl r _ #[Y (cols:Int),zL none 0 0] rfl rfl matSize rfl U3 ?_);generalize r.alloc (D1 cols)=W2 at *;go_loopw [38] (fun v38 wr=>RelHb2 r cols x v38 wr) (fun v38 _=>ra.length-(intOf v38).toNat);case atStart=>exact⟨0,_,_,rfl,U0,ad.o⟩
 case round =>
  obtain⟨k,v,bs,rfl,U,ar⟩:=hrel;have f:=zH ar;clear ar ad;have bm:k<=ra.length:=by rw[C.o] at U;exact U
  clear U;by_cases D:k<ra.length
  . obtain ⟨b,o,Ai,ci,rfl,bi,hc,hi⟩ := (V.o.keep f.o.below).at_ (i := k) (by rw [nzs_len];exact D);rw [nzs_getD] at hc hi;rw [qaA] at hc;have S:=ay.o.row (i:=k) D;have a6:=zH (hi.more f.o.below.size);have ae:=zH (aw.o k D);have a9:=zH (ba.o k D);(have bb:zK (∀ j,j<(ra.getD k []).length->(ra.getD k []).getD j 0<p.toNat ^ m.toNat):=fun j hj=>by (have:∀ (l:LN)(hj:j<l.length),l.getD j 0=l[j]:=fun l hj=>by simp [List.getD,hj]);rw [this _ hj];exact S.2 _ (List.getElem_mem _));have au:=S.1;have k0:(0:Int)<=(k:Int):=U0;have k1:(k:Int)<(ra.length:Int):=U0;clear hi S;generalize ra.getD k []=row at *;obtain ⟨q,rfl⟩:∃ q,q=wr:=⟨wr,rfl⟩;obtain ⟨H,J,rfl,_⟩:=own_slice' f.o.grid.out;have M:=f.o.below.size
    have aa:zK (∀W,LSt q W->W.cell? (zA r.heap.size 1)=some (zL H k J)/\W.cell? (zA (w.heap.size+1+1) 1)=some (zL B rb.length c')/\W.cell? (zA (w.heap.size+1+1) 0)=some (Y (cols:Int))):=fun W hW=>
     ⟨(f.o.grow hW).cell1,cell_of_row _ _ 1 _ _ _ ((hW.block _ U0).trans ((n.o.keep f.o.below).k2)),cell_of_row _ _ 0 _ _ _ ((hW.block _ U0).trans ((n.o.keep f.o.below).k2))⟩
    (have ag:zK (zC 198 #[zP gb,zL Ai rb.length ci,zL B rb.length c',Y (cols:Int)] q.drew fun e w'=>e=.returned (zS q.heap.size cols cols)/\Row w' q.heap.size q.heap.size cols (nz (x.getD k []))/\zB q w'):=by have hd:zB q q.drew:=zV.drew;have:=vec_c gb r.heap.size p.toNat m.toNat cols (mdOf m mod) (lOf p m mod) row rb Ai ci B c' q.drew ax.o (HG.o.keep (f.o.below.trans (hd.mono M))) M (a6.o.keep hd) ((X.o.keep (f.o.below.trans (hd.mono M))).more M) au bb.o az.o U0 bc;rw[au] at this;rw[ae.o];exact this.mono fun e w' ⟨h1,h2,h3⟩=>⟨h1,h2,hd.trans h3⟩);have a8:zK (LSt q q.drew):=zV.drew;clear a0 a1 b0 b1;go_upto_region 10 with fail;refine qbM 10 (LSt q) [(true,0),(true,1),(true,2),(true,3),(true,4),(true,5),(true,6),(true,7),(false,8),(false,9)] default U1 U1 (fun _ _ d _ _ h=>by cases d<;>exact h) a8.o ?_;simp only[List.map_cons,List.map_nil,List.getD_cons_zero,List.getD_cons_succ]
    iterate 8
     apply qcH rfl
     . intro W hW
       obtain⟨z0,z1,z2⟩:=aa.o W hW
       go_simp
       rfl
     go_simp
    apply qcE rfl
    . go_simp;exact⟨rfl,rfl⟩
    go_fit ag.o;rintro e w5 ⟨rfl,hrow,hb5⟩;refine⟨_,rfl,hb5,?_⟩;go_simp;have a4:=zH hrow;(have z:=zH<|hb5);have Z:zK (LSt q (w5.alloc (.cells #[zS q.heap.size cols cols] 23))):=z.o.alloc z.o.size _;clear hrow hb5;apply mix_step rfl
    . go_simp;exact⟨rfl,rfl⟩
    . exact Z.o
    go_simp;refine qeJ ?_;have y1:=(aa.o _ Z.o).1;have af:=zH (f.o.own z.o (.cells #[zS q.heap.size cols cols] 23));have bf:=z.o.size;(have bd:(x.getD k []).length=cols:=by rw[ae.o];exact a9.o);go_wp2_with (at_builtin;refine wpList_append_own_at _ rfl (.tmp 43) (.tmp 51) 30 rfl (r.heap.size+1) 23 be _ 1 24 underlying30 a2.o ah.o ai.o aj.o rfl dc (zL H k J) k ((List.range k).map (hdr x bs)) rfl af.o (zA w5.heap.size 0) 1 1 [zS q.heap.size cols cols] rfl rfl ?c1 ?c2 ?c3 ?c4 ?c5 ?_);case c1=>exact World.news_of_block (cs:=#[zS q.heap.size cols cols]) (t:=23) (fr:=(0,0)) (heap_alloc_new w5 _)
    case c2=>intro u hu;simp at hu;subst hu;rfl
    case c3=>unfold maxLen;omega
    case c4=>omega
    case c5=>simp;omega
    intro v' w7 s T _ ao;obtain⟨bg,bh,rfl,_⟩:=own_slice' s;have I:=zH (f.o.step (g:=q.heap.size) (c:=cols) (by rw[C.o];exact D) z.o a4.o (by rw[bd];exact s) T (by simpa using ao));have K:w7.heap[r.heap.size]?=(w5.alloc (.cells #[zS q.heap.size cols cols] 23)).heap[r.heap.size]?:=T.block _ (by simp;have:=f.o.size;omega) (fun e=>by have:=(f.o.grid.out.lt _ e.symm).1;omega);rw[heap_alloc_old _ _ (by have:=f.o.size;omega),(f.o.grow z.o).box] at K;have y2:w7.cell? (zA r.heap.size 1)=some (zL H k J):=cell_of_row _ _ 1 _ _ _ K;(have y3:w7.frozen? (zA r.heap.size 1)=false:=by simp[World.frozen?,K]);clear s T ao af y1 K;go_wp2;go_roundw;case rel=>exact⟨k+1,_,_,gn,by rw[C.o];omega,I.o⟩
    case measure=>simp[intOf];omega
  . (obtain rfl:k=ra.length:=by omega);obtain⟨H,J,rfl,_⟩:=own_slice' f.o.grid.out;have I:=zH (n.o.keep f.o.below);have ab:=zH I.o.k3;have HY:=zH (I.o.set (Cz cols H ra.length J));have a5:=zH f.o.range;(have a7:zK (RowsUp wr (r.heap.size+1) H (nzs x)):=by have ap:=f.o.grid;rw[<- C.o] at ap;exact ap.up);have an:w.heap.size+1+1+1<r.heap.size+1:=U0;clear a0 a1 b0 b1 f V X HG;go_wp2_with (first|(refine wpList_load_mid rfl 54 (.tmp 10) rfl r.heap.size 0 rfl (Cn cols H ra.length J) _ a5.o underlying54 rfl matSize ?_)|(refine wpList_store_row rfl 54 (.tmp 6) (.tmp 55) rfl wr (w.heap.size+1+1+1) 54 (Cv) (Cz cols H ra.length J) rfl rfl ab.o matSize rfl U3 ?_));refine bodyPost_ret (results_row_one (P:=prog) rfl _ _ (w.heap.size+1+1+1) 54 (Cz cols H ra.length J) (0,0) _ _ rfl rfl HY.o.k3 underlying54 rfl matSize) rfl ?_;exact⟨⟨H,J,by rw[C.o];rfl,(a7.o.setRow an _).lower U0⟩,HY.o.below⟩
end Go.Proofs.YtocbdafcolbfeaaGreat
namespace Go.Proofs.YtocbdafcolbfeaaGreat
section
variable {P:Program} {ops:Array Oper} {md:Region.Mode} {S:Wo->Prop} {Q:Exit->Act->Wo->Prop} {n g s m:Nat} {F:Fence}
structure NoBar (F:Fence):Prop where
 fn:∀f,F.fn f
 depth:F.depth=none
 fenced:∀(P:Program)(mm:Machine),Machine.fenced P F mm
theorem noBar_wide:NoBar Fence.wide:=⟨fun _=>trivial,rfl,fun P mm=>fenced_wide P mm⟩
theorem NoBar.inRound(h:NoBar F)(l:Nat):NoBar (F.inRound l):=⟨h.fn,h.depth,fun P mm=>h.fenced P mm⟩
theorem NoBar.steps(h:NoBar F){a b:Machine}(c:Steps P a b):StepsIn (Machine.fenced P F) P a b:=(StepsIn.of_steps c).mono fun mm _=>h.fenced P mm
theorem NoBar.calls(h:NoBar F){f:FuncId}{args:Array Value}{w:Wo}{R:Ending->Wo->Prop}(d:Calls P f args w R):CallsIn F m P f args w R :=
 ⟨h.fn f,fun cs _=>by
   obtain⟨e,w',b,r,s,x⟩:=((callsIn_wide (n:=0)).2 d).2 cs (room_wide _)
   refine⟨e,w',b,r,?_,x⟩
   cases e with
   |outgrown=>exact s
   |returned v=>exact StepsIn.mono (fun mm _=>h.fenced P mm) s
   |panicked c=>exact StepsIn.mono (fun mm _=>h.fenced P mm) s⟩
theorem NoBar.rows(h:NoBar F){row:String}{args:Array Value}{w:Wo}{R:Value->Wo->Prop}(b:Rows P row args w R):RowsIn F m P row args w R:=
 fun c cs _=>let ⟨v,w',r,s⟩:=b c cs;⟨v,w',r,h.steps s⟩
theorem NoBar.ask(h:NoBar F)(k:Nat):F.depth.isSome=true->1<=k:=fun hd=>by rw[h.depth] at hd;cases hd
def noDefer(ops:Array Oper):Bool:=ops.all fun o=>match o.op with|.defer _=>false|_=>true
theorem noDefer_at{i:Nat}{o:Oper}(h:noDefer ops=true)(f:ops[i]?=some o):∀c,o.op≠.defer c:=fun c hc=>by
 unfold noDefer at h
 rw[Array.all_eq_true] at h
 obtain⟨b,d⟩:=Array.getElem?_eq_some_iff.1 f
 have:=h i b
 rw[d,hc] at this
 cases this
theorem wpOpIn_of_wpOp{i:Nat}{K j:Act->Wo->Prop}{a:Act}{w:Wo}(hF:NoBar F)(hd:noDefer ops=true)(d:∀ a w,K a w->j a w)(h:wpOp P ops (fun _ _ _=>False) i K a w):wpOpIn F m P ops Q i j a w:=by
 unfold wpOp at h;unfold wpOpIn;cases hi:ops[i]? with
 |none=>rw[hi] at h;exact d _ _ h
 | some o =>
  rw[hi] at h;simp only at h ⊢;by_cases b:Region.wanted o (yielded ops a.tmps)=true
  . rw [if_pos b] at h ⊢;rcases h with h|⟨_,_,_,h⟩
    . refine ⟨fun f _ => hF.fn f,?_⟩;rw [Oper.semAt_eq _ _ _ (noDefer_at hd hi)];unfold Oper.wp at h;generalize (execOp a.eval o).run P w=r at *;cases r with
      |ok nx w'=>
       cases nx<;>simp only[Oper.upon,Oper.uponIn] at h ⊢;case value=>exact d _ _ h
       case skip=>exact d _ _ h
       case defer=>exact d _ _ h
       case enter f args=>
        refine⟨hF.ask m,(hF.calls h).mono fun e w'' he=>?_⟩;cases e with
        |returned v=>exact d _ _ he
        |panicked c=>exact he.elim
        |outgrown=>obtain⟨_,_,h⟩:=he;exact h.elim
       case row row args=>exact⟨hF.ask m,(hF.rows h).mono fun v w'' hv=>d _ _ hv⟩
      |halt x w'=>cases x<;>simp only[Oper.upon] at h
    . exact h.elim
  . rw[if_neg b] at h ⊢;exact⟨fun f _=>hF.fn f,d _ _ h⟩
theorem wpAnyIn_of_HF(hF:NoBar F)(hd:noDefer ops=true){L:Array Bool->Act->Wo->Prop}(b:∀ listed a w,L listed a w->wpAnyIn F m P md ops Q g listed a w):
 ∀(f:Nat)(listed:Array Bool)(a:Act)(w:Wo),wpAnyHF P md ops (fun _ _ _=>False) S n s L f listed a w->wpAnyIn F m P md ops Q (f+g) listed a w
 |0,listed,a,w,h=>by rw[Nat.zero_add];exact b _ _ _ h
 |f + 1,listed,a,w,h=>by
   rw[show f+1+g=(f+g)+1 by omega]
   exact⟨fun h0=>absurd h0 h.1,fun i hi=>wpOpIn_of_wpOp hF hd (fun a' w' h'=>wpAnyIn_of_HF hF hd b f _ a' w' h'.2) (h.2 i hi).2⟩
theorem qeE:∀ (l:List Oper)(k:Nat)(listed:Array Bool)(a:Act)(w:Wo),(∀ j,l[j]?=ops[k+j]?) ->
 Region.seqB md ops l.length k listed=true->wpListIn F m P ops Q l a w->wpAnyIn F m P md ops Q l.length listed a w
 |[],_,_,_,_,_,hB,h=>⟨by simpa[Region.seqB] using hB,h⟩
 |o :: l,k,listed,a,w,hl,hB,h=>by
   have h0:ops[k]?=some o:=by simpa using(hl 0).symm
   simp only[List.length_cons,Region.seqB,Bool.and_eq_true,decide_eq_true_eq] at hB
   refine⟨fun h1=>(by rw[hB.1] at h1;cases h1),fun i hi=>?_⟩
   rw[hB.1] at hi
   have b:i=k:=by simpa using hi
   subst b
   have c:wpOpIn F m P ops Q i (wpListIn F m P ops Q l) a w:=by unfold wpOpIn;simp only[h0];exact h
   exact wpOpIn_mono (fun a' w' h'=>qeE l (i+1) _ a' w' (fun j=>by have:=hl (j+1);simpa[Nat.add_assoc,Nat.add_comm 1 j] using this) hB.2 h') c
theorem qdK{y:Nat}{a:Act}{w:Wo}{l:List Oper}(n s:Nat)(S:Wo->Prop)(q:List (Nat × Nat))(d:Oper)(hF:NoBar F)(v:P.follows .mixedOrders=true)(r:Region.mixFTailB .any l.toArray n s q=true)(hd:noDefer l.toArray=true)(u:S w.drew)(h:wpMixF P S (wpListIn F m P l.toArray Q (l.drop n)) (q.map fun x=>(x.1,l.getD x.2 d)) a w.drew):(Code.region y l.toArray true).wpIn F m P Q a w:=by
 simp only[Region.mixFTailB,Bool.and_eq_true,decide_eq_true_eq] at r;obtain⟨⟨⟨⟨⟨c,o⟩,p⟩,k⟩,i⟩,b⟩:=r
 have f:HeadInv .any l.toArray n (Array.replicate l.toArray.size false):=
  ⟨U2,fun j oj _ hl=>(by rw[getD_replicate_false] at hl;cases hl),fun t _ ht=>getD_in (by simpa using ht) (getD_replicate_false _ _)⟩
 have H:=qbP (P:=P) (Q:=fun _ _ _=>False) (md:=.any) (g:=l.toArray.size-n) rfl c p k o (fun _ _ _ _ _ h=>h.elim) q _ a w.drew f b (fun _=>u) h;refine wpIn_region_any v ?_
 have:=wpAnyIn_of_HF (F:=F) (m:=m) (Q:=Q) (g:=l.toArray.size-n) hF hd (fun listed' a' w' hL=>by
  have:=qeE (F:=F) (m:=m) (P:=P) (md:=.any) (Q:=Q) (l.drop n) n listed' a' w' (fun j=>by simp[List.getElem?_drop]) (by simpa using hL.1) hL.2
  simpa using this) _ _ a w.drew H
 rw[i,show n+(l.toArray.size-n)=l.toArray.size by omega] at this;exact this
end
namespace Dv
def wt:LN->Nat
 |[]=>0
 |x :: r=>(if x=0 then 0 else 1)+wt r
def addTo(q:Nat):LN->Nat->LN->LN
 |o :: u,a,y :: v=>(o+a*y % q) % q :: addTo q u a v
 |_,_,_=>[]
def comb(q:Nat):LN->LN->LL->LN
 |out,x :: xs,r :: rs=>comb q (if x=0 then out else addTo q out x r) xs rs
 |out,_,_=>out
def Ok(q n:Nat)(v:LN):Prop:=v.length=n/\∀x∈v,x<q
theorem zeros_ok{q n:Nat}(b:0<q):Ok q n (List.replicate n 0):=⟨U2,fun x hx=>by simp at hx;omega⟩
theorem wt_zeros:∀ n:Nat,wt (List.replicate n 0)=0
 |0=>rfl
 |n + 1=>by
   rw[List.replicate_succ]
   unfold wt
   rw[wt_zeros n]
   rfl
end Dv
namespace Dv
def digsBE(q:Nat):Nat->Nat->LN
 |0,_=>[]
 |k+1,n=>digsBE q k (n / q)++[n % q]
theorem digsBE_len(q:Nat):∀k n,(digsBE q k n).length=k
 |0,_=>rfl
 |k+1,n=>by unfold digsBE;rw[List.length_append,digsBE_len q k];rfl
theorem digsBE_lt{q:Nat}(b:0<q):∀ k n,∀ x∈digsBE q k n,x<q
 |0,_,x,h=>by simp[digsBE] at h
 | k + 1,n,x,h => by
   unfold digsBE at h
   rcases List.mem_append.1 h with h|h
   . exact digsBE_lt b k _ x h
   . simp at h
     rw[h]
     exact Nat.mod_lt _ b
theorem index_of{q:Nat}(l:0<q):∀ (k:Nat)(msg:LN),msg.length=k->(∀ x∈msg,x<q)->∃ n,n<q ^ k/\digsBE q k n=msg/\(n=0->∀ x∈msg,x=0)
 |0,msg,h,_=>by
   rw[List.length_eq_zero_iff.1 h]
   exact⟨0,U2,rfl,fun _ x hx=>by simp at hx⟩
 | k + 1,msg,h,hm => by
   have hne:msg≠[]:=fun e=>by rw[e] at h;simp at h
   have f:=List.dropLast_concat_getLast hne
   have d:msg.getLast hne<q:=hm _ (List.getLast_mem hne)
   obtain⟨n,g,i,j⟩:=index_of l k msg.dropLast (by simp[h]) (fun x hx=>hm x (List.dropLast_subset _ hx))
   refine⟨q*n+msg.getLast hne,?_,?_,fun h0 x hx=>?_⟩
   . rw [Nat.pow_succ,Nat.mul_comm (q ^ k)]
     calc q*n+msg.getLast hne<q*n+q:=by omega
      _=q*(n+1):=by rw[Nat.mul_add,Nat.mul_one]
      _<=q*q^k:=Nat.mul_le_mul_left _ g
   . unfold digsBE
     rw[Nat.mul_add_div l,Nat.div_eq_of_lt d,Nat.add_zero,Nat.mul_add_mod,Nat.mod_eq_of_lt d,i]
     exact f
   . have b : msg.getLast hne = 0 := by omega
     have c:n=0:=by
      rcases Nat.eq_zero_or_pos n with h|h
      . exact h
      . have:=Nat.mul_pos l h
        omega
     rw[<- f] at hx
     rcases List.mem_append.1 hx with hx|hx
     . exact j c x hx
     . simp at hx
       rw[hx,b]
def leastGo(f:Nat->Nat):Nat->Nat->Nat->Nat
 |0,_,out=>out
 |g+1,i,out=>leastGo f g (i+1) (min out (f i))
theorem leastGo_le(f:Nat->Nat):∀g i out,leastGo f g i out<=out
 |0,_,_=>Nat.le_refl _
 |g+1,i,_=>Nat.le_trans (leastGo_le f g (i+1) _) (Nat.min_le_left _ _)
theorem leastGo_at(f:Nat->Nat):∀ g i out j,i<=j->j<i+g->leastGo f g i out<=f j
 |0,i,out,j,h1,h2=>by omega
 | g + 1,i,out,j,h1,h2 => by
   unfold leastGo
   by_cases h:i=j
   . subst h
     exact Nat.le_trans (leastGo_le f g _ _) (Nat.min_le_right _ _)
   . exact leastGo_at f g (i+1) _ j U0 U0
end Dv
end Go.Proofs.YtocbdafcolbfeaaGreat
