/- Parts of the proof. -/
import Derived.Test.YtflejelbdlelpaaGreatR13
set_option maxRecDepth 100000
set_option maxHeartbeats 8000000
namespace Go.Proofs.YtflejelbdlelpaaGreat
open Go.RowKit Go.Proofs.Tryz
structure StD where
 rule:Int
 p:Int
 m:Int
 mod:LI
 n:Int
 gen:List LI
 low:Int
 frm:LI
 at_:LI
 bp:Int
 bm:Int
 bmod:Nat
 r0:Int
 r1:Int
 r2:Int
 r3:Int
 r4:Int
 points:Nat
 mults:Nat
 perm:Nat
 scale:Nat
 frob:Int
 sets:List LI
def StD.ok(d:StD):Prop:=
 d.mod.length<=maxLen/\d.gen.length<=maxLen/\d.frm.length<=maxLen/\d.at_.length<=maxLen/\d.bmod<=maxLen/\d.points<=maxLen/\d.mults<=maxLen/\d.perm<=maxLen/\d.scale<=maxLen/\d.sets.length<=maxLen
def stCells(d:StD)(Am Ag Af Aa Ab Ap Aq Ar As At:OA)(cm cg cf ca cb cp cq cr cs ct:Nat):List Value :=
 [Y d.rule,Y d.p,Y d.m,zL Am d.mod.length cm,Y d.n,zL Ag d.gen.length cg,Y d.low,zL Af d.frm.length cf,zL Aa d.at_.length ca,
   Y d.bp,Y d.bm,zL Ab d.bmod cb,Y d.r0,Y d.r1,Y d.r2,Y d.r3,Y d.r4,zL Ap d.points cp,zL Aq d.mults cq,zL Ar d.perm cr,zL As d.scale cs,Y d.frob,zL At d.sets.length ct]
def StC(w:Wo)(B:Nat)(d:StD)(cs:List Value):Prop:=
 ∃(Am Ag Af Aa Ab Ap Aq Ar As At:OA)(cm cg cf ca cb cp cq cr cs' ct:Nat),cs=stCells d Am Ag Af Aa Ab Ap Aq Ar As At cm cg cf ca cb cp cq cr cs' ct/\d.gen.length<=cg/\
  IntsAt w B Am d.mod/\RowsAt w B Ag d.gen/\IntsAt w B Af d.frm/\IntsAt w B Aa d.at_/\RowsAt w B At d.sets
theorem stepSize:(prog.info? 37).map (·.size)=some 23:=U1
def SB(w:Wo)(b:Nat)(cs:List Value)(W:Wo):Prop:=W.heap[b]?=some (.cells cs.toArray 37 (0,0))/\zB w W/\w.heap.size<=b/\b<W.heap.size
section
variable {w:Wo} {b:Nat} {cs:List Value} {W W':Wo}
theorem SB.grow(h:SB w b cs W)(i:zB W W'):SB w b cs W':=by obtain⟨d,f,g,c⟩:=h;exact⟨(i.block _ c).trans d,f.trans (i.mono U0),g,Nat.lt_of_lt_of_le c i.size⟩
theorem SB.cell(h:SB w b cs W){k:Nat}{v:Value}(c:cs[k]?=some v):W.cell? (zA b k)=some v:=by rw[cell_of_row W b k _ _ _ h.1];simpa using c
theorem SB.range(h:SB w b cs W):W.rangeAt b 0 cs:=qeL h.1
theorem SB.sub(h:SB w b cs W)(o:Nat)(f:List Value)(hd:∀j,j<f.length->cs[o+j]?=f[j]?):W.rangeAt b o f:=fun j v hv=>by
 have d:=(List.getElem?_eq_some_iff.1 hv).1
 have c:=hd j d
 rw[hv] at c
 have:=qeL h.1 (o+j) v c
 rw[Nat.zero_add] at this
 exact this
end
theorem sb_new(w:Wo)(cs:List Value):SB w w.heap.size cs (w.alloc (.cells cs.toArray 37)):=⟨heap_alloc_new _ _,zV.alloc zn _,Nat.le_refl _,U2⟩
theorem range_keep_v{w w':Wo}{b o:Nat}{cs:List Value}(h:w.rangeAt b o cs)(c:w'.heap[b]?=w.heap[b]?):w'.rangeAt b o cs:=fun j v hv=>(World.cell?_of_block (a:=(zA b (o+j))) c).trans (h j v hv)
end Go.Proofs.YtflejelbdlelpaaGreat
namespace Go.Proofs.YtflejelbdlelpaaGreat
open Go.RowKit Pln Go.Proofs.Tryz
def formZ(d:StD):Int:=if codeZ d.p d.m d.mod d.n d.gen≠0 then codeZ d.p d.m d.mod d.n d.gen else if d.low<1\/d.n+1<d.low then 6 else 0
theorem codeZ_n{p m:Int}{mod:LI}{n:Int}{zs:List LI}(h:codeZ p m mod n zs=0):fieldOK p m mod=true/\lengthZ n=0/\spZ p m mod n zs=0:=by
 unfold codeZ at h;split at h
 . cases h
 . rename_i h1;split at h
   . cases h
   . rename_i h2;exact⟨by simpa using h1,by simpa using h2,h⟩
theorem formed_g(d:StD)(cs:List Value)(w:Wo)(h:StC w w.heap.size d cs)(hk:d.ok):
 zC 18 #[.agg cs.toArray] w fun e w'=>e=.returned (Y (formZ d))/\zB w w':=by
 obtain⟨k,i,C,A,B,D,E,Ar,H,At,r,q,L,ca,cb,cp,M,O,s,P,rfl,_,Q,R,U,V,W⟩:=h;have f:=zH (sb_new w (stCells d k i C A B D E Ar H At r q L ca cb cp M O s P));have K:=zH Q;have I:=zH R;have t:zK (formZ d=if codeZ d.p d.m d.mod d.n d.gen≠0 then codeZ d.p d.m d.mod d.n d.gen else if d.low<1\/d.n+1<d.low then 6 else 0):=rfl;have T:zK (codeZ d.p d.m d.mod d.n d.gen=0->1<=d.n/\d.n<=64):=fun h=>by
  have:=(codeZ_n h).2.1;unfold lengthZ at this;split at this
  . cases this
  . omega
 obtain⟨x,y,_⟩:=hk;have e:maxLen=9223372036854775807:=rfl;rw[e] at x y;clear Q R U V W e;go_enter func18,ntmps18;go_upto_region 1 with fail;generalize w.alloc (.cells (stCells d k i C A B D E Ar H At r q L ca cb cp M O s P).toArray 37)=u at *;have l:zK (u.rangeAt w.heap.size 1 (C3 d.p d.m k d.mod.length r d.n i d.gen.length q)):=f.o.sub 1 _ (fun j hj=>by rcases j with _|_|_|_|_|j<;>first|rfl|(simp at hj;omega));have J:=zH (codecheck_c d.p d.m d.mod k r d.n d.gen i q u ((K.o.keep f.o.2.1).more f.o.2.1.size) x ((I.o.keep f.o.2.1).more f.o.2.1.size) y);clear K I x y;generalize codeZ d.p d.m d.mod d.n d.gen=z at *;go_wp2_with (refine wpList_load_mid rfl 27 (.tmp 4) rfl w.heap.size 1 rfl (C3 d.p d.m k d.mod.length r d.n i d.gen.length q) _ l.o underlying27 rfl codeSize ?_);go_fit J.o;rintro e S ⟨rfl,hb1⟩;have b:=zH (f.o.grow hb1);clear hb1 f J l;clear u;have y6:S.cell? (zA w.heap.size 6)=some (Y d.low):=b.o.cell rfl;have y4:S.cell? (zA w.heap.size 4)=some (Y d.n):=b.o.cell rfl;by_cases v:z=0
 . subst v;obtain ⟨n1,n2⟩:=T.o rfl;have g:=t.o;rw [if_neg U2] at g;generalize d.low=low at *;generalize d.n=N at *;have hw:IntKind.i64.wrap (N+1)=N+1:=IntWalk.i64_in _ U0;have c:=zH g;clear g t;by_cases Z:low<1
   . go_wp2;go_ret;exact⟨qaG (by rw[c.o,if_pos (.inl Z)]),b.o.2.1⟩
   . by_cases X : N + 1 < low
     . go_wp2;go_ret;exact⟨qaG (by rw[c.o,if_pos (.inr X)]),b.o.2.1⟩
     . go_wp2;go_ret;exact⟨qaG (by rw[c.o,if_neg U0]),b.o.2.1⟩
 . have aa:=bne_iff_ne.2 v;have g:=t.o;rw[if_pos v] at g;have c:=zH g;clear g t;go_wp2;go_ret;exact⟨qaG (by rw[c.o]),b.o.2.1⟩
theorem gorder_e(gb B p m:Nat)(l d:LN)(w:Wo)(c:GFAt w B gb p m l d):
 zC 115 #[zP gb] w fun e w'=>e=.returned (Y ((p^m:Nat):Int))/\w=w':=by obtain⟨_,_,_,_,_,_,_,_,b,_,_,_,_⟩:=c.cells;generalize p^m=q at *;clear c;go_enter func115,ntmps115;go_wp2;go_ret;exact⟨rfl,rfl⟩
theorem wt_append:∀ u v:LN,Dv.wt (u++v)=Dv.wt u+Dv.wt v
 |[],v=>by simp[Dv.wt]
 |x :: r,v=>by
   show(if x=0 then 0 else 1)+Dv.wt (r++v)=(if x=0 then 0 else 1)+Dv.wt r+Dv.wt v
   rw[wt_append r v,Nat.add_assoc]
theorem wt_take{v:LN}{j:Nat}(b:j<v.length):Dv.wt (v.take (j+1))=Dv.wt (v.take j)+if v.getD j 0=0 then 0 else 1:=by
 rw[List.take_add_one,List.getElem?_eq_getElem b,wt_append];have e:v.getD j 0=v[j]:=by simp[List.getD,b]
 rw[e];simp[Dv.wt]
end Go.Proofs.YtflejelbdlelpaaGreat
namespace Go.Proofs.YtflejelbdlelpaaGreat
open Go.RowKit Pln
def IntsUp(w:Wo)(lo:Nat)(A:OA)(zs:LI):Prop:=
 0<zs.length->∃b o,A=some (zA b o)/\lo<=b/\b<w.heap.size/\∀j,j<zs.length->w.cell? (zA b (o+j))=some (Y (zs.getD j 0))
theorem IntsUp.ints{w:Wo}{lo:Nat}{A:OA}{zs:LI}(h:IntsUp w lo A zs):zI w A zs:=fun hz=>by
 obtain⟨b,o,e,_,c,d⟩:=h hz
 exact⟨b,o,e,c,d⟩
theorem IntsUp.of_blocks{w w':Wo}{lo:Nat}{A:OA}{zs:LI}(h:IntsUp w lo A zs)(i:w.heap.size<=w'.heap.size)(g:∀k,lo<=k->k<w.heap.size->w'.heap[k]?=w.heap[k]?):IntsUp w' lo A zs:=fun hz=>by
 obtain⟨b,o,e,c,d,f⟩:=h hz
 refine⟨b,o,e,c,U0,fun j hj=>?_⟩
 have:w'.cell? (zA b (o+j))=w.cell? (zA b (o+j)):=by
  unfold World.cell?
  rw[g b c d]
 exact this.trans (f j hj)
theorem RowsUp.grow{w w':Wo}{lo:Nat}{A:OA}{zs:List LI}(h:RowsUp w lo A zs)(b:zB w w'):RowsUp w' lo A zs:=h.of_blocks b.size fun k _ hk=>b.block k hk
structure LGrid (w:Wo) (B:Nat) (v:Value) (rows:LL) (bs:List (Nat × Nat)) (k:Nat):Prop where
 len:bs.length=k
 le:k<=rows.length
 out:w.ownsRow B 22 1 v k ((List.range k).map (hdr rows bs))
 row:∀i,i<k->Row w B (bk bs i) (cp bs i) (nz (rows.getD i []))
 apart:∀i,i<k->v.ownBlock≠some (bk bs i)
theorem LGrid.step{w z A:Wo}{B:Nat}{v y:Value}{rows:LL}{t:List (Nat × Nat)}{k g c:Nat}{o:Obj}(h:LGrid w B v rows t k)(H:k<rows.length)(I:B<=w.heap.size)(C:zB w z)(E:Row z w.heap.size g c (nz (rows.getD k [])))(u:A.ownsRow B 22 1 y (k+1) ((List.range k).map (hdr rows t)++[zS g (rows.getD k []).length c]))(D:(z.alloc o).grownBy A v.ownBlock)(x:y.ownBlock=v.ownBlock\/y.ownBlock=some (z.alloc o).heap.size):
 LGrid A B y rows (t++[(g,c)]) (k+1):=by
 have r:=E.lt;have s:=C.size;have p:=fun b e=>(h.out.lt b e).2;have f:∀i,i<k->bk (t++[(g,c)]) i=bk t i/\cp (t++[(g,c)]) i=cp t i:=fun i hi=>by unfold bk cp;rw[getD_snoc_lt (by rw[h.len];exact hi)];exact⟨rfl,rfl⟩
 have j:bk (t++[(g,c)]) k=g/\cp (t++[(g,c)]) k=c:=by unfold bk cp;have:=qeO t (g,c) (0,0);rw[h.len] at this;rw[this];exact⟨rfl,rfl⟩
 refine⟨by simp[h.len],H,?_,fun i hi=>?_,fun i hi=>?_⟩
 . rw[List.range_succ,List.map_append];(have q:(List.range k).map (hdr rows (t++[(g,c)]))=(List.range k).map (hdr rows t):=List.map_congr_left fun i hi=>by unfold hdr;rw[(f i (List.mem_range.1 hi)).1,(f i (List.mem_range.1 hi)).2]);rw[q,List.map_cons,List.map_nil];unfold hdr at u ⊢;rw[j.1,j.2];exact u
 . by_cases m : i = k
   . subst m;rw[j.1,j.2];exact((E.base (B':=B) U0).alloc o).grown D (fun e=>by have:=p g e.symm;omega)
   . (have d:i<k:=by omega);rw[(f i d).1,(f i d).2];have n:=h.row i d;exact((n.below C n.lt.2).alloc o).grown D (fun e=>h.apart i d e.symm)
 . by_cases m : i = k
   . subst m;rw[j.1];rcases x with e|e
     . rw[e];exact fun l=>by have:=p g l;omega
     . rw[e];intro l;injection l with l;simp at l;omega
   . (have d : i < k:=by omega);rw[(f i d).1];rcases x with e|e
     . rw[e];exact h.apart i d
     . rw[e];have:=(h.row i d).lt.2;intro l;injection l with l;simp at l;omega
theorem own_slice'{w:Wo}{base n:Nat}{e:TypeId}{v:Value}{xs:List Value}(h:w.ownsRow base e 1 v n xs):∃VA ck,v=zL VA n ck/\(0<n->∃R,VA=some (zA R 0)):=by
 rcases h.2 with⟨b,c⟩|⟨g,cap,cur,d,_⟩
 . subst c;exact⟨_,_,b,fun h=>U0⟩
 . exact⟨_,_,d,fun _=>⟨g,rfl⟩⟩
theorem LGrid.up{w:Wo}{B:Nat}{m:OA}{n:Nat}{rows:LL}{l:List (Nat × Nat)}(h:LGrid w B (zL m rows.length n) rows l rows.length):RowsUp w B m (nzs rows):=by
 intro d;rw[nzs_len] at d;obtain⟨f,g,e,k⟩:=own_slice' h.out;injection e with e1 e2 e3;subst e1;obtain⟨R,rfl⟩:=k d;have b:=World.ownsRow.lt h.out R rfl;refine⟨R,0,rfl,b.1,b.2,fun i hi=>?_⟩;rw[nzs_len] at hi;have c:=h.row i hi;refine⟨bk l i,0,cp l i,?_,c.lt.1,c.lt.2,fun j hj=>?_⟩
 . rw[Nat.zero_add,nzs_getD,qaA,World.ownsRow.cellAt h.out i U0];simp[hi,hdr]
 . rw[nzs_getD] at hj ⊢;rw[Nat.zero_add];exact c.cell hj
theorem heap_set_same{w:Wo}{b:Nat}{cs:List Value}{t:TypeId}{fr:Nat × Nat}(h:w.heap[b]?=some (.cells cs.toArray t fr))(k:Nat)(v:Value):(w.setCell (zA b k) v).heap[b]?=some (.cells (cs.set k v).toArray t fr):=by simp[World.setCell,Array.getElem?_modify,h]
theorem IntsUp.lower{w:Wo}{lo g:Nat}{A:OA}{zs:LI}(h:IntsUp w lo A zs)(i:g<=lo):IntsUp w g A zs:=fun hz=>by
 obtain⟨b,o,e,f,c,d⟩:=h hz
 exact⟨b,o,e,U0,c,d⟩
theorem RowsUp.lower{w:Wo}{lo p:Nat}{A:OA}{zs:List LI}(h:RowsUp w lo A zs)(q:p<=lo):RowsUp w p A zs:=fun hz=>by
 obtain⟨b,o,e,m,f,k⟩:=h hz
 refine⟨b,o,e,U0,f,fun i hi=>?_⟩
 obtain⟨c,l,d,g,n,j⟩:=k i hi
 exact⟨c,l,d,g,U0,j⟩
structure FormIs (d:StD):Prop where
 field:fieldOK d.p d.m d.mod=true
 n1:1<=d.n
 n2:d.n<=64
 rows:nzs (natR d.gen)=d.gen
 grid:Grid (d.p.toNat^d.m.toNat) (natR d.gen).length d.n.toNat (natR d.gen)
 len:d.gen.length<=256
 low1:1<=d.low
 low2:d.low<=d.n+1
theorem form_is{d:StD}(h:formZ d=0):FormIs d:=by
 unfold formZ at h;split at h
 . rename_i hz;exact absurd h hz
 . rename_i hz;have g:=Classical.byContradiction hz;obtain ⟨i,b,c⟩:=codeZ_n g;have j:1<=d.n/\d.n<=64:=by
    unfold lengthZ at b;split at b
    . cases b
    . omega
   have f:errC d.p d.m d.mod d.n d.gen=0:=by
    unfold spZ at c;split at c
    . rename_i he;exact absurd c he
    . rename_i he;exact Classical.byContradiction he
   unfold errC at f;rw[if_pos i] at f;obtain⟨k,l,q,r,o⟩:=qfY f;split at h
   . cases h
   . rename_i hl;exact⟨i,j.1,j.2,k,l,o,U0,U0⟩
end Go.Proofs.YtflejelbdlelpaaGreat
namespace Go.Proofs.YtflejelbdlelpaaGreat
open Go.RowKit Pln Go.Proofs.Tryz
def RelIx(zs:LI)(x:Int)(w:Wo)(v:Value)(wr:Wo):Prop:=∃k n:Nat,k<=zs.length/\v=Y k/\x∉zs.take k/\wr=w.drewN n
theorem not_take_succ{zs:LI}{x:Int}{k:Nat}(b:k<zs.length)(h:x∉zs.take k)(c:x≠zs.getD k 0):x∉zs.take (k+1):=by
 have e:zs.getD k 0=zs[k]:=by simp[List.getD,b]
 rw[List.take_succ_eq_append_getElem b,<- e,List.mem_append,not_or];exact⟨h,by simpa only[List.mem_singleton] using c⟩
theorem sindexv_c(zs:LI)(x:Int)(A:OA)(c:Nat)(w:Wo)(L:zI w A zs)(M:zs.length<=9223372036854775807):
 zC 139 #[zL A zs.length c,Y x] w fun e w'=>(∃r:Int,e=.returned (Y r)/\(0<=r ↔ x∈zs)/\(0<=r->∃k:Nat,r=(k:Int)/\k<zs.length/\zs.getD k 0=x))/\∃n,w'=w.drewN n:=by
 have B:=zH L;have u:zK (∀k,k<zs.length->x∉zs.take k->x≠zs.getD k 0->x∉zs.take (k+1)):=fun k l h he=>not_take_succ l h he;have p:zK (∀k,k<zs.length->x=zs.getD k 0->x∈zs):=fun k l he=>by
  have e:zs.getD k 0=zs[k]:=by simp[List.getD,l]
  rw[he,e];exact List.getElem_mem l
 have g:zK (x∉zs.take zs.length->x∉zs):=fun h=>by rwa [List.take_length] at h
 clear L;go_enter func139,ntmps139;go_wp2;go_loopw [8] (fun v8 wr=>RelIx zs x w v8 wr) (fun v8 _=>zs.length-(intOf v8).toNat);case atStart=>exact⟨0,0,U0,rfl,U2,rfl⟩
 case round =>
  obtain⟨k,n,l,rfl,m,rfl⟩:=hrel;have i:=zH m;clear m;by_cases d:k<zs.length
  . obtain ⟨b,o,rfl,H,I⟩ := B.o.at_ d;have D:=zH (p.o k d);have E:=zH (u.o k d i.o);generalize j:zs.getD k 0=z at *;have q:=zH j;clear j;have J:(0:Int)<=(k:Int):=U0;have K:(k:Int)<(zs.length:Int):=U0;by_cases f:x=z
    . (have y:(x==z)=true:=by simp[f]);have s:=zH (D.o f);have v:=zH (q.o.trans f.symm);clear f;go_wp2;go_ret;exact⟨⟨(k:Int),rfl,by simp[s.o],fun _=>⟨k,rfl,d,v.o⟩⟩,n,df⟩
    . (have y : (x == z) = false:=by simp[f]);have t:=zH (E.o f);clear f;go_wp2;go_roundw;case rel=>exact⟨k+1,n,U0,U3,t.o,df⟩
      case measure=>simp[intOf];omega
  . (obtain rfl:k=zs.length:=by omega);have C:=zH (g.o i.o);go_wp2;go_ret;exact⟨⟨-1,rfl,by simp[C.o],fun h=>absurd h dc⟩,n,rfl⟩
theorem sindex_c(zs:LI)(x:Int)(A:OA)(c:Nat)(w:Wo)(b:zI w A zs)(d:zs.length<=9223372036854775807):
 zC 139 #[zL A zs.length c,Y x] w fun e w'=>(∃r:Int,e=.returned (Y r)/\(0<=r ↔ x∈zs))/\∃n,w'=w.drewN n:=
 (sindexv_c zs x A c w b d).mono fun _ _ ⟨⟨r,h1,h2,_⟩,h3⟩=>⟨⟨r,h1,h2⟩,h3⟩
theorem contains_c(zs:LI)(x:Int)(A:OA)(c:Nat)(w:Wo)(f:zI w A zs)(g:zs.length<=9223372036854775807):
 zC 71 #[zL A zs.length c,Y x] w (Quiet (.bool (decide (x∈zs))) w):=by have b:=zH (sindex_c zs x A c w f g);clear f;go_enter func71,ntmps71;go_wp2_with fail;go_fit b.o;rintro e d ⟨⟨r,rfl,hr⟩,n1,rfl⟩;go_wp2;go_ret;exact⟨qaN (by by_cases h:x∈zs<;>simp_all),_,rfl⟩
end Go.Proofs.YtflejelbdlelpaaGreat
namespace Go.Proofs.YtflejelbdlelpaaGreat
open Go.RowKit Pln
structure OB (w:Wo) (n:Int) (rows:LL) (k:Nat) (v:Value) (bs:List (Nat × Nat)) (W:Wo):Prop where
 below:zB w W
 size:w.heap.size<W.heap.size
 box:W.heap[w.heap.size]?=some (.cells [Y n,v].toArray 60 (0,0))
 grid:LGrid W (w.heap.size+1) v rows bs k
section
variable {w:Wo} {n:Int} {rows:LL} {k:Nat} {v:Value} {bs:List (Nat × Nat)} {W W':Wo}
theorem LGrid.grow{B:Nat}(h:LGrid W B v rows bs k)(b:zB W W'):LGrid W' B v rows bs k:=by refine⟨h.len,h.le,?_,fun i hi=>(h.row i hi).below b (h.row i hi).lt.2,h.apart⟩;exact h.out.kept (row:=none) ⟨b.os,b.tape,b.output,b.size,fun j hj _=>b.block j hj⟩ (by cases v.ownBlock<;>simp)
end
def MatPost(w:Wo)(n:Int)(rows:LL)(e:Ending)(w':Wo):Prop:=
 (∃(A':OA)(c':Nat),e=.returned (.tuple #[Cp n A' rows.length c',Y 0])/\RowsUp w' w.heap.size A' (nzs rows))/\zB w w'
end Go.Proofs.YtflejelbdlelpaaGreat
namespace Go.Proofs.YtflejelbdlelpaaGreat
open Go.RowKit Pln Go.Proofs.Tryz
def BB:Nat:=4294967296
def tlen(l:LN):Nat->Nat
 |0=>0
 |n+1=>if l.getD n 0=0 then tlen l n else n+1
theorem tlen_le(l:LN):∀ n,tlen l n<=n
 |0=>Nat.le_refl 0
 |n + 1=>by
   have:=tlen_le l n
   unfold tlen
   split<;>omega
def trm(l:LN):LN:=l.take (tlen l l.length)
def Cn(l:LN):Prop:=(∀d∈l,d<BB)/\(0<l.length->l.getD (l.length-1) 0≠0)
theorem trm_len(l:LN):(trm l).length=tlen l l.length:=by unfold trm;rw[List.length_take];exact Nat.min_eq_left (tlen_le l _)
theorem tlen_nz(l:LN):∀ n,0<tlen l n->l.getD (tlen l n-1) 0≠0
 |0,h=>by simp[tlen] at h
 | n + 1,h => by
   unfold tlen at h ⊢
   by_cases e:l.getD n 0=0
   . rw[if_pos e] at h ⊢
     exact tlen_nz l n h
   . rw[if_neg e]
     exact e
theorem take_getD{l:LN}{n j:Nat}(b:j<n):(l.take n).getD j 0=l.getD j 0:=by simp[List.getD,b]
theorem trm_cn{l:LN}(h:∀d∈l,d<BB):Cn (trm l):=by refine⟨fun d hd=>h d (List.mem_of_mem_take hd),fun hp=>?_⟩;rw[trm_len] at hp ⊢;unfold trm;rw[take_getD U0];exact tlen_nz l _ hp
theorem val_app(p:Nat):∀ a b:LN,val p (a++b)=val p a+p ^ a.length*val p b
 |[],b=>by simp[val]
 |x :: a,b=>by
   rw[List.cons_append,val,val,val_app p a b,Nat.mul_add,List.length_cons,Nat.pow_succ,Nat.mul_comm (p^a.length) p,Nat.mul_assoc]
   omega
theorem qfP(p:Nat){l:LN}{n:Nat}(b:n<l.length):val p (l.take (n+1))=val p (l.take n)+p^n*l.getD n 0:=by rw[List.take_add_one,val_app,List.length_take,Nat.min_eq_left U0];simp[List.getD,b,val]
theorem tlen_val(p:Nat)(l:LN):∀ n,n<=l.length->val p (l.take (tlen l n))=val p (l.take n)
 |0,_=>rfl
 |n + 1,hn=>by
   unfold tlen
   by_cases e:l.getD n 0=0
   . rw[if_pos e,tlen_val p l n U0,qfP p U0,e,Nat.mul_zero,Nat.add_zero]
   . rw[if_neg e]
theorem trm_val(p:Nat)(l:LN):val p (trm l)=val p l:=by unfold trm;rw[tlen_val p l _ zn,List.take_length]
theorem cn_trm{l:LN}(h:Cn l):trm l=l:=by
 unfold trm;have e:tlen l l.length=l.length:=by
  by_cases b:l.length=0
  . rw[b];rfl
  . have:=h.2 U0;obtain⟨n,c⟩:∃n,l.length=n+1:=⟨l.length-1,U0⟩;rw[c] at this ⊢;unfold tlen;rw[if_neg (by simpa using this)]
 rw[e,List.take_length]
theorem val_ltB:∀{l:LN},(∀d∈l,d<BB)->val BB l<BB^l.length:=fun{l} h=>val_lt dc l h
theorem cn_ge{l:LN}(h:Cn l)(d:0<l.length):BB^(l.length-1)<=val BB l:=by have c:=h.2 d;have b:=qfP BB (l:=l) (n:=l.length-1) U0;rw[show l.length-1+1=l.length by omega,List.take_length] at b;rw[b];have:BB^(l.length-1)*1<=BB^(l.length-1)*l.getD (l.length-1) 0:=Nat.mul_le_mul_left _ U0;omega
theorem cn_len{l:LN}{k:Nat}(h:Cn l)(f:val BB l<BB^k):l.length<=k:=by
 by_cases c:l.length=0
 . omega
 . have d:=cn_ge h U0;have b:BB^(l.length-1)<BB^k:=U0;have:=(Nat.pow_lt_pow_iff_right (a:=BB) dc).1 b;omega
theorem cn_zero{l:LN}(h:Cn l):val BB l=0 ↔ l=[]:=by
 constructor
 . intro e;have:=cn_len (k:=0) h (by rw[e];decide);exact List.length_eq_zero_iff.1 U0
 . rintro rfl;rfl
def WordsAt(w:Wo)(B:Nat)(A:OA)(l:LN):Prop:=
 0<l.length->∃b o,A=some (zA b o)/\b<B/\∀j,j<l.length->w.cell? (zA b (o+j))=some (.int .u32 ((l.getD j 0:Nat):Int))
section
variable {w w':Wo} {B B':Nat} {A:OA} {l:LN}
theorem WordsAt.keep(h:WordsAt w B A l)(f:Below B w w'):WordsAt w' B A l:=fun hz=>by
 obtain⟨b,o,e,c,d⟩:=h hz
 exact⟨b,o,e,c,fun j hj=>(f.cell (p:=(zA b (o+j))) c).trans (d j hj)⟩
theorem WordsAt.more(h:WordsAt w B A l)(f:B<=B'):WordsAt w B' A l:=fun hz=>by
 obtain⟨b,o,e,d,c⟩:=h hz
 exact⟨b,o,e,U0,c⟩
theorem WordsAt.up(h:WordsAt w w.heap.size A l)(b:zB w w'):WordsAt w' w'.heap.size A l:=(h.keep b).more b.size
theorem WordsAt.at_(h:WordsAt w B A l){k:Nat}(f:k<l.length):∃b o,A=some (zA b o)/\b<B/\w.cell? (zA b (o+k))=some (.int .u32 ((l.getD k 0:Nat):Int)):=by obtain⟨b,o,e,c,d⟩:=h U0;exact⟨b,o,e,c,d k f⟩
theorem WordsAt.take(h:WordsAt w B A l)(n:Nat):WordsAt w B A (l.take n):=fun hz=>by
 rw[List.length_take] at hz
 obtain⟨b,o,e,c,d⟩:=h U0
 refine⟨b,o,e,c,fun j hj=>?_⟩
 rw[List.length_take] at hj
 rw[take_getD U0]
 exact d j U0
theorem WordsAt.nil:WordsAt w B A []:=fun h=>absurd h U2
end
theorem short_c(A:OA)(l:LN)(c:Nat)(w:Wo)(r:WordsAt w w.heap.size A l)(t:l.length<=1000000)(s:l.length<=c):
 zC 202 #[zL A l.length c] w fun e w'=>e=.returned (zL A (trm l).length (trm l).length)/\w=w':=by
 have i:=zH r;clear r;go_enter func202,ntmps202;go_wp2;go_loop [3] (fun v3=>∃n:Nat,n<=l.length/\v3=Y (n:Int)/\tlen l n=tlen l l.length) (fun v3=>(intOf v3).toNat);case atStart=>exact⟨l.length,Nat.le_refl _,rfl,rfl⟩
 case round =>
  obtain⟨n,q,rfl,h⟩:=hrel;have d:=zH h;clear h;rcases n with _|n
  . (have g:zK ((trm l).length=0):=by show _=_;rw[trm_len,<- d.o];rfl);go_wp2;go_ret;rw[g.o];exact⟨rfl,rfl⟩
  . have f : zK (tlen l (n + 1) = if l.getD n 0 = 0 then tlen l n else n + 1) := rfl;obtain ⟨b,o,rfl,j,y⟩:=i.o.at_ (k:=n) U0;(have m:IntKind.i64.wrap (((n+1:Nat):Int)-1)=(n:Int):=by rw [IntWalk.i64_in _ U0];omega);by_cases e:l.getD n 0=0
    . rw[e] at y;go_wp2;go_round;case rel=>exact⟨n,U0,rfl,by rw[<- d.o,f.o,if_pos e]⟩
      case measure=>simp[intOf]
    . (have g:zK ((trm l).length=n+1):=by show _=_;rw[trm_len,<- d.o,f.o,if_neg e]);clear f d;generalize l.getD n 0=z at *;(have p:((z:Int)==0)=false:=by rw[beq_eq_false_iff_ne];omega);go_wp2;go_ret;rw[g.o];exact⟨rfl,rfl⟩
end Go.Proofs.YtflejelbdlelpaaGreat
