/- Parts of the proof. -/
import Derived.Test.YtflejelbdlelpaaGreatR10
import Derived.Test.YtflejelbdlelpaaGreatR11
set_option maxRecDepth 100000
set_option maxHeartbeats 8000000
namespace Go.Proofs.YtflejelbdlelpaaGreat
open Go.RowKit Pln Go.Proofs.Tryz
theorem canonM_len(O:Ops)(rows:LL)(cols:Nat):(canonM O rows cols).length=(elGo O rows cols).piv.length:=by unfold canonM;rw[List.length_take,qfD];have:=(qeN (O:=O) rows cols).2;omega
theorem qfB(O:Ops)(rows:LL)(cols i:Nat)(b:i<(elGo O rows cols).piv.length):(canonM O rows cols).getD i []=(elGo O rows cols).rows.getD i []:=by unfold canonM;simp only[List.getD];rw[List.getElem?_take_of_lt b]
theorem own_slice{w:Wo}{base n:Nat}{v:Value}{xs:List Value}(h:w.ownsRow base 3 1 v n xs):∃VA ck,v=zL VA n ck:=by
 rcases h.2 with⟨b,c⟩|⟨g,cap,cur,d,_⟩
 . subst c;exact⟨_,_,b⟩
 . exact⟨_,_,d⟩
def RowsUp(w:Wo)(lo:Nat)(A:OA)(zs:List LI):Prop:=
 0<zs.length->∃b o,A=some (zA b o)/\lo<=b/\b<w.heap.size/\∀i,i<zs.length->∃(bi oi ci:Nat),w.cell? (zA b (o+i))=some (zL (some (zA bi oi)) (zs.getD i []).length ci)/\lo<=bi/\bi<w.heap.size/\∀j,j<(zs.getD i []).length->w.cell? (zA bi (oi+j))=some (Y ((zs.getD i []).getD j 0))
theorem RowsUp.rowsAt{w:Wo}{lo:Nat}{A:OA}{zs:List LI}(h:RowsUp w lo A zs):zR w A zs:=fun hz=>by
 obtain⟨b,o,e,_,c,l⟩:=h hz
 refine⟨b,o,e,c,fun i hi=>?_⟩
 obtain⟨d,m,f,g,_,j,k⟩:=l i hi
 exact⟨_,f,g,fun _=>⟨d,m,rfl,j,k⟩⟩
theorem RowsUp.of_blocks{w w':Wo}{lo:Nat}{A:OA}{zs:List LI}(h:RowsUp w lo A zs)(u:w.heap.size<=w'.heap.size)(t:∀k,lo<=k->k<w.heap.size->w'.heap[k]?=w.heap[k]?):RowsUp w' lo A zs:=fun hz=>by
 have c:∀b o,lo<=b->b<w.heap.size->w'.cell? (zA b o)=w.cell? (zA b o):=fun b o g f=>by
  unfold World.cell?
  rw[t b g f]
 obtain⟨b,o,e,d,l,r⟩:=h hz
 refine⟨b,o,e,d,U0,fun i hi=>?_⟩
 obtain⟨m,s,n,g,f,p,q⟩:=r i hi
 exact⟨m,s,n,(c b _ d l).trans g,f,U0,fun j hj=>(c m _ f p).trans (q j hj)⟩
theorem RowsUp.setRow{w:Wo}{lo:Nat}{A:OA}{zs:List LI}(h:RowsUp w lo A zs){g:Nat}(b:g<lo)(cs:Array Value):RowsUp (w.setRow g cs) lo A zs:=
 h.of_blocks U2 fun k hk _=>setRow_other w g k cs U0
theorem GridAt.rowsAt{w:Wo}{B R f:Nat}{rows:LL}{c:List (Nat × Nat)}(h:GridAt w B R f rows c)(zs:LL)(g:zs.length<=rows.length)(d:∀i,i<zs.length->zs.getD i []=rows.getD i []):RowsUp w B (zO R) (nzs zs):=by
 intro _;refine⟨R,0,rfl,h.lt.1,h.lt.2,fun i hi=>?_⟩;rw[nzs_len] at hi;have b:=h.row i U0;refine⟨bk c i,0,cp c i,?_,b.lt.1,b.lt.2,fun j hj=>?_⟩
 . rw[Nat.zero_add,nzs_getD,qaA,d i hi];exact h.cell U0
 . rw[nzs_getD,d i hi] at hj ⊢;rw[Nat.zero_add];exact b.cell hj
theorem canon_c(gb Bg p m cols:Nat)(md l:LN)(rows:LL)(A:OA)(c:Nat)(w:Wo)(I:FT p m md l)(J:GFAt w Bg gb p m l (logL l (p^m)))(E:Bg<=w.heap.size)(H:zR w A (nzs rows))(D:Grid (p^m) rows.length cols rows)(M:1<=cols)(K:cols<=256)(L:rows.length<=256):
 zC 185 #[zP gb,zL A rows.length c,Y cols] w fun e w'=>(∃(R:Nat)(VA:OA)(n ck:Nat),e=.returned (.tuple #[zS R (canonM (opsT p m l) rows cols).length (canonM (opsT p m l) rows cols).length,zL VA n ck])/\RowsUp w' w.heap.size (zO R) (nzs (canonM (opsT p m l) rows cols)))/\zB w w':=by
 have g:=zH (clone_c rows A c w H (fun r hr=>by have:=(D.2 r hr).1;omega) U0)
 have h:zK (∀(bs:List (Nat × Nat))(b:Wo),zB w b->GridAt b w.heap.size w.heap.size rows.length rows bs->zC 223 #[zP gb,zS w.heap.size rows.length rows.length,Y cols,zL none 0 0] b (ElPost b w.heap.size w.heap.size rows.length p m l rows cols)):=
  fun bs b hb hg=>eliminate_c w.heap.size w.heap.size rows.length gb Bg p m cols md l rows bs b I (J.keep (hb.mono E)) E hb.size hg D L K
 have q:=zH (canonM_len (opsT p m l) rows cols);have f:=zH (qeN (O:=opsT p m l) rows cols);have s:=zH (qfD (O:=opsT p m l) rows cols);have j:=zH (qfB (opsT p m l) rows cols);clear I J H D;generalize canonM (opsT p m l) rows cols=B at *;go_enter func185,ntmps185;go_wp2_with fail;go_fit g.o;rintro e b ⟨rfl,⟨bs,hg⟩,hb⟩;have y:=zH hg;have x:=zH hb;clear hg hb;go_wp2_with fail;(with_reducible refine(h.o bs b x.o y.o).mono ?_);rintro e C ⟨⟨vp,d,bs2,rfl,hown,hgrid⟩,hb2⟩;obtain⟨VA,ck,rfl⟩:=own_slice hown;have k:=zH hgrid;have t:=zH (x.o.trans hb2);clear hown hgrid hb2;have z:=zH<|k.o.rowsAt B (by rw[q.o,s.o];exact f.o.2) (fun i hi=>j.o i (by rw[<- q.o];exact hi))
 have v:=f.o.2;rw[<- q.o] at v;have u:=zH q.o.symm;clear q f s j g h k;rw[u.o];go_wp2;go_ret2;exact⟨⟨_,_,_,_,rfl,z.o⟩,t.o⟩
section
variable {P:Program}
theorem wpList_store_row{ops:Array Oper}{rest:List Oper}{o:Oper}{a:Act}{Q:Exit->Act->Wo->Prop}(f:o.guard=none)(g:TypeId)(x y:Operand)(l:o.op=.store g x y)(w:Wo)(b:Nat)(t:TypeId)(c d:Array Value)(n:a.eval x=zP b)(p:a.eval y=.agg d)(j:w.heap[b]?=some (.cells c t (0,0)))(k:(P.info? g).map (·.size)=some d.size)(m:c.size=d.size)(i:d.all (·.oneCell')=true)(h:wpList P ops Q rest (a.put o.dst undef) (w.setRow b d)):wpList P ops Q (o :: rest) a w:=
 wpList_plain f fun _ hK=>by
  unfold Oper.wp execOp
  simp only[l,n,p,Instr.storeAt,Instr.sureAddr,Sem.run_bind,Sem.run_pure,Result.andThen_ok,run_storeVar_row w b t g c d j k m i]
  exact hK _ _ h
end
theorem qbV{P:Program}{fn:Func}{p q r:Tmp}{i:TypeId}(h:fn.results=#[.cell p i,.tmp q,.tmp r])(tmps:Array Value)(w:Wo)(g:Nat)(t:TypeId)(cs:Array Value)(fr:Nat × Nat)(d:TypeDesc)(u v:Value)(l:tmps.getD p undef=zP g)(m:tmps.getD q undef=u)(n:tmps.getD r undef=v)(j:w.heap[g]?=some (.cells cs t fr))(o:P.underlying i=some d)(hd:(match d with|.struct _|.array _ _=>true|_=>false)=true)(k:(P.info? i).map (·.size)=some cs.size):
 (results fn tmps).run P w=.ok (.tuple #[.agg cs,u,v]) w:=by
 have b:tmps[p]?.getD undef=zP g:=by simpa using l
 have c:tmps[q]?.getD undef=u:=by simpa using m
 have f:tmps[r]?.getD undef=v:=by simpa using n
 simp[results,h,b,c,f,asAddr,run_loadVar_row w g t i cs fr d j o hd k]
theorem results_row_one{P:Program}{fn:Func}{p q:Tmp}{f:TypeId}(h:fn.results=#[.cell p f,.tmp q])(tmps:Array Value)(w:Wo)(g:Nat)(t:TypeId)(cs:Array Value)(fr:Nat × Nat)(d:TypeDesc)(u:Value)(k:tmps.getD p undef=zP g)(l:tmps.getD q undef=u)(i:w.heap[g]?=some (.cells cs t fr))(m:P.underlying f=some d)(hd:(match d with|.struct _|.array _ _=>true|_=>false)=true)(j:(P.info? f).map (·.size)=some cs.size):
 (results fn tmps).run P w=.ok (.tuple #[.agg cs,u]) w:=by
 have b:tmps[p]?.getD undef=zP g:=by simpa using k
 have c:tmps[q]?.getD undef=u:=by simpa using l
 simp[results,h,b,c,asAddr,run_loadVar_row w g t f cs fr d i m hd j]
theorem setRow_same(w:Wo)(b:Nat)(t:TypeId)(c d:Array Value)(f:w.heap[b]?=some (.cells c t (0,0))):(w.setRow b d).heap[b]?=some (.cells d t (0,0)):=by simp[World.setRow,Array.getElem?_modify,f]
theorem matSize:(prog.info? 60).map (·.size)=some 2:=U1
def lOf(p m:Int)(mod:LI):LN:=genM (mulM p.toNat m.toNat (mdOf m mod)) (p.toNat^m.toNat)
def OpenPost(w:Wo)(p m:Int)(mod:LI)(cols:Int)(zs:List LI)(e:Ending)(w':Wo):Prop:=
 zB w w'/\((fieldOK p m mod=false/\e=.returned (.tuple #[.pointer none,Y 1]))\/
  (fieldOK p m mod=true/\checkZ (p.toNat^m.toNat) cols zs≠0/\e=.returned (.tuple #[.pointer none,Y (checkZ (p.toNat^m.toNat) cols zs)]))\/
  (fieldOK p m mod=true/\checkZ (p.toNat^m.toNat) cols zs=0/\∃gb,e=.returned (.tuple (Cm gb))/\GFAt w' w'.heap.size gb p.toNat m.toNat (lOf p m mod) (logL (lOf p m mod) (p.toNat^m.toNat))))
def RelO(w1:Wo)(z:Int)(v20:Value)(wr:Wo):Prop:=∃k:Nat,k<=1/\v20=Y k/\zB w1 wr/\(k=1->z=0)
theorem open_c(p m:Int)(mod:LI)(T:OA)(U:Nat)(cols:Int)(zs:List LI)(A:OA)(c b cb:Nat)(w:Wo)(hM:zI w T mod)(hl:mod.length<=9223372036854775807)(Z:zR w A zs)(X:zs.length<=9223372036854775807)(V:w.heap[b]?=some (C9 cols A zs.length c)):
 zC 184 #[C4 p m T mod.length U,zS b 1 cb] w (OpenPost w p m mod cols zs):=by
 have i:zK (zB w (w.alloc (C2 p m T mod.length U))):=zV.alloc zn _;have l:zK (w.heap.size<=(w.alloc (C2 p m T mod.length U)).heap.size):=by show _<=_;simp
 have C:=zH ((hM.keep i.o).more l.o);have D:=zH Z;have t:=zH V;have r:=block_lt V;clear hM Z V;cases hok:fieldOK p m mod
 . have B:=zH (fnew_no p m mod T U _ C.o hl hok);have P:zK (∀e w',zB w w'->e=.returned (.tuple #[.pointer none,Y 1])->OpenPost w p m mod cols zs e w'):=fun e w' h1 h2=>⟨h1,.inl ⟨hok,h2⟩⟩;clear hok C D;go_enter func184,ntmps184;go_wp2_with fail;generalize w.alloc (C2 p m T mod.length U)=M at *;go_fit B.o;rintro e n ⟨rfl,hb1⟩;have d:=zH (i.o.trans (hb1.mono l.o));clear hb1;go_wp2;go_ret2;exact P.o _ _ d.o rfl
 . have B := zH (fnew_ok p m mod T U _ C.o hok);have H:zK (∀ e w',zB w w'->checkZ (p.toNat ^ m.toNat) cols zs≠0->e=.returned (.tuple #[.pointer none,Y (checkZ (p.toNat ^ m.toNat) cols zs)])->OpenPost w p m mod cols zs e w'):=fun e w' h1 h2 h3=>⟨h1,.inr (.inl ⟨hok,h2,h3⟩)⟩;have I:zK (∀ gb e w',zB w w'->checkZ (p.toNat ^ m.toNat) cols zs=0->e=.returned (.tuple (Cm gb))->GFAt w' w'.heap.size gb p.toNat m.toNat (lOf p m mod) (logL (lOf p m mod) (p.toNat ^ m.toNat))->OpenPost w p m mod cols zs e w'):=fun gb e w' h1 h2 h3 h4=>⟨h1,.inr (.inr ⟨hok,h2,gb,h3,h4⟩)⟩;clear hok C;go_enter func184,ntmps184;go_wp2_with fail;generalize w.alloc (C2 p m T mod.length U)=M at *;go_fit B.o;rintro e n ⟨⟨gb,rfl,hgb0,hg⟩,hb1⟩;have d:=zH (i.o.trans (hb1.mono l.o));have L:zK (GFAt n n.heap.size gb p.toNat m.toNat (lOf p m mod) (logL (lOf p m mod) (p.toNat ^ m.toNat))):=hg;have E:=zH ((D.o.keep d.o).more d.o.size);have u:=zH ((d.o.block b r).trans t.o);have y:=Nat.lt_of_lt_of_le r d.o.size;clear hb1 hg hgb0 B t D i l r;clear M;go_wp2;go_loopw [20] (fun v20 wr=>RelO n (checkZ (p.toNat ^ m.toNat) cols zs) v20 wr) (fun v20 _=>1-(intOf v20).toNat);case atStart=>exact ⟨0,U0,rfl,Below.refl _ _,fun h=>U0⟩
   case round =>
    obtain⟨k,R,rfl,z,O⟩:=hrel;have f:=zH z;have Q:=zH O;clear z O;by_cases K:k=0
    . subst K;(have x:=zH<|qeL ((f.o.block b y).trans u.o));have j:zK (zB n (wr.alloc (C9 cols A zs.length c))):=f.o.alloc f.o.size _
      have v:zK (∀W:Wo,zB n W->zC 221 #[zP gb,Cp cols A zs.length c] W fun e w'=>e=.returned (Y (checkZ (p.toNat^m.toNat) cols zs))/\zB W w'):=
       fun W hW=>check_c gb p.toNat m.toNat n.heap.size _ _ cols zs A c W (L.o.keep hW) hW.size ((E.o.keep hW).more hW.size) X
      go_wp2_with (first|(refine wpList_load_mid rfl 60 (.tmp 22) rfl b 0 rfl [Y cols,zL A zs.length c] _ x.o underlying60 rfl matSize ?_)|(refine qaH rfl 60 (.tmp 9) (.tmp 23) rfl wr _ #[Y cols,zL A zs.length c] rfl rfl matSize rfl sc ?_));(with_reducible refine(v.o _ j.o).mono ?_);rintro e S ⟨rfl,hb3⟩;have s:=zH (j.o.trans (hb3.mono j.o.size));clear hb3 j v x;by_cases g:checkZ (p.toNat^m.toNat) cols zs=0
      . have q:=zH g;rw[g];clear g;go_wp2;go_roundw;case rel=>exact⟨1,U0,U3,s.o,fun _=>q.o⟩
        case measure=>simp[intOf]
      . have q:=zH g;(have N:(checkZ (p.toNat^m.toNat) cols zs != 0)=true:=by simp[g]);clear g;go_wp2;go_ret2;exact H.o _ _ (d.o.trans (s.o.mono d.o.size)) q.o rfl
    . (obtain rfl:k=1:=by omega);have J:=zH (Q.o rfl);go_wp2;go_ret2;exact I.o gb _ _ (d.o.trans (f.o.mono d.o.size)) J.o rfl ((L.o.keep f.o).more f.o.size)
def natR(zs:List LI):LL:=zs.map (·.map Int.toNat)
theorem natR_len(zs:List LI):(natR zs).length=zs.length:=by simp[natR]
theorem qfY{q:Nat}{cols:Int}{zs:List LI}(h:checkZ q cols zs=0):nzs (natR zs)=zs/\Grid q (natR zs).length cols.toNat (natR zs)/\0<=cols/\cols<=256/\zs.length<=256:=by
 unfold checkZ at h;by_cases g:cols<0\/256<cols\/256<zs.length
 . rw[if_pos g] at h;cases h
 . rw [if_neg g] at h;by_cases c:zs.all (fun r=>decide ((r.length:Int)=cols))=false
   . rw[if_pos c] at h;cases h
   . rw [if_neg c] at h;by_cases i:zs.all (elemsB q)=false
     . rw[if_pos i] at h;cases h
     . have d:=List.all_eq_true.1 ((Bool.not_eq_false _).mp c);have f:=List.all_eq_true.1 ((Bool.not_eq_false _).mp i);(have b:=fun r hr x hx=>by have j:=f r hr;unfold elemsB at j;have k:=List.all_eq_true.1 j x hx;unfold inB at k;simpa using k);refine⟨?_,⟨rfl,fun r hr=>?_⟩,U0,U0,U0⟩
       . unfold nzs natR;rw[List.map_map];(have:∀r∈zs,(nz ∘ fun x:LI=>x.map Int.toNat) r=r:=fun r hr=>by show nz (r.map Int.toNat)=r;unfold nz;rw[List.map_map];(have:∀x∈r,((fun x:Nat=>(x:Int)) ∘ Int.toNat) x=x:=fun x hx=>by have:=(b r hr x hx).1;show((x.toNat:Nat):Int)=x;omega);rw[List.map_congr_left this,List.map_id']);rw[List.map_congr_left this,List.map_id']
       . unfold natR at hr;obtain⟨s,l,rfl⟩:=List.mem_map.1 hr;have m:=d s l;refine⟨by simp at m ⊢;omega,fun x hx=>?_⟩;obtain⟨y,n,rfl⟩:=List.mem_map.1 hx;have:=b s l y n;omega
theorem field_ft{p m:Int}{mod:LI}(h:fieldOK p m mod=true):FT p.toNat m.toNat (mdOf m mod) (lOf p m mod):=by unfold fieldOK at h;rw[Bool.and_eq_true] at h;have b:=qeQ h.1;refine⟨b.small,genM_tab (qaV (by have:=b.small.p1;omega) b.small.m1 _) ?_⟩;intro e;rw[e] at h;simp at h
def canZ(p m:Int)(mod:LI)(cols:Int)(zs:List LI):LL:=canonM (opsT p.toNat m.toNat (lOf p m mod)) (natR zs) cols.toNat
def errC(p m:Int)(mod:LI)(cols:Int)(zs:List LI):Int:=if fieldOK p m mod=true then checkZ (p.toNat^m.toNat) cols zs else 1
def CanPost(w:Wo)(p m:Int)(mod:LI)(cols:Int)(zs:List LI)(e:Ending)(w':Wo):Prop:=
 zB w w'/\((errC p m mod cols zs≠0/\e=.returned (.tuple #[.agg #[Y 0,zL none 0 0],zL none 0 0,Y (errC p m mod cols zs)]))\/
  (errC p m mod cols zs=0/\∃(R:Nat)(VA:OA)(n ck:Nat),e=.returned (.tuple #[.agg #[Y cols,zS R (canZ p m mod cols zs).length (canZ p m mod cols zs).length],zL VA n ck,Y 0])/\zR w' (zO R) (nzs (canZ p m mod cols zs))))
structure Box4 (w:Wo) (p m:Int) (Am:OA) (n cm:Nat) (cols:Int) (A:OA) (nz c:Nat) (tt:TypeId) (r:Array Value) (W:Wo):Prop where
 below:zB w W
 size:w.heap.size+2<W.heap.size
 k0:W.heap[w.heap.size]?=some (.cells (C5 p m Am n cm).toArray 24 (0,0))
 k1:W.heap[w.heap.size+1]?=some (.cells [Y cols,zL A nz c].toArray 60 (0,0))
 k2:W.heap[w.heap.size+1+1]?=some (.cells r tt (0,0))
section
variable {w:Wo} {p m:Int} {Am:OA} {n cm:Nat} {cols:Int} {A:OA} {nz c:Nat} {tt:TypeId} {r:Array Value} {W W':Wo}
theorem Box4.keep(h:Box4 w p m Am n cm cols A nz c tt r W)(d:zB W W'):Box4 w p m Am n cm cols A nz c tt r W':=by have b:=h.size;exact⟨h.below.trans (d.mono U0),Nat.lt_of_lt_of_le b d.size,(d.block _ U0).trans h.k0,(d.block _ U0).trans h.k1,(d.block _ U0).trans h.k2⟩
theorem Box4.set(h:Box4 w p m Am n cm cols A nz c tt r W)(b:Array Value):Box4 w p m Am n cm cols A nz c tt b (W.setRow (w.heap.size+1+1) b):=
 ⟨qaR h.below U0 b,by simpa using h.size,(setRow_other W _ _ _ U0).trans h.k0,(setRow_other W _ _ _ U0).trans h.k1,setRow_same W _ _ _ b h.k2⟩
theorem box3(w:Wo)(p m:Int)(Am:OA)(n cm:Nat)(cols:Int)(A:OA)(nz c:Nat)(tt:TypeId)(r:Array Value):Box4 w p m Am n cm cols A nz c tt r
 (((w.alloc (C2 p m Am n cm)).alloc (C9 cols A nz c)).alloc (.cells r tt)):=by
 refine⟨(((zV.alloc zn _).alloc U2 _).alloc so _),U2,?_,?_,?_⟩
 . exact((Below.heap_alloc _ _ _ so).trans (Below.heap_alloc _ _ _ U2)).trans (heap_alloc_new _ _)
 . refine(Below.heap_alloc _ _ _ U2).trans ?_;have:=heap_alloc_new (w.alloc (C2 p m Am n cm)) (C9 cols A nz c);rw[show(w.alloc (C2 p m Am n cm)).heap.size=w.heap.size+1 by simp] at this;exact this
 . have:=heap_alloc_new ((w.alloc (C2 p m Am n cm)).alloc (C9 cols A nz c)) (.cells r tt);rw[show((w.alloc (C2 p m Am n cm)).alloc (C9 cols A nz c)).heap.size=w.heap.size+1+1 by simp] at this;exact this
end
theorem canonical_c(p m:Int)(mod:LI)(Am:OA)(cm:Nat)(cols:Int)(zs:List LI)(A:OA)(c:Nat)(w:Wo)(hM:zI w Am mod)(hl:mod.length<=9223372036854775807)(Z:zR w A zs)(X:zs.length<=9223372036854775807)(h1:1<=cols):
 zC 136 #[C4 p m Am mod.length cm,Cp cols A zs.length c] w (CanPost w p m mod cols zs):=by
 have s:=zH ((box3 w p m Am mod.length cm cols A zs.length c 60 (Cq)).keep (zV.alloc zn (C9 cols A zs.length c)));have x:zK (((((w.alloc (C2 p m Am mod.length cm)).alloc (C9 cols A zs.length c)).alloc (Cs)).alloc (C9 cols A zs.length c)).heap[w.heap.size+1+1+1]?=some (C9 cols A zs.length c)):=by have:=heap_alloc_new (((w.alloc (C2 p m Am mod.length cm)).alloc (C9 cols A zs.length c)).alloc (Cs)) (C9 cols A zs.length c);rw[show(((w.alloc (C2 p m Am mod.length cm)).alloc (C9 cols A zs.length c)).alloc (Cs)).heap.size=w.heap.size+1+1+1 by simp] at this;exact this
 have I:=zH hM;have B:=zH Z;clear hM Z;go_enter func136,ntmps136;go_wp2_with fail;generalize (((w.alloc (C2 p m Am mod.length cm)).alloc (C9 cols A zs.length c)).alloc (Cs)).alloc (C9 cols A zs.length c)=J at *;have H:=zH (open_c p m mod Am cm cols zs A c (w.heap.size+1+1+1) 1 J ((I.o.keep s.o.below).more s.o.below.size) hl ((B.o.keep s.o.below).more s.o.below.size) X x.o);go_fit H.o;rintro e h ⟨hb1,hcase⟩;have b:=zH (s.o.keep hb1);have t:=zH ((B.o.keep b.o.below).more b.o.below.size);clear s I B H x hb1;clear J;have f:zK (errC p m mod cols zs=if fieldOK p m mod=true then checkZ (p.toNat^m.toNat) cols zs else 1):=rfl;have k:=zH b.o.k2;rcases hcase with⟨d,rfl⟩|⟨d,r,rfl⟩|⟨d,r,S,rfl,L⟩
 . (have j:zK (errC p m mod cols zs=1):=by show _=_;rw[f.o,if_neg (by rw[d];simp)]);have i:=zH (b.o.set (Cq));clear d;go_wp2_with (refine wpList_store_row rfl 60 (.tmp 4) (.tmp 20) rfl h (w.heap.size+1+1) 60 (Cq) (Cq) rfl rfl k.o matSize rfl sc ?_);refine bodyPost_ret (qbV (P:=prog) rfl _ _ (w.heap.size+1+1) 60 (Cq) (0,0) _ _ _ rfl rfl rfl i.o.k2 underlying60 rfl matSize) rfl ?_;exact⟨i.o.below,.inl ⟨by rw[j.o];decide,by rw[j.o];rfl⟩⟩
 . (have j:zK (errC p m mod cols zs=checkZ (p.toNat^m.toNat) cols zs):=by show _=_;rw[f.o,if_pos d]);(have V:(checkZ (p.toNat^m.toNat) cols zs != 0)=true:=by simp[r]);have O:=zH r;have i:=zH (b.o.set (Cq));clear d r;go_wp2_with (refine wpList_store_row rfl 60 (.tmp 4) (.tmp 20) rfl h (w.heap.size+1+1) 60 (Cq) (Cq) rfl rfl k.o matSize rfl sc ?_);refine bodyPost_ret (qbV (P:=prog) rfl _ _ (w.heap.size+1+1) 60 (Cq) (0,0) _ _ _ rfl rfl rfl i.o.k2 underlying60 rfl matSize) rfl ?_;exact⟨i.o.below,.inl ⟨by rw[j.o];exact O.o,by rw[j.o];rfl⟩⟩
 . (have j:zK (errC p m mod cols zs=0):=by show _=_;rw[f.o,if_pos d,r]);obtain⟨q,z,T,U,E⟩:=qfY r;have N:=zH q;(have u:zK (zR h A (nzs (natR zs))):=by show RowsAt _ _ _ _;rw[q];exact t.o);have g:=zH (canon_c S h.heap.size p.toNat m.toNat cols.toNat (mdOf m mod) (lOf p m mod) (natR zs) A c h (field_ft d) L zn u.o z U0 U0 (by rw[natR_len];exact E));rw[natR_len,show((cols.toNat:Nat):Int)=cols by omega] at g;have C:zK (canonM (opsT p.toNat m.toNat (lOf p m mod)) (natR zs) cols.toNat=canZ p m mod cols zs):=rfl;rw[C.o] at g;have K:h.cell? (zA (w.heap.size+1) 0)=some (Y cols):=cell_of_row _ _ 0 _ _ _ b.o.k1;have Q:h.cell? (zA (w.heap.size+1) 1)=some (zL A zs.length c):=cell_of_row _ _ 1 _ _ _ b.o.k1;clear d r L q z t u;go_wp2_with fail;go_fit g.o;rintro e M ⟨⟨R,VA,n,ck,rfl,hra⟩,hb2⟩;have l:=zH (b.o.keep hb2);have D:=zH hra;have v:=zH l.o.k2;have y:w.heap.size+1+1<h.heap.size:=b.o.size;clear hra hb2 g k b K Q;have K:M.cell? (zA (w.heap.size+1) 0)=some (Y cols):=cell_of_row _ _ 0 _ _ _ l.o.k1;have i:=zH (l.o.set (Cl cols R (canZ p m mod cols zs).length (canZ p m mod cols zs).length));go_wp2_with (refine wpList_store_row rfl 60 (.tmp 4) (.tmp 34) rfl M (w.heap.size+1+1) 60 (Cq) (Cl cols R (canZ p m mod cols zs).length (canZ p m mod cols zs).length) rfl rfl v.o matSize rfl sc ?_);refine bodyPost_ret (qbV (P:=prog) rfl _ _ (w.heap.size+1+1) 60 (Cl cols R (canZ p m mod cols zs).length (canZ p m mod cols zs).length) (0,0) _ _ _ rfl rfl rfl i.o.k2 underlying60 rfl matSize) rfl ?_;exact⟨i.o.below,.inr ⟨j.o,R,VA,n,ck,rfl,(D.o.setRow y _).rowsAt⟩⟩
theorem viewSize:(prog.info? 117).map (·.size)=some 4:=U1
def spZ(p m:Int)(mod:LI)(cols:Int)(zs:List LI):Int:=if errC p m mod cols zs≠0 then errC p m mod cols zs else if nzs (canZ p m mod cols zs)=zs then 0 else 5
def SpPost(w:Wo)(z:Int)(e:Ending)(w':Wo):Prop:=
 zB w w'/\∃v0 v1 v2 v3:Value,#[v0,v1,v2,v3].all (·.oneCell')=true/\e=.returned (.tuple #[.agg #[v0,v1,v2,v3],Y z])
theorem canZ_rows{p m:Int}{mod:LI}{cols:Int}{zs:List LI}(h:errC p m mod cols zs=0)(k:Nat)(j:k<(nzs (canZ p m mod cols zs)).length):((nzs (canZ p m mod cols zs)).getD k []).length<=9223372036854775807:=by
 have b:fieldOK p m mod=true:=by
  unfold errC at h;split at h
  . assumption
  . cases h
 unfold errC at h;rw[if_pos b] at h;obtain⟨_,c,_,f,_⟩:=qfY h;have g:=(qdT (qdA (field_ft b)) c cols.toNat zn).2;rw[nzs_len] at j;have d:k<(elGo (opsT p.toNat m.toNat (lOf p m mod)) (natR zs) cols.toNat).piv.length:=by have:=canonM_len (opsT p.toNat m.toNat (lOf p m mod)) (natR zs) cols.toNat;unfold canZ at j;omega
 have e:(canZ p m mod cols zs).getD k []=(elGo (opsT p.toNat m.toNat (lOf p m mod)) (natR zs) cols.toNat).rows.getD k []:=qfB _ _ _ _ d;have:=(qeN (O:=opsT p.toNat m.toNat (lOf p m mod)) (natR zs) cols.toNat).2;rw[nzs_getD,qaA,e,(g.row (i:=k) U0).1];omega
theorem canZ_len{p m:Int}{mod:LI}{cols:Int}{zs:List LI}(h:errC p m mod cols zs=0):(nzs (canZ p m mod cols zs)).length<=256:=by
 have b:fieldOK p m mod=true:=by
  unfold errC at h;split at h
  . assumption
  . cases h
 unfold errC at h;rw[if_pos b] at h;obtain⟨_,d,_,_,g⟩:=qfY h;rw[nzs_len];have f:=canonM_len (opsT p.toNat m.toNat (lOf p m mod)) (natR zs) cols.toNat;have c:=(qeN (O:=opsT p.toNat m.toNat (lOf p m mod)) (natR zs) cols.toNat).2;rw[natR_len] at c;unfold canZ;omega
theorem sopen_c(p m:Int)(mod:LI)(Am:OA)(cm:Nat)(cols:Int)(zs:List LI)(A:OA)(c:Nat)(w:Wo)(hM:zI w Am mod)(hl:mod.length<=9223372036854775807)(hA:zR w A zs)(aa:zs.length<=9223372036854775807)(h1:1<=cols):
 zC 92 #[C4 p m Am mod.length cm,Cp cols A zs.length c] w (SpPost w (spZ p m mod cols zs)):=by
 have x:=zH (box3 w p m Am mod.length cm cols A zs.length c 117 (Ck none));have S:=zH hM;have L:=zH hA;clear hM hA;go_enter func92,ntmps92;go_wp2_with fail;generalize ((w.alloc (C2 p m Am mod.length cm)).alloc (C9 cols A zs.length c)).alloc (.cells #[.pointer none,Y 0,zL none 0 0,zL none 0 0] 117)=V at *;have U:=zH (canonical_c p m mod Am cm cols zs A c V ((S.o.keep x.o.below).more x.o.below.size) hl ((L.o.keep x.o.below).more x.o.below.size) aa h1);go_fit U.o;rintro e s ⟨hb1,hcase⟩;have t:=zH (x.o.keep hb1);clear x U hb1;clear V;rcases hcase with⟨i,rfl⟩|⟨i,R,J,n,K,rfl,H⟩
 . (have B:zK (spZ p m mod cols zs=errC p m mod cols zs):=by show _=_;unfold spZ;rw[if_pos i]);(have Z:(errC p m mod cols zs != 0)=true:=by simp[i]);clear i;have E:=zH (t.o.keep (zV.alloc zn (Cs)));go_upto_region 2 with(refine qaH rfl 60 (.tmp 6) (.tmp 14) rfl s _ (Cq) rfl rfl matSize rfl sc ?_);generalize s.alloc (Cs)=y at *;have N:=zH E.o.k2;have r:=zH (E.o.set (Ck none));go_wp2_with (refine wpList_store_row rfl 117 (.tmp 4) (.tmp 19) rfl y (w.heap.size+1+1) 117 (Ck none) (Ck none) rfl rfl N.o viewSize rfl sc ?_);refine bodyPost_ret (results_row_one (P:=prog) rfl _ _ (w.heap.size+1+1) 117 (Ck none) (0,0) _ _ rfl rfl r.o.k2 underlying117 rfl viewSize) rfl ?_;exact⟨r.o.below,.pointer none,Y 0,zL none 0 0,zL none 0 0,sc,by rw[B.o];rfl⟩
 . have D := zH H;have q:=zH (canZ_rows i);have v:fieldOK p m mod=true:=by
    unfold errC at i;split at i
    . assumption
    . cases i
   (have k:zK (spZ p m mod cols zs=if nzs (canZ p m mod cols zs)=zs then 0 else 5):=by show _=_;unfold spZ;rw[if_neg (by simp[i])]);have T:=zH i;clear i H;(have M:(nzs (canZ p m mod cols zs)).length<=9223372036854775807:=by have:=canZ_len T.o;omega);generalize canZ p m mod cols zs=b at *;have g:=zH (t.o.keep (zV.alloc zn (.cells #[Y cols,zS R b.length b.length] 60)));have l:zK (RowsAt (s.alloc (.cells #[Y cols,zS R b.length b.length] 60)) (s.alloc (.cells #[Y cols,zS R b.length b.length] 60)).heap.size (zO R) (nzs b)):=(D.o.keep (zV.alloc zn _)).more U2;have C:zK ((s.alloc (.cells #[Y cols,zS R b.length b.length] 60)).cell? (zA s.heap.size 1)=some (zS R b.length b.length)):=World.cell?_alloc_new _ _ _ 1;go_upto_region 4 with(refine qaH rfl 60 (.tmp 6) (.tmp 14) rfl s _ (Cl cols R b.length b.length) rfl rfl matSize rfl sc ?_);generalize s.alloc (.cells #[Y cols,zS R b.length b.length] 60)=y at *;have W:=C.o;have X:y.cell? (zA (w.heap.size+1) 1)=some (zL A zs.length c):=cell_of_row _ _ 1 _ _ _ g.o.k1;have f:=zH (sequalf_c (nzs b) zs (zO R) A b.length c y l.o ((L.o.keep g.o.below).more g.o.below.size) M q.o);rw[nzs_len] at f;clear q D l C t;by_cases h:nzs b=zs
   . rw[decide_eq_true h] at f;(have B:zK (spZ p m mod cols zs=0):=by show _=_;rw[k.o,if_pos h]);clear h k;go_wp2_with fail;go_fit f.o;rintro e I ⟨rfl,n3,rfl⟩;have d:=zH (g.o.keep (qaB zV n3));clear W X g f;generalize y.drewN n3=I at *;have j:=zH (qeL d.o.k0);have z:=zH (fnew_ok p m mod Am cm I ((S.o.keep d.o.below).more d.o.below.size) v);clear v S L;go_wp2_with (refine wpList_load_mid rfl 24 (.tmp 2) rfl w.heap.size 0 rfl (C5 p m Am mod.length cm) _ j.o underlying24 rfl fieldSize ?_);go_fit z.o;rintro e w4 ⟨⟨gb,rfl,hgb0,hg⟩,hb4⟩;have u:=zH (d.o.keep hb4);clear hgb0 hg hb4 z d j;have j:=zH (qeL u.o.k1);have Q:=zH u.o.k2;have r:=zH (u.o.set #[zP gb,Y cols,zL A zs.length c,zL J n K]);go_wp2_with (first|(refine wpList_load_mid rfl 60 (.tmp 3) rfl (w.heap.size+1) 0 rfl [Y cols,zL A zs.length c] _ j.o underlying60 rfl matSize ?_)|(refine wpList_store_row rfl 117 (.tmp 4) (.tmp 36) rfl w4 (w.heap.size+1+1) 117 (Ck none) #[zP gb,Y cols,zL A zs.length c,zL J n K] rfl rfl Q.o viewSize rfl sc ?_));refine bodyPost_ret (results_row_one (P:=prog) rfl _ _ (w.heap.size+1+1) 117 #[zP gb,Y cols,zL A zs.length c,zL J n K] (0,0) _ _ rfl rfl r.o.k2 underlying117 rfl viewSize) rfl ?_;exact⟨r.o.below,zP gb,Y cols,zL A zs.length c,zL J n K,sc,by rw[B.o];rfl⟩
   . rw[decide_eq_false h] at f;(have B:zK (spZ p m mod cols zs=5):=by show _=_;rw[k.o,if_neg h]);clear h k v;go_wp2_with fail;go_fit f.o;rintro e I ⟨rfl,n3,rfl⟩;have d:=zH (g.o.keep (qaB zV n3));clear W X g f;generalize y.drewN n3=I at *;have O:=zH d.o.k2;have r:=zH (d.o.set (Ck none));go_wp2_with (refine wpList_store_row rfl 117 (.tmp 4) (.tmp 27) rfl I (w.heap.size+1+1) 117 (Ck none) (Ck none) rfl rfl O.o viewSize rfl sc ?_);refine bodyPost_ret (results_row_one (P:=prog) rfl _ _ (w.heap.size+1+1) 117 (Ck none) (0,0) _ _ rfl rfl r.o.k2 underlying117 rfl viewSize) rfl ?_;exact⟨r.o.below,.pointer none,Y 0,zL none 0 0,zL none 0 0,sc,by rw[B.o];rfl⟩
theorem scheck_c(p m:Int)(mod:LI)(Am:OA)(cm:Nat)(cols:Int)(zs:List LI)(A:OA)(c:Nat)(w:Wo)(t:zI w Am mod)(v:mod.length<=9223372036854775807)(s:zR w A zs)(q:zs.length<=9223372036854775807)(u:1<=cols):
 zC 42 #[C4 p m Am mod.length cm,Cp cols A zs.length c] w fun e w'=>e=.returned (Y (spZ p m mod cols zs))/\zB w w':=by have b:zK (zB w ((w.alloc (C2 p m Am mod.length cm)).alloc (C9 cols A zs.length c))):=(zV.alloc zn _).alloc U2 _;have i:=zH t;have g:=zH s;clear t s;go_enter func42,ntmps42;go_wp2_with fail;generalize (w.alloc (C2 p m Am mod.length cm)).alloc (C9 cols A zs.length c)=j at *;have h:=zH (sopen_c p m mod Am cm cols zs A c j ((i.o.keep b.o).more b.o.size) v ((g.o.keep b.o).more b.o.size) q u);go_fit h.o;rintro e k ⟨hb1,v0,v1,v2,v3,hv,rfl⟩;have d:=zH (b.o.trans (hb1.mono b.o.size));have l:=zH hv;clear hb1 hv h i g b;clear j;have f:zK (zB w (k.alloc (.cells #[v0,v1,v2,v3] 117))):=d.o.alloc d.o.size _;go_wp2_with (refine qaH rfl 117 (.tmp 5) (.tmp 11) rfl k _ #[v0,v1,v2,v3] rfl rfl viewSize rfl l.o ?_);go_ret;exact⟨rfl,f.o⟩
end Go.Proofs.YtflejelbdlelpaaGreat
