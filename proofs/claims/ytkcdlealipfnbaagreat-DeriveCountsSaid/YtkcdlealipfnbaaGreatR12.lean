/- Parts of the proof. -/
import Derived.Test.YtkcdlealipfnbaaGreatR11
import Derived.Test.YtkcdlealipfnbaaGreatR10
set_option maxRecDepth 100000
set_option maxHeartbeats 8000000
namespace Go.Proofs.YtkcdlealipfnbaaGreat
open Go.RowKit Pln Go.Proofs.Tryz
theorem canonM_len(O:Ops)(rows:LL)(cols:Nat):(canonM O rows cols).length=(elGo O rows cols).piv.length:=by unfold canonM;rw[List.length_take,qfD];have:=(elGo_piv (O:=O) rows cols).2;omega
theorem qfB(O:Ops)(rows:LL)(cols i:Nat)(b:i<(elGo O rows cols).piv.length):(canonM O rows cols).getD i []=(elGo O rows cols).rows.getD i []:=by unfold canonM;simp only[List.getD];rw[List.getElem?_take_of_lt b]
theorem own_slice{w:Wo}{base n:Nat}{v:Value}{f:List Value}(h:w.ownsRow base 3 1 v n f):∃VA ck,v=zL VA n ck:=by
 rcases h.2 with⟨b,c⟩|⟨g,cap,cur,d,_⟩
 . subst c;exact⟨_,_,b⟩
 . exact⟨_,_,d⟩
def RowsUp(w:Wo)(lo:Nat)(A:OA)(zs:List LI):Prop:=
 0<zs.length->∃b o,A=some (zA b o)/\lo<=b/\b<w.heap.size/\∀i,i<zs.length->∃(bi oi ci:Nat),w.cell? (zA b (o+i))=some (zL (some (zA bi oi)) (zs.getD i []).length ci)/\lo<=bi/\bi<w.heap.size/\∀j,j<(zs.getD i []).length->w.cell? (zA bi (oi+j))=some (Y ((zs.getD i []).getD j 0))
theorem RowsUp.rowsAt{w:Wo}{lo:Nat}{A:OA}{zs:List LI}(h:RowsUp w lo A zs):zR w A zs:=fun hz=>by
 obtain⟨b,o,e,_,c,l⟩:=h hz
 refine⟨b,o,e,c,fun i hi=>?_⟩
 obtain⟨d,m,f,g,_,j,k⟩:=l i hi
 exact⟨_,f,g,fun _=>⟨d,m,rfl,j,k⟩⟩
theorem RowsUp.of_blocks{w w':Wo}{lo:Nat}{A:OA}{zs:List LI}(h:RowsUp w lo A zs)(u:w.heap.size<=w'.heap.size)(t:∀k,lo<=k->k<w.heap.size->w'.heap[k]?=w.heap[k]?):RowsUp w' lo A zs:=fun hz=>by
 have c:∀b o,lo<=b->b<w.heap.size->w'.cell? (zA b o)=w.cell? (zA b o):=fun b o g f=>by
  unfold World.cell?
  rw[t b g f]
 obtain⟨b,o,e,d,l,r⟩:=h hz
 refine⟨b,o,e,d,U0,fun i hi=>?_⟩
 obtain⟨m,s,n,g,f,p,q⟩:=r i hi
 exact⟨m,s,n,(c b _ d l).trans g,f,U0,fun j hj=>(c m _ f p).trans (q j hj)⟩
theorem RowsUp.setRow{w:Wo}{lo:Nat}{A:OA}{zs:List LI}(h:RowsUp w lo A zs){g:Nat}(b:g<lo)(cs:Array Value):RowsUp (w.setRow g cs) lo A zs:=
 h.of_blocks U2 fun k hk _=>setRow_other w g k cs U0
theorem GridAt.rowsAt{w:Wo}{B R f:Nat}{rows:LL}{c:List (Nat × Nat)}(h:GridAt w B R f rows c)(zs:LL)(g:zs.length<=rows.length)(d:∀i,i<zs.length->zs.getD i []=rows.getD i []):RowsUp w B (zO R) (nzs zs):=by
 intro _;refine⟨R,0,rfl,h.lt.1,h.lt.2,fun i hi=>?_⟩;rw[nzs_len] at hi;have b:=h.row i U0;refine⟨bk c i,0,cp c i,?_,b.lt.1,b.lt.2,fun j hj=>?_⟩
 . rw[Nat.zero_add,nzs_getD,qaA,d i hi];exact h.cell U0
 . rw[nzs_getD,d i hi] at hj ⊢;rw[Nat.zero_add];exact b.cell hj
theorem canon_c(gb Bg p m cols:Nat)(md l:LN)(rows:LL)(A:OA)(c:Nat)(w:Wo)(I:FT p m md l)(J:GFAt w Bg gb p m l (logL l (p^m)))(E:Bg<=w.heap.size)(H:zR w A (nzs rows))(D:Grid (p^m) rows.length cols rows)(M:1<=cols)(K:cols<=256)(L:rows.length<=256):
 zC 194 #[zP gb,zL A rows.length c,Y cols] w fun e w'=>(∃(R:Nat)(VA:OA)(n ck:Nat),e=.returned (.tuple #[zS R (canonM (opsT p m l) rows cols).length (canonM (opsT p m l) rows cols).length,zL VA n ck])/\RowsUp w' w.heap.size (zO R) (nzs (canonM (opsT p m l) rows cols)))/\zB w w':=by
 have g:=zH (clone_c rows A c w H (fun r hr=>by have:=(D.2 r hr).1;omega) U0)
 have h:zK (∀(bs:List (Nat × Nat))(b:Wo),zB w b->GridAt b w.heap.size w.heap.size rows.length rows bs->zC 232 #[zP gb,zS w.heap.size rows.length rows.length,Y cols,zL none 0 0] b (ElPost b w.heap.size w.heap.size rows.length p m l rows cols)):=
  fun bs b hb hg=>eliminate_c w.heap.size w.heap.size rows.length gb Bg p m cols md l rows bs b I (J.keep (hb.mono E)) E hb.size hg D L K
 have q:=zH (canonM_len (opsT p m l) rows cols);have f:=zH (elGo_piv (O:=opsT p m l) rows cols);have s:=zH (qfD (O:=opsT p m l) rows cols);have j:=zH (qfB (opsT p m l) rows cols);clear I J H D;generalize canonM (opsT p m l) rows cols=B at *;go_enter func194,ntmps194;go_wp2_with fail;go_fit g.o;rintro e b ⟨rfl,⟨bs,hg⟩,hb⟩;have y:=zH hg;have x:=zH hb;clear hg hb;go_wp2_with fail;(with_reducible refine(h.o bs b x.o y.o).mono ?_);rintro e C ⟨⟨vp,d,bs2,rfl,hown,hgrid⟩,hb2⟩;obtain⟨VA,ck,rfl⟩:=own_slice hown;have k:=zH hgrid;have t:=zH (x.o.trans hb2);clear hown hgrid hb2;have z:=zH<|k.o.rowsAt B (by rw[q.o,s.o];exact f.o.2) (fun i hi=>j.o i (by rw[<- q.o];exact hi))
 have v:=f.o.2;rw[<- q.o] at v;have u:=zH q.o.symm;clear q f s j g h k;rw[u.o];go_wp2;go_ret2;exact⟨⟨_,_,_,_,rfl,z.o⟩,t.o⟩
section
variable {P:Program}
theorem wpList_store_row{f:Array Oper}{rest:List Oper}{o:Oper}{a:Act}{Q:Exit->Act->Wo->Prop}(g:o.guard=none)(i:TypeId)(x y:Operand)(m:o.op=.store i x y)(w:Wo)(b:Nat)(t:TypeId)(c d:Array Value)(p:a.eval x=zP b)(q:a.eval y=.agg d)(k:w.heap[b]?=some (.cells c t (0,0)))(l:(P.info? i).map (·.size)=some d.size)(n:c.size=d.size)(j:d.all (·.oneCell')=true)(h:wpList P f Q rest (a.put o.dst undef) (w.setRow b d)):wpList P f Q (o :: rest) a w:=
 wpList_plain g fun _ hK=>by
  unfold Oper.wp execOp
  simp only[m,p,q,Instr.storeAt,Instr.sureAddr,Sem.run_bind,Sem.run_pure,Result.andThen_ok,run_storeVar_row w b t i c d k l n j]
  exact hK _ _ h
end
theorem qbV{P:Program}{fn:Func}{p q r:Tmp}{i:TypeId}(h:fn.results=#[.cell p i,.tmp q,.tmp r])(tmps:Array Value)(w:Wo)(g:Nat)(t:TypeId)(cs:Array Value)(fr:Nat × Nat)(d:TypeDesc)(u v:Value)(l:tmps.getD p undef=zP g)(m:tmps.getD q undef=u)(n:tmps.getD r undef=v)(j:w.heap[g]?=some (.cells cs t fr))(o:P.underlying i=some d)(hd:(match d with|.struct _|.array _ _=>true|_=>false)=true)(k:(P.info? i).map (·.size)=some cs.size):
 (results fn tmps).run P w=.ok (.tuple #[.agg cs,u,v]) w:=by
 have b:tmps[p]?.getD undef=zP g:=by simpa using l
 have c:tmps[q]?.getD undef=u:=by simpa using m
 have f:tmps[r]?.getD undef=v:=by simpa using n
 simp[results,h,b,c,f,asAddr,run_loadVar_row w g t i cs fr d j o hd k]
theorem results_row_one{P:Program}{fn:Func}{p q:Tmp}{f:TypeId}(h:fn.results=#[.cell p f,.tmp q])(tmps:Array Value)(w:Wo)(g:Nat)(t:TypeId)(cs:Array Value)(fr:Nat × Nat)(d:TypeDesc)(u:Value)(k:tmps.getD p undef=zP g)(l:tmps.getD q undef=u)(i:w.heap[g]?=some (.cells cs t fr))(m:P.underlying f=some d)(hd:(match d with|.struct _|.array _ _=>true|_=>false)=true)(j:(P.info? f).map (·.size)=some cs.size):
 (results fn tmps).run P w=.ok (.tuple #[.agg cs,u]) w:=by
 have b:tmps[p]?.getD undef=zP g:=by simpa using k
 have c:tmps[q]?.getD undef=u:=by simpa using l
 simp[results,h,b,c,asAddr,run_loadVar_row w g t f cs fr d i m hd j]
theorem setRow_same(w:Wo)(b:Nat)(t:TypeId)(c d:Array Value)(f:w.heap[b]?=some (.cells c t (0,0))):(w.setRow b d).heap[b]?=some (.cells d t (0,0)):=by simp[World.setRow,Array.getElem?_modify,f]
theorem matSize:(prog.info? 54).map (·.size)=some 2:=U1
def lOf(p m:Int)(mod:LI):LN:=genM (mulM p.toNat m.toNat (mdOf m mod)) (p.toNat^m.toNat)
def OpenPost(w:Wo)(p m:Int)(mod:LI)(cols:Int)(zs:List LI)(e:Ending)(w':Wo):Prop:=
 zB w w'/\((fieldOK p m mod=false/\e=.returned (.tuple #[.pointer none,Y 1]))\/
  (fieldOK p m mod=true/\checkZ (p.toNat^m.toNat) cols zs≠0/\e=.returned (.tuple #[.pointer none,Y (checkZ (p.toNat^m.toNat) cols zs)]))\/
  (fieldOK p m mod=true/\checkZ (p.toNat^m.toNat) cols zs=0/\∃gb,e=.returned (.tuple (Cq gb))/\GFAt w' w'.heap.size gb p.toNat m.toNat (lOf p m mod) (logL (lOf p m mod) (p.toNat^m.toNat))))
def RelO(w1:Wo)(z:Int)(v20:Value)(wr:Wo):Prop:=∃k:Nat,k<=1/\v20=Y k/\zB w1 wr/\(k=1->z=0)
theorem open_c(p m:Int)(mod:LI)(T:OA)(U:Nat)(cols:Int)(zs:List LI)(A:OA)(c b cb:Nat)(w:Wo)(hM:zI w T mod)(hl:mod.length<=9223372036854775807)(Z:zR w A zs)(X:zs.length<=9223372036854775807)(V:w.heap[b]?=some (Cc cols A zs.length c)):
 zC 193 #[C6 p m T mod.length U,zS b 1 cb] w (OpenPost w p m mod cols zs):=by
 have i:zK (zB w (w.alloc (C3 p m T mod.length U))):=zV.alloc zn _;have l:zK (w.heap.size<=(w.alloc (C3 p m T mod.length U)).heap.size):=by show _<=_;simp
 have C:=zH ((hM.keep i.o).more l.o);have D:=zH Z;have t:=zH V;have q:=block_lt V;clear hM Z V;cases hok:fieldOK p m mod
 . have B:=zH (fnew_no p m mod T U _ C.o hl hok);have P:zK (∀e w',zB w w'->e=.returned (.tuple #[.pointer none,Y 1])->OpenPost w p m mod cols zs e w'):=fun e w' h1 h2=>⟨h1,.inl ⟨hok,h2⟩⟩;clear hok C D;go_enter func193,ntmps193;go_wp2_with fail;generalize w.alloc (C3 p m T mod.length U)=M at *;go_fit B.o;rintro e r ⟨rfl,hb1⟩;have d:=zH (i.o.trans (hb1.mono l.o));clear hb1;go_wp2;go_ret2;exact P.o _ _ d.o rfl
 . have B := zH (fnew_ok p m mod T U _ C.o hok);have H:zK (∀ e w',zB w w'->checkZ (p.toNat ^ m.toNat) cols zs≠0->e=.returned (.tuple #[.pointer none,Y (checkZ (p.toNat ^ m.toNat) cols zs)])->OpenPost w p m mod cols zs e w'):=fun e w' h1 h2 h3=>⟨h1,.inr (.inl ⟨hok,h2,h3⟩)⟩;have I:zK (∀ gb e w',zB w w'->checkZ (p.toNat ^ m.toNat) cols zs=0->e=.returned (.tuple (Cq gb))->GFAt w' w'.heap.size gb p.toNat m.toNat (lOf p m mod) (logL (lOf p m mod) (p.toNat ^ m.toNat))->OpenPost w p m mod cols zs e w'):=fun gb e w' h1 h2 h3 h4=>⟨h1,.inr (.inr ⟨hok,h2,gb,h3,h4⟩)⟩;clear hok C;go_enter func193,ntmps193;go_wp2_with fail;generalize w.alloc (C3 p m T mod.length U)=M at *;go_fit B.o;rintro e r ⟨⟨gb,rfl,hgb0,hg⟩,hb1⟩;have d:=zH (i.o.trans (hb1.mono l.o));have L:zK (GFAt r r.heap.size gb p.toNat m.toNat (lOf p m mod) (logL (lOf p m mod) (p.toNat ^ m.toNat))):=hg;have E:=zH ((D.o.keep d.o).more d.o.size);have u:=zH ((d.o.block b q).trans t.o);have y:=Nat.lt_of_lt_of_le q d.o.size;clear hb1 hg hgb0 B t D i l q;clear M;go_wp2;go_loopw [20] (fun v20 wr=>RelO r (checkZ (p.toNat ^ m.toNat) cols zs) v20 wr) (fun v20 _=>1-(intOf v20).toNat);case atStart=>exact ⟨0,U0,rfl,Below.refl _ _,fun h=>U0⟩
   case round =>
    obtain⟨k,R,rfl,z,O⟩:=hrel;have f:=zH z;have Q:=zH O;clear z O;by_cases K:k=0
    . subst K;(have x:=zH<|range_of_row ((f.o.block b y).trans u.o));have j:zK (zB r (wr.alloc (Cc cols A zs.length c))):=f.o.alloc f.o.size _
      have v:=zH <|
       fun W hW=>check_c gb p.toNat m.toNat r.heap.size _ _ cols zs A c W (L.o.keep hW) hW.size ((E.o.keep hW).more hW.size) X
      go_wp2_with (first|(refine wpList_load_mid rfl 54 (.tmp 22) rfl b 0 rfl [Y cols,zL A zs.length c] _ x.o underlying54 rfl matSize ?_)|(refine qaH rfl 54 (.tmp 9) (.tmp 23) rfl wr _ #[Y cols,zL A zs.length c] rfl rfl matSize rfl sc ?_));(with_reducible refine(v.o _ j.o).mono ?_);rintro e S ⟨rfl,hb3⟩;have s:=zH (j.o.trans (hb3.mono j.o.size));clear hb3 j v x;by_cases g:checkZ (p.toNat^m.toNat) cols zs=0
      . have n:=zH g;rw[g];clear g;go_wp2;go_roundw;case rel=>exact⟨1,U0,U3,s.o,fun _=>n.o⟩
        case measure=>simp[intOf]
      . have n:=zH g;(have N:(checkZ (p.toNat^m.toNat) cols zs != 0)=true:=by simp[g]);clear g;go_wp2;go_ret2;exact H.o _ _ (d.o.trans (s.o.mono d.o.size)) n.o rfl
    . (obtain rfl:k=1:=by omega);have J:=zH (Q.o rfl);go_wp2;go_ret2;exact I.o gb _ _ (d.o.trans (f.o.mono d.o.size)) J.o rfl ((L.o.keep f.o).more f.o.size)
def natR(zs:List LI):LL:=zs.map (·.map Int.toNat)
theorem natR_len(zs:List LI):(natR zs).length=zs.length:=by simp[natR]
theorem check_grid{q:Nat}{cols:Int}{zs:List LI}(h:checkZ q cols zs=0):nzs (natR zs)=zs/\Grid q (natR zs).length cols.toNat (natR zs)/\0<=cols/\cols<=256/\zs.length<=256:=by
 unfold checkZ at h;by_cases g:cols<0\/256<cols\/256<zs.length
 . rw[if_pos g] at h;cases h
 . rw [if_neg g] at h;by_cases c:zs.all (fun r=>decide ((r.length:Int)=cols))=false
   . rw[if_pos c] at h;cases h
   . rw [if_neg c] at h;by_cases i:zs.all (elemsB q)=false
     . rw[if_pos i] at h;cases h
     . have d:=List.all_eq_true.1 ((Bool.not_eq_false _).mp c);have f:=List.all_eq_true.1 ((Bool.not_eq_false _).mp i);(have b:=fun r hr x hx=>by have j:=f r hr;unfold elemsB at j;have k:=List.all_eq_true.1 j x hx;unfold inB at k;simpa using k);refine⟨?_,⟨rfl,fun r hr=>?_⟩,U0,U0,U0⟩
       . unfold nzs natR;rw[List.map_map];(have:∀r∈zs,(nz ∘ fun x:LI=>x.map Int.toNat) r=r:=fun r hr=>by show nz (r.map Int.toNat)=r;unfold nz;rw[List.map_map];(have:∀x∈r,((fun x:Nat=>(x:Int)) ∘ Int.toNat) x=x:=fun x hx=>by have:=(b r hr x hx).1;show((x.toNat:Nat):Int)=x;omega);rw[List.map_congr_left this,List.map_id']);rw[List.map_congr_left this,List.map_id']
       . unfold natR at hr;obtain⟨s,l,rfl⟩:=List.mem_map.1 hr;have m:=d s l;refine⟨by simp at m ⊢;omega,fun x hx=>?_⟩;obtain⟨y,n,rfl⟩:=List.mem_map.1 hx;have:=b s l y n;omega
theorem field_ft{p m:Int}{mod:LI}(h:fieldOK p m mod=true):FT p.toNat m.toNat (mdOf m mod) (lOf p m mod):=by unfold fieldOK at h;rw[Bool.and_eq_true] at h;have b:=shape_is h.1;refine⟨b.small,genM_tab (qaV (by have:=b.small.p1;omega) b.small.m1 _) ?_⟩;intro e;rw[e] at h;simp at h
def canZ(p m:Int)(mod:LI)(cols:Int)(zs:List LI):LL:=canonM (opsT p.toNat m.toNat (lOf p m mod)) (natR zs) cols.toNat
def errC(p m:Int)(mod:LI)(cols:Int)(zs:List LI):Int:=if fieldOK p m mod=true then checkZ (p.toNat^m.toNat) cols zs else 1
def CanPost(w:Wo)(p m:Int)(mod:LI)(cols:Int)(zs:List LI)(e:Ending)(w':Wo):Prop:=
 zB w w'/\((errC p m mod cols zs≠0/\e=.returned (.tuple #[.agg #[Y 0,zL none 0 0],zL none 0 0,Y (errC p m mod cols zs)]))\/
  (errC p m mod cols zs=0/\∃(R:Nat)(VA:OA)(n ck:Nat),e=.returned (.tuple #[.agg #[Y cols,zS R (canZ p m mod cols zs).length (canZ p m mod cols zs).length],zL VA n ck,Y 0])/\zR w' (zO R) (nzs (canZ p m mod cols zs))))
structure Box4 (w:Wo) (p m:Int) (Am:OA) (n cm:Nat) (cols:Int) (A:OA) (nz c:Nat) (tt:TypeId) (r:Array Value) (W:Wo):Prop where
 below:zB w W
 size:w.heap.size+2<W.heap.size
 k0:W.heap[w.heap.size]?=some (.cells (C7 p m Am n cm).toArray 29 (0,0))
 k1:W.heap[w.heap.size+1]?=some (.cells [Y cols,zL A nz c].toArray 54 (0,0))
 k2:W.heap[w.heap.size+1+1]?=some (.cells r tt (0,0))
section
variable {w:Wo} {p m:Int} {Am:OA} {n cm:Nat} {cols:Int} {A:OA} {nz c:Nat} {tt:TypeId} {r:Array Value} {W W':Wo}
theorem Box4.keep(h:Box4 w p m Am n cm cols A nz c tt r W)(d:zB W W'):Box4 w p m Am n cm cols A nz c tt r W':=by have b:=h.size;exact⟨h.below.trans (d.mono U0),Nat.lt_of_lt_of_le b d.size,(d.block _ U0).trans h.k0,(d.block _ U0).trans h.k1,(d.block _ U0).trans h.k2⟩
theorem Box4.set(h:Box4 w p m Am n cm cols A nz c tt r W)(b:Array Value):Box4 w p m Am n cm cols A nz c tt b (W.setRow (w.heap.size+1+1) b):=
 ⟨qaR h.below U0 b,by simpa using h.size,(setRow_other W _ _ _ U0).trans h.k0,(setRow_other W _ _ _ U0).trans h.k1,setRow_same W _ _ _ b h.k2⟩
theorem box3(w:Wo)(p m:Int)(Am:OA)(n cm:Nat)(cols:Int)(A:OA)(nz c:Nat)(tt:TypeId)(r:Array Value):Box4 w p m Am n cm cols A nz c tt r
 (((w.alloc (C3 p m Am n cm)).alloc (Cc cols A nz c)).alloc (.cells r tt)):=by
 refine⟨(((zV.alloc zn _).alloc U2 _).alloc so _),U2,?_,?_,?_⟩
 . exact((Below.heap_alloc _ _ _ so).trans (Below.heap_alloc _ _ _ U2)).trans (heap_alloc_new _ _)
 . refine(Below.heap_alloc _ _ _ U2).trans ?_;have:=heap_alloc_new (w.alloc (C3 p m Am n cm)) (Cc cols A nz c);rw[show(w.alloc (C3 p m Am n cm)).heap.size=w.heap.size+1 by simp] at this;exact this
 . have:=heap_alloc_new ((w.alloc (C3 p m Am n cm)).alloc (Cc cols A nz c)) (.cells r tt);rw[show((w.alloc (C3 p m Am n cm)).alloc (Cc cols A nz c)).heap.size=w.heap.size+1+1 by simp] at this;exact this
end
theorem canonical_c(p m:Int)(mod:LI)(Am:OA)(cm:Nat)(cols:Int)(zs:List LI)(A:OA)(c:Nat)(w:Wo)(hM:zI w Am mod)(hl:mod.length<=9223372036854775807)(Z:zR w A zs)(X:zs.length<=9223372036854775807)(h1:1<=cols):
 zC 141 #[C6 p m Am mod.length cm,Cx cols A zs.length c] w (CanPost w p m mod cols zs):=by
 have s:=zH ((box3 w p m Am mod.length cm cols A zs.length c 54 (Cv)).keep (zV.alloc zn (Cc cols A zs.length c)));have x:zK (((((w.alloc (C3 p m Am mod.length cm)).alloc (Cc cols A zs.length c)).alloc (Cy)).alloc (Cc cols A zs.length c)).heap[w.heap.size+1+1+1]?=some (Cc cols A zs.length c)):=by have:=heap_alloc_new (((w.alloc (C3 p m Am mod.length cm)).alloc (Cc cols A zs.length c)).alloc (Cy)) (Cc cols A zs.length c);rw[show(((w.alloc (C3 p m Am mod.length cm)).alloc (Cc cols A zs.length c)).alloc (Cy)).heap.size=w.heap.size+1+1+1 by simp] at this;exact this
 have I:=zH hM;have B:=zH Z;clear hM Z;go_enter func141,ntmps141;go_wp2_with fail;generalize (((w.alloc (C3 p m Am mod.length cm)).alloc (Cc cols A zs.length c)).alloc (Cy)).alloc (Cc cols A zs.length c)=J at *;have H:=zH (open_c p m mod Am cm cols zs A c (w.heap.size+1+1+1) 1 J ((I.o.keep s.o.below).more s.o.below.size) hl ((B.o.keep s.o.below).more s.o.below.size) X x.o);go_fit H.o;rintro e h ⟨hb1,hcase⟩;have b:=zH (s.o.keep hb1);have t:=zH ((B.o.keep b.o.below).more b.o.below.size);clear s I B H x hb1;clear J;have f:zK (errC p m mod cols zs=if fieldOK p m mod=true then checkZ (p.toNat^m.toNat) cols zs else 1):=rfl;have k:=zH b.o.k2;rcases hcase with⟨d,rfl⟩|⟨d,r,rfl⟩|⟨d,r,S,rfl,L⟩
 . (have j:zK (errC p m mod cols zs=1):=by show _=_;rw[f.o,if_neg (by rw[d];simp)]);have i:=zH (b.o.set (Cv));clear d;go_wp2_with (refine wpList_store_row rfl 54 (.tmp 4) (.tmp 20) rfl h (w.heap.size+1+1) 54 (Cv) (Cv) rfl rfl k.o matSize rfl sc ?_);refine bodyPost_ret (qbV (P:=prog) rfl _ _ (w.heap.size+1+1) 54 (Cv) (0,0) _ _ _ rfl rfl rfl i.o.k2 underlying54 rfl matSize) rfl ?_;exact⟨i.o.below,.inl ⟨by rw[j.o];decide,by rw[j.o];rfl⟩⟩
 . (have j:zK (errC p m mod cols zs=checkZ (p.toNat^m.toNat) cols zs):=by show _=_;rw[f.o,if_pos d]);(have V:(checkZ (p.toNat^m.toNat) cols zs != 0)=true:=by simp[r]);have O:=zH r;have i:=zH (b.o.set (Cv));clear d r;go_wp2_with (refine wpList_store_row rfl 54 (.tmp 4) (.tmp 20) rfl h (w.heap.size+1+1) 54 (Cv) (Cv) rfl rfl k.o matSize rfl sc ?_);refine bodyPost_ret (qbV (P:=prog) rfl _ _ (w.heap.size+1+1) 54 (Cv) (0,0) _ _ _ rfl rfl rfl i.o.k2 underlying54 rfl matSize) rfl ?_;exact⟨i.o.below,.inl ⟨by rw[j.o];exact O.o,by rw[j.o];rfl⟩⟩
 . (have j:zK (errC p m mod cols zs=0):=by show _=_;rw[f.o,if_pos d,r]);obtain⟨q,z,T,U,E⟩:=check_grid r;have N:=zH q;(have u:zK (zR h A (nzs (natR zs))):=by show RowsAt _ _ _ _;rw[q];exact t.o);have g:=zH (canon_c S h.heap.size p.toNat m.toNat cols.toNat (mdOf m mod) (lOf p m mod) (natR zs) A c h (field_ft d) L zn u.o z U0 U0 (by rw[natR_len];exact E));rw[natR_len,show((cols.toNat:Nat):Int)=cols by omega] at g;have C:zK (canonM (opsT p.toNat m.toNat (lOf p m mod)) (natR zs) cols.toNat=canZ p m mod cols zs):=rfl;rw[C.o] at g;have K:h.cell? (zA (w.heap.size+1) 0)=some (Y cols):=cell_of_row _ _ 0 _ _ _ b.o.k1;have Q:h.cell? (zA (w.heap.size+1) 1)=some (zL A zs.length c):=cell_of_row _ _ 1 _ _ _ b.o.k1;clear d r L q z t u;go_wp2_with fail;go_fit g.o;rintro e M ⟨⟨R,VA,n,ck,rfl,hra⟩,hb2⟩;have l:=zH (b.o.keep hb2);have D:=zH hra;have v:=zH l.o.k2;have y:w.heap.size+1+1<h.heap.size:=b.o.size;clear hra hb2 g k b K Q;have K:M.cell? (zA (w.heap.size+1) 0)=some (Y cols):=cell_of_row _ _ 0 _ _ _ l.o.k1;have i:=zH (l.o.set (Cp cols R (canZ p m mod cols zs).length (canZ p m mod cols zs).length));go_wp2_with (refine wpList_store_row rfl 54 (.tmp 4) (.tmp 34) rfl M (w.heap.size+1+1) 54 (Cv) (Cp cols R (canZ p m mod cols zs).length (canZ p m mod cols zs).length) rfl rfl v.o matSize rfl sc ?_);refine bodyPost_ret (qbV (P:=prog) rfl _ _ (w.heap.size+1+1) 54 (Cp cols R (canZ p m mod cols zs).length (canZ p m mod cols zs).length) (0,0) _ _ _ rfl rfl rfl i.o.k2 underlying54 rfl matSize) rfl ?_;exact⟨i.o.below,.inr ⟨j.o,R,VA,n,ck,rfl,(D.o.setRow y _).rowsAt⟩⟩
theorem viewSize:(prog.info? 122).map (·.size)=some 4:=U1
def spZ(p m:Int)(mod:LI)(cols:Int)(zs:List LI):Int:=if errC p m mod cols zs≠0 then errC p m mod cols zs else if nzs (canZ p m mod cols zs)=zs then 0 else 5
def SpPost(w:Wo)(z:Int)(e:Ending)(w':Wo):Prop:=
 zB w w'/\∃v0 v1 v2 v3:Value,#[v0,v1,v2,v3].all (·.oneCell')=true/\e=.returned (.tuple #[.agg #[v0,v1,v2,v3],Y z])
theorem canZ_rows{p m:Int}{mod:LI}{cols:Int}{zs:List LI}(h:errC p m mod cols zs=0)(k:Nat)(j:k<(nzs (canZ p m mod cols zs)).length):((nzs (canZ p m mod cols zs)).getD k []).length<=9223372036854775807:=by
 have b:fieldOK p m mod=true:=by
  unfold errC at h;split at h
  . assumption
  . cases h
 unfold errC at h;rw[if_pos b] at h;obtain⟨_,c,_,f,_⟩:=check_grid h;have g:=(qdT (qdA (field_ft b)) c cols.toNat zn).2;rw[nzs_len] at j;have d:k<(elGo (opsT p.toNat m.toNat (lOf p m mod)) (natR zs) cols.toNat).piv.length:=by have:=canonM_len (opsT p.toNat m.toNat (lOf p m mod)) (natR zs) cols.toNat;unfold canZ at j;omega
 have e:(canZ p m mod cols zs).getD k []=(elGo (opsT p.toNat m.toNat (lOf p m mod)) (natR zs) cols.toNat).rows.getD k []:=qfB _ _ _ _ d;have:=(elGo_piv (O:=opsT p.toNat m.toNat (lOf p m mod)) (natR zs) cols.toNat).2;rw[nzs_getD,qaA,e,(g.row (i:=k) U0).1];omega
theorem canZ_len{p m:Int}{mod:LI}{cols:Int}{zs:List LI}(h:errC p m mod cols zs=0):(nzs (canZ p m mod cols zs)).length<=256:=by
 have b:fieldOK p m mod=true:=by
  unfold errC at h;split at h
  . assumption
  . cases h
 unfold errC at h;rw[if_pos b] at h;obtain⟨_,d,_,_,g⟩:=check_grid h;rw[nzs_len];have f:=canonM_len (opsT p.toNat m.toNat (lOf p m mod)) (natR zs) cols.toNat;have c:=(elGo_piv (O:=opsT p.toNat m.toNat (lOf p m mod)) (natR zs) cols.toNat).2;rw[natR_len] at c;unfold canZ;omega
theorem sopen_c(p m:Int)(mod:LI)(Am:OA)(cm:Nat)(cols:Int)(zs:List LI)(A:OA)(c:Nat)(w:Wo)(hM:zI w Am mod)(hl:mod.length<=9223372036854775807)(hA:zR w A zs)(aa:zs.length<=9223372036854775807)(h1:1<=cols):
 zC 97 #[C6 p m Am mod.length cm,Cx cols A zs.length c] w (SpPost w (spZ p m mod cols zs)):=by
 have x:=zH (box3 w p m Am mod.length cm cols A zs.length c 122 (Cr none));have S:=zH hM;have L:=zH hA;clear hM hA;go_enter func97,ntmps97;go_wp2_with fail;generalize ((w.alloc (C3 p m Am mod.length cm)).alloc (Cc cols A zs.length c)).alloc (.cells #[.pointer none,Y 0,zL none 0 0,zL none 0 0] 122)=V at *;have U:=zH (canonical_c p m mod Am cm cols zs A c V ((S.o.keep x.o.below).more x.o.below.size) hl ((L.o.keep x.o.below).more x.o.below.size) aa h1);go_fit U.o;rintro e s ⟨hb1,hcase⟩;have t:=zH (x.o.keep hb1);clear x U hb1;clear V;rcases hcase with⟨i,rfl⟩|⟨i,R,J,n,K,rfl,H⟩
 . (have B:zK (spZ p m mod cols zs=errC p m mod cols zs):=by show _=_;unfold spZ;rw[if_pos i]);(have Z:(errC p m mod cols zs != 0)=true:=by simp[i]);clear i;have E:=zH (t.o.keep (zV.alloc zn (Cy)));go_upto_region 2 with(refine qaH rfl 54 (.tmp 6) (.tmp 14) rfl s _ (Cv) rfl rfl matSize rfl sc ?_);generalize s.alloc (Cy)=y at *;have N:=zH E.o.k2;have r:=zH (E.o.set (Cr none));go_wp2_with (refine wpList_store_row rfl 122 (.tmp 4) (.tmp 19) rfl y (w.heap.size+1+1) 122 (Cr none) (Cr none) rfl rfl N.o viewSize rfl sc ?_);refine bodyPost_ret (results_row_one (P:=prog) rfl _ _ (w.heap.size+1+1) 122 (Cr none) (0,0) _ _ rfl rfl r.o.k2 underlying122 rfl viewSize) rfl ?_;exact⟨r.o.below,.pointer none,Y 0,zL none 0 0,zL none 0 0,sc,by rw[B.o];rfl⟩
 . have D := zH H;have q:=zH (canZ_rows i);have v:fieldOK p m mod=true:=by
    unfold errC at i;split at i
    . assumption
    . cases i
   (have k:zK (spZ p m mod cols zs=if nzs (canZ p m mod cols zs)=zs then 0 else 5):=by show _=_;unfold spZ;rw[if_neg (by simp[i])]);have T:=zH i;clear i H;(have M:(nzs (canZ p m mod cols zs)).length<=9223372036854775807:=by have:=canZ_len T.o;omega);generalize canZ p m mod cols zs=b at *;have g:=zH (t.o.keep (zV.alloc zn (.cells #[Y cols,zS R b.length b.length] 54)));have l:zK (RowsAt (s.alloc (.cells #[Y cols,zS R b.length b.length] 54)) (s.alloc (.cells #[Y cols,zS R b.length b.length] 54)).heap.size (zO R) (nzs b)):=(D.o.keep (zV.alloc zn _)).more U2;have C:zK ((s.alloc (.cells #[Y cols,zS R b.length b.length] 54)).cell? (zA s.heap.size 1)=some (zS R b.length b.length)):=World.cell?_alloc_new _ _ _ 1;go_upto_region 4 with(refine qaH rfl 54 (.tmp 6) (.tmp 14) rfl s _ (Cp cols R b.length b.length) rfl rfl matSize rfl sc ?_);generalize s.alloc (.cells #[Y cols,zS R b.length b.length] 54)=y at *;have W:=C.o;have X:y.cell? (zA (w.heap.size+1) 1)=some (zL A zs.length c):=cell_of_row _ _ 1 _ _ _ g.o.k1;have f:=zH (sequalf_c (nzs b) zs (zO R) A b.length c y l.o ((L.o.keep g.o.below).more g.o.below.size) M q.o);rw[nzs_len] at f;clear q D l C t;by_cases h:nzs b=zs
   . rw[decide_eq_true h] at f;(have B:zK (spZ p m mod cols zs=0):=by show _=_;rw[k.o,if_pos h]);clear h k;go_wp2_with fail;go_fit f.o;rintro e I ⟨rfl,n3,rfl⟩;have d:=zH (g.o.keep (qaB zV n3));clear W X g f;generalize y.drewN n3=I at *;have j:=zH (range_of_row d.o.k0);have z:=zH (fnew_ok p m mod Am cm I ((S.o.keep d.o.below).more d.o.below.size) v);clear v S L;go_wp2_with (refine wpList_load_mid rfl 29 (.tmp 2) rfl w.heap.size 0 rfl (C7 p m Am mod.length cm) _ j.o underlying29 rfl fieldSize ?_);go_fit z.o;rintro e w4 ⟨⟨gb,rfl,hgb0,hg⟩,hb4⟩;have u:=zH (d.o.keep hb4);clear hgb0 hg hb4 z d j;have j:=zH (range_of_row u.o.k1);have Q:=zH u.o.k2;have r:=zH (u.o.set #[zP gb,Y cols,zL A zs.length c,zL J n K]);go_wp2_with (first|(refine wpList_load_mid rfl 54 (.tmp 3) rfl (w.heap.size+1) 0 rfl [Y cols,zL A zs.length c] _ j.o underlying54 rfl matSize ?_)|(refine wpList_store_row rfl 122 (.tmp 4) (.tmp 36) rfl w4 (w.heap.size+1+1) 122 (Cr none) #[zP gb,Y cols,zL A zs.length c,zL J n K] rfl rfl Q.o viewSize rfl sc ?_));refine bodyPost_ret (results_row_one (P:=prog) rfl _ _ (w.heap.size+1+1) 122 #[zP gb,Y cols,zL A zs.length c,zL J n K] (0,0) _ _ rfl rfl r.o.k2 underlying122 rfl viewSize) rfl ?_;exact⟨r.o.below,zP gb,Y cols,zL A zs.length c,zL J n K,sc,by rw[B.o];rfl⟩
   . rw[decide_eq_false h] at f;(have B:zK (spZ p m mod cols zs=5):=by show _=_;rw[k.o,if_neg h]);clear h k v;go_wp2_with fail;go_fit f.o;rintro e I ⟨rfl,n3,rfl⟩;have d:=zH (g.o.keep (qaB zV n3));clear W X g f;generalize y.drewN n3=I at *;have O:=zH d.o.k2;have r:=zH (d.o.set (Cr none));go_wp2_with (refine wpList_store_row rfl 122 (.tmp 4) (.tmp 27) rfl I (w.heap.size+1+1) 122 (Cr none) (Cr none) rfl rfl O.o viewSize rfl sc ?_);refine bodyPost_ret (results_row_one (P:=prog) rfl _ _ (w.heap.size+1+1) 122 (Cr none) (0,0) _ _ rfl rfl r.o.k2 underlying122 rfl viewSize) rfl ?_;exact⟨r.o.below,.pointer none,Y 0,zL none 0 0,zL none 0 0,sc,by rw[B.o];rfl⟩
theorem scheck_c(p m:Int)(mod:LI)(Am:OA)(cm:Nat)(cols:Int)(zs:List LI)(A:OA)(c:Nat)(w:Wo)(t:zI w Am mod)(v:mod.length<=9223372036854775807)(s:zR w A zs)(q:zs.length<=9223372036854775807)(u:1<=cols):
 zC 48 #[C6 p m Am mod.length cm,Cx cols A zs.length c] w fun e w'=>e=.returned (Y (spZ p m mod cols zs))/\zB w w':=by have b:zK (zB w ((w.alloc (C3 p m Am mod.length cm)).alloc (Cc cols A zs.length c))):=(zV.alloc zn _).alloc U2 _;have i:=zH t;have g:=zH s;clear t s;go_enter func48,ntmps48;go_wp2_with fail;generalize (w.alloc (C3 p m Am mod.length cm)).alloc (Cc cols A zs.length c)=j at *;have h:=zH (sopen_c p m mod Am cm cols zs A c j ((i.o.keep b.o).more b.o.size) v ((g.o.keep b.o).more b.o.size) q u);go_fit h.o;rintro e k ⟨hb1,v0,v1,v2,v3,hv,rfl⟩;have d:=zH (b.o.trans (hb1.mono b.o.size));have l:=zH hv;clear hb1 hv h i g b;clear j;have f:zK (zB w (k.alloc (.cells #[v0,v1,v2,v3] 122))):=d.o.alloc d.o.size _;go_wp2_with (refine qaH rfl 122 (.tmp 5) (.tmp 11) rfl k _ #[v0,v1,v2,v3] rfl rfl viewSize rfl l.o ?_);go_ret;exact⟨rfl,f.o⟩
section
variable {P:Program} {ops:Array Oper} {S:Wo->Prop}
theorem keep_load_mid{Q:Act->Prop}{a:Act}{o:Oper}{rest:List Oper}(i:o.guard=none)(f:TypeId)(x:Operand)(k:o.op=.load f x)(b c:Nat)(m:a.eval x=.pointer (some (zA b c)))(cs:List Value)(d:TypeDesc)(g:∀w,S w->w.rangeAt b c cs)(l:P.underlying f=some d)(hd:d.isRow=true)(j:(P.info? f).map (·.size)=some cs.length)(h:wpKeep P ops S Q rest (a.put o.dst (.agg cs.toArray))):wpKeep P ops S Q (o :: rest) a:=
 qaJ i (fun W hW=>by
  unfold execOp
  simp only[k,m,Instr.loadAt,Instr.sureAddr,Sem.run_bind,Sem.run_pure,Result.andThen_ok,run_loadVar_mid W b c f cs d (g W hW) l hd j]) h
end
theorem codeSize:(prog.info? 32).map (·.size)=some 5:=U1
def lengthZ(n:Int):Int:=if n<1\/64<n then 4 else 0
theorem length_c(n:Int)(w:Wo):zC 47 #[Y n] w fun e w'=>e=.returned (Y (lengthZ n))/\w=w':=by
 by_cases c:n<1
 . (have b:zK (lengthZ n=4):=by show _=_;unfold lengthZ;rw[if_pos U0]);go_enter func47,ntmps47;go_wp2;go_ret;exact⟨qaG b.o.symm,rfl⟩
 . by_cases d : 64 < n
   . (have b:zK (lengthZ n=4):=by show _=_;unfold lengthZ;rw[if_pos U0]);go_enter func47,ntmps47;go_wp2;go_ret;exact⟨qaG b.o.symm,rfl⟩
   . (have b:zK (lengthZ n=0):=by show _=_;unfold lengthZ;rw[if_neg U0]);go_enter func47,ntmps47;go_wp2;go_ret;exact⟨qaG b.o.symm,rfl⟩
theorem gen_c(p m:Int)(h:OA)(n i:Nat)(N:Int)(A:OA)(nz c:Nat)(w:Wo):
 zC 49 #[Ca p m h n i N A nz c] w fun e w'=>e=.returned (Cx N A nz c)/\zB w w':=by
 have d:zK (zB w (w.alloc (C9 p m h n i N A nz c))):=zV.alloc zn _;go_enter func49,ntmps49;have b:zK ((w.alloc (C9 p m h n i N A nz c)).heap.size=w.heap.size+1):=U7;have g:zK (((w.alloc (C9 p m h n i N A nz c)).alloc (Cc N A nz c)).heap[w.heap.size+1]?=some (Cc N A nz c)):=by have:=heap_alloc_new (w.alloc (C9 p m h n i N A nz c)) (Cc N A nz c);rw[b.o] at this;exact this
 have f:zK (zB w ((w.alloc (C9 p m h n i N A nz c)).alloc (Cc N A nz c))):=d.o.alloc (by rw[b.o];omega) _;go_wp2_with (refine qaH rfl 54 (.tmp 2) (.tmp 7) rfl (w.alloc (C9 p m h n i N A nz c)) _ #[Y N,zL A nz c] (by show _=Value.pointer (zO (_));rw[b.o];rfl) rfl matSize rfl sc ?_);refine bodyPost_ret (results_cell_row (P:=prog) rfl _ _ (w.heap.size+1) 54 #[Y N,zL A nz c] (0,0) _ rfl g.o underlying54 rfl matSize) rfl ?_;exact⟨rfl,f.o⟩
def codeZ(p m:Int)(mod:LI)(N:Int)(zs:List LI):Int:=if fieldOK p m mod=false then 1 else if lengthZ N≠0 then 4 else spZ p m mod N zs
def SBoxC(w:Wo)(cs:List Value)(W:Wo):Prop:=W.heap[w.heap.size]?=some (.cells cs.toArray 32 (0,0))/\zB w W/\w.heap.size<W.heap.size
theorem SBoxC.grow{w:Wo}{cs:List Value}{W g:Wo}(h:SBoxC w cs W)(f:zB W g):SBoxC w cs g:=by obtain⟨c,d,b⟩:=h;exact⟨(f.block _ b).trans c,d.trans (f.mono (Nat.le_of_lt b)),Nat.lt_of_lt_of_le b f.size⟩
theorem SBoxC.range{w:Wo}{cs:List Value}{W:Wo}(h:SBoxC w cs W):W.rangeAt w.heap.size 0 cs:=range_of_row h.1
theorem SBoxC.range3{w:Wo}{v0 v1 v2 c d:Value}{W:Wo}(h:SBoxC w [v0,v1,v2,c,d] W):W.rangeAt w.heap.size 0 [v0,v1,v2]:=fun j v hv=>by
 have b:=range_of_row h.1
 refine b j v ?_
 rcases j with _|_|_|j
 . exact hv
 . exact hv
 . exact hv
 . simp at hv
theorem codecheck_c(p m:Int)(mod:LI)(C:OA)(D:Nat)(N:Int)(zs:List LI)(A:OA)(c:Nat)(w:Wo)(I:zI w C mod)(J:mod.length<=9223372036854775807)(H:zR w A zs)(E:zs.length<=9223372036854775807):
 zC 27 #[Ca p m C mod.length D N A zs.length c] w fun e w'=>e=.returned (Y (codeZ p m mod N zs))/\zB w w':=by
 have l:zK (SBoxC w (C2 p m C mod.length D N A zs.length c) (w.alloc (C9 p m C mod.length D N A zs.length c))):=
  ⟨heap_alloc_new _ _,zV.alloc zn _,U2⟩
 have s:=zH I;have v:=zH H;clear I H;go_enter func27,ntmps27;go_upto_region 1 with fail;generalize w.alloc (C9 p m C mod.length D N A zs.length c)=y at *;have k:=zH l.o.range3;have x:=zH (fcheck_c p m mod C D y ((s.o.keep l.o.2.1).more l.o.2.1.size) J);go_wp2_with (refine wpList_load_mid rfl 29 (.tmp 4) rfl w.heap.size 0 rfl (C7 p m C mod.length D) _ k.o underlying29 rfl fieldSize ?_);go_fit x.o;rintro e h ⟨rfl,hb1⟩;have f:=zH (l.o.grow hb1);clear hb1 l x k;clear y;cases hok:fieldOK p m mod
 . (have i:zK (codeZ p m mod N zs=1):=by show _=_;unfold codeZ;rw[if_pos hok]);have g:errF false=1:=rfl;rw[g];clear hok g;go_wp2;go_ret;exact⟨qaG i.o.symm,f.o.2.1⟩
 . have g : errF true = 0 := rfl;rw [g];have z:h.cell? (zA w.heap.size 3)=some (Y N):=cell_of_row _ _ 3 _ _ _ f.o.1;clear g;by_cases q:N<1\/64<N
   . (have d:lengthZ N=4:=by unfold lengthZ;rw[if_pos q]);(have i:zK (codeZ p m mod N zs=4):=by show _=_;unfold codeZ;rw[if_neg (by simp[hok]),if_pos (by rw[d];decide)]);(have r:zK (zC 47 #[Y N] h fun e w'=>e=.returned (Y 4)/\h=w'):=by have:=length_c N h;rw[d] at this;exact this);clear hok q d;go_wp2_with (go_at_call 47;go_fit r.o;rintro e w' ⟨rfl,rfl⟩);go_ret;exact⟨qaG i.o.symm,f.o.2.1⟩
   . (have b : lengthZ N = 0 := by unfold lengthZ;rw [if_neg q]);(have i:zK (codeZ p m mod N zs=spZ p m mod N zs):=by show _=_;unfold codeZ;rw [if_neg (by simp [hok]),if_neg (by rw [b];decide)]);(have r:zK (zC 47 #[Y N] h fun e w'=>e=.returned (Y 0)/\h=w'):=by have:=length_c N h;rw [b] at this;exact this)
     have j:zK (∀W,SBoxC w (C2 p m C mod.length D N A zs.length c) W->zC 49 #[Ca p m C mod.length D N A zs.length c] W fun e w'=>e=.returned (Cx N A zs.length c)/\SBoxC w (C2 p m C mod.length D N A zs.length c) w'):=
      fun W hW=>(gen_c p m C mod.length D N A zs.length c W).mono fun e w' ⟨g,hb⟩=>⟨g,hW.grow hb⟩
     have t:zK (∀W,SBoxC w (C2 p m C mod.length D N A zs.length c) W->zC 48 #[C6 p m C mod.length D,Cx N A zs.length c] W fun e w'=>e=.returned (Y (spZ p m mod N zs))/\SBoxC w (C2 p m C mod.length D N A zs.length c) w'):=
      fun W hW=>(scheck_c p m mod C D N zs A c W ((s.o.keep hW.2.1).more hW.2.1.size) J ((v.o.keep hW.2.1).more hW.2.1.size) E U0).mono fun e w' ⟨g,hb⟩=>⟨g,hW.grow hb⟩
     clear hok q b s v;go_upto_region 6 with(go_at_call 47;go_fit r.o;rintro e w' ⟨rfl,rfl⟩);clear z;refine qaD (SBoxC w (C2 p m C mod.length D N A zs.length c)) U1 U1 (f.o.grow zV.drew) ?_
     repeat (first
      | (refine keep_load_mid rfl 29 (.tmp 14) rfl w.heap.size 0 rfl (C7 p m C mod.length D) _ (fun W hW => hW.range3) underlying29 rfl fieldSize ?_
         go_simp)
      | (refine keep_load_mid rfl 32 (.tmp 1) rfl w.heap.size 0 rfl (C2 p m C mod.length D N A zs.length c) _ (fun W hW => hW.range) underlying32 rfl codeSize ?_
         go_simp)
      | (apply qaJ rfl
         . intro W n
           go_simp
           rfl
         go_simp)
      | (apply qaO rfl
         . intro W n
           go_simp
           exact⟨rfl,rfl⟩
         . intro W n
           first
            |exact j.o W n
            |exact t.o W n
         go_simp))
     refine qaE ?_;intro B u;go_wp2;go_ret;exact⟨qaG i.o.symm,u.2.1⟩
theorem orderM_wide{p m:Nat}(f:2<=p)(d:1<=m)(c:m<=8):orderM p m=if 256<p^m then 0 else((p^m:Nat):Int):=by
 by_cases h:p<=256
 . exact qbX f h d c
 . rw[qbQ U0,if_pos];have b:=qbZ (p:=p) (k:=1) (m:=m) f d;rw[Nat.pow_one] at b;omega
theorem rorder_c(p m:Int)(A:OA)(n c:Nat)(w:Wo):zC 33 #[C6 p m A n c] w fun e w'=>e=.returned (Y (orderM p m))/\zB w w':=by
 have b:zK (zB w (w.alloc (C3 p m A n c))):=zV.alloc zn _;by_cases j:p<2
 . have f:=zH (qbQ (p:=p) (m:=m) (.inl j));go_enter func33,ntmps33;go_wp2;go_ret;exact⟨qaG f.o.symm,b.o⟩
 . by_cases I : m < 1
   . have f:=zH (qbQ (p:=p) (m:=m) (.inr (.inr (.inl I))));go_enter func33,ntmps33;go_wp2;go_ret;exact⟨qaG f.o.symm,b.o⟩
   . by_cases J : 8 < m
     . have f:=zH (qbQ (p:=p) (m:=m) (.inr (.inr (.inr J))));go_enter func33,ntmps33;go_wp2;go_ret;exact⟨qaG f.o.symm,b.o⟩
     . obtain ⟨p,rfl⟩ := Int.eq_ofNat_of_zero_le (by omega : 0 <= p);obtain ⟨m,rfl⟩:=Int.eq_ofNat_of_zero_le (by omega:0<=m);have z:2<=p:=U0;have M:1<=m:=U0;have l:m<=8:=U0;have t:=zH (orderM_wide z M l);have hd:(256:Int) / (p:Int)=((256 / p:Nat):Int):=rfl;have g:zK (∀ q:Nat,256 / p<q ↔ 256<q*p):=fun q=>Nat.div_lt_iff_lt_mul U0;generalize 256 / p=H at *;go_enter func33,ntmps33;go_wp2_with fail;have v:=cell_of_row (w.alloc (C3 p m A n c)) w.heap.size 0 _ _ _ (heap_alloc_new w _);have x:=cell_of_row (w.alloc (C3 p m A n c)) w.heap.size 1 _ _ _ (heap_alloc_new w _);generalize w.alloc (C3 p m A n c)=u at *;have D:u.cell? (zA w.heap.size 0)=some (Y (p:Int)):=v;have E:u.cell? (zA w.heap.size 1)=some (Y (m:Int)):=x;clear v x;go_loop [3,4] (fun a i=>∃ k:Nat,k<=m/\p ^ k<=256/\i=Y k/\a=Y ((p ^ k:Nat):Int)) (fun _ i=>m-(intOf i).toNat);case atStart=>exact ⟨0,U0,U2,rfl,U2⟩
       case round =>
        obtain⟨k,N,O,rfl,rfl⟩:=hrel;by_cases L:k<m
        . have h : zK (p ^ (k + 1) = p ^ k * p) := Nat.pow_succ _ _;have B:=zH (qbZ z (show k+1<=m by omega));generalize p ^ k=q at *;have d:=g.o q;by_cases K:H<q
          . (have C:zK (orderM p m=0):=by show _=_;rw[t.o,if_pos];have j:=B.o;rw[h.o] at j;have:=d.1 K;omega);clear d;go_wp2;go_ret;exact⟨qaG C.o.symm,b.o⟩
          . (have r : q * p<=256:=by omega);have y:(q:Int)*(p:Int)=((q*p:Nat):Int):=(Int.natCast_mul _ _).symm;clear d;generalize q*p=P at *;go_wp2;go_round;case rel=>exact⟨k+1,U0,by rw[h.o];exact r,U3,by rw[h.o]⟩
            case measure=>simp[intOf];omega
        . (obtain rfl:k=m:=by omega);generalize s:p^k=q at *;clear s;go_wp2;go_ret;exact⟨qaG (by rw[t.o,if_neg U0]),b.o⟩
theorem primeB_iff(n:Nat):primeB n=true ↔ ∀ d,2<=d->d<n->n % d≠0:=by
 unfold primeB;rw[List.all_eq_true];constructor
 . intro h d f b;have:=h d (List.mem_range.2 b);simp only[Bool.or_eq_true,Nat.blt_eq,bne_iff_ne,ne_eq] at this;omega
 . intro h d b;have c:=List.mem_range.1 b;simp only[Bool.or_eq_true,Nat.blt_eq,bne_iff_ne,ne_eq];by_cases f:d<2
   . exact .inl f
   . exact .inr (h d U0 c)
theorem rprime_c(n:Nat)(z:n<=1000000)(w:Wo):zC 34 #[Y n] w fun e w'=>e=.returned (.bool (primeB n))/\w=w':=by
 have j:=zH (primeB_iff n);go_enter func34,ntmps34;go_wp2;go_loop [3] (fun v3=>∃k:Nat,2<=k/\(k<=n\/k=2)/\v3=Y k/\∀d,2<=d->d<k->n % d≠0) (fun v3=>n-(intOf v3).toNat);case atStart=>exact⟨2,U0,.inr rfl,rfl,fun d h1 h2=>U0⟩
 case round =>
  obtain⟨k,s,u,rfl,c⟩:=hrel;have b:=zH c;clear c;by_cases g:k<n
  . have y := qaY n k;have t:¬ (k:Int)=0:=U0;(have x:zK (∀ d,d=k->n % d=n % k):=fun d e=>by rw [e]);generalize l:n % k=r at *;have f:=zH l;clear l;by_cases i:r=0
    . (have m:zK (primeB n=false):=by show _=_;rw[<- Bool.not_eq_true,j.o];intro h;exact h k s g (by rw[f.o,i]));subst i;go_wp2;go_ret;exact⟨qaN m.o.symm,rfl⟩
    . (have v : ((r : Int) == 0) = false := by rw [beq_eq_false_iff_ne];omega);have p:zK (∀ d,2<=d->d<k+1->n % d≠0):=fun d h1 h2=>by
       by_cases hd:d=k
       . rw[hd,f.o];exact i
       . exact b.o d h1 U0
      go_wp2;go_round;case rel=>exact⟨k+1,U0,.inl U0,U3,p.o⟩
      case measure=>simp[intOf];omega
  . (have q:=zH<|j.o.2 (fun d h1 h2=>b.o d h1 U0));go_wp2;go_ret;exact⟨qaN q.o.symm,rfl⟩
theorem rdigits_c(x p m:Nat)(w:Wo)(R:x<=1000000000)(T:1<=p)(Q:p<=1000000000)(S:m<=1000):
 zC 85 #[Y x,Y p,Y m] w fun e w'=>e=.returned (zS w.heap.size m m)/\Row w' w.heap.size w.heap.size m (nz (digs p m x))/\zB w w':=by
 obtain⟨D,C,n,q,r⟩:=qaF infoInt;have H:=zH C;have z:=zH n;have A:=zH q;have t:=zH (show D.bytes*m<=281474976710656 by rw[r];omega);have u:=zH (show m<=maxLen by unfold maxLen;omega);clear C n q r;go_enter func85,ntmps85;go_wp2_with (refine wpList_make_full w rfl (.tmp 9) (.tmp 9) 23 rfl w.heap.size 3 D (Y 0) 1 underlying23 H.o z.o A.o .i64 .i64 m m m rfl rfl rfl rfl t.o u.o zn ?_;intro P d i);have v:=zH (Row.of_make d);have s:=zH (qaL i);clear d i;go_loopw [0,8] (fun v0 v13 wr=>RelDig w p m x v0 v13 wr) (fun _ v13 _=>m-(intOf v13).toNat);case atStart=>exact⟨0,U0,U2,rfl,v.o,s.o⟩
 case round =>
  obtain⟨k,K,rfl,rfl,b,B⟩:=hrel;have g:=zH b;have c:=zH B;have O:=b.frozen k;have E:zK (x / p^(k+1)=x / p^k / p):=by rw[Nat.pow_succ,<- Nat.div_div_eq_div_mul];rfl
  have J:x / p^k<=1000000000:=Nat.le_trans (Nat.div_le_self _ _) R;have I:=zH (fun h=>dgK_set p m x k h);have f:=zH (dgK_len p m x k K);by_cases l:k<m
  . have N:=b.cell (j:=k) (by rw[qaA,f.o];exact l);clear b B v s;generalize x / p^k=y at *;have L:0<=(y:Int) / (p:Int):=Int.ediv_nonneg U0 U0;have M:(y:Int) / (p:Int)<=(y:Int):=Int.ediv_le_self _ U0;go_wp2;go_roundw;case rel=>refine⟨k+1,U0,by rw[E.o];go_num,U3,?_,(c.o.setCell zn _)⟩;rw[<- I.o l,<- qbC];exact g.o.set k _
    case measure=>simp[intOf];omega
  . (obtain rfl:k=m:=by omega);clear b B v s;generalize x / p^k=y at *;go_wp2;go_ret;refine⟨rfl,?_,c.o⟩;have:=g.o;unfold dgK at this;rw[Nat.sub_self,List.replicate_zero,List.append_nil] at this;exact this
def RelDv(w:Wo)(B p:Nat)(low md:LN)(g c:Nat)(v9:Value)(wr:Wo):Prop:=
 ∃t i:Nat,t<=md.length+1-low.length/\i+t=md.length/\v9=Y (i:Int)/\Row wr B g c (nz (divGo p low (md++[1]) t))/\Below B w wr
def RelDr(w:Wo)(B p:Nat)(low:LN)(i cc:Nat)(s:LN)(g c:Nat)(v11:Value)(wr:Wo):Prop:=
 ∃j:Nat,j<=low.length/\v11=Y (j:Int)/\Row wr B g c (nz (divRow p low.length low i cc s j))/\Below B w wr
theorem rdivides_c(p:Nat)(low md:LN)(Al Am:OA)(cl cm:Nat)(w:Wo)(hp:2<=p)(bf:p<=256)(hL:zI w Al (nz low))(hM:zI w Am (nz md))(hl:Dig p low.length low)(hm:Dig p md.length md)(bc:1<=low.length)(bd:low.length<=md.length)(be:md.length<=8):
 zC 84 #[zL Al low.length cl,zL Am md.length cm,Y p] w fun e w'=>e=.returned (.bool (dividesM p low md))/\zB w w':=by
 obtain⟨i0,hi,an,ao,ap⟩:=qaF infoInt;have HI:=zH hi;have ac:=zH an;have ad:=zH ao;have ae:=zH ap;obtain⟨b,o,rfl,af,hc⟩:=hM.at_ (k:=0) (by rw[qaA];omega);have HL:=zH hL;have aa:zK ((w.alloc (.cells #[] 3)).ownsRow w.heap.size 3 1 (zS w.heap.size 0 0) 0 []):=World.ownsRow_made w #[] 0 zn ml rfl;have H:zK (∀(j:Nat)(u:Value),((nz md).map (Value.int .i64))[j]?=some u->(w.alloc (.cells #[] 3)).cell? ((⟨b,o,none⟩:Addr).add j)=some u):=(hM.keep (zV.alloc zn _)).news
 have T:zK (∀t,Dig p (md.length+1) (divGo p low (md++[1]) t)):=fun t=>divGo_dig U0 low ⟨U2,fun d hd=>by
  rcases List.mem_append.1 hd with h|h
  . exact hm.2 d h
  . simp at h;omega⟩ t
 have V:zK (∀i cc s,Dig p (md.length+1) s->∀j,Dig p (md.length+1) (divRow p low.length low i cc s j)):=fun i cc s hs j=>qcY U0 _ low i cc hs j;have ar:=zH<|fun j=>qeV U0 hl j
 have m:=zH (qaA md);clear hi an ao ap hM hL hc hm hl;go_enter func84,ntmps84;go_upto_region 3 with(at_builtin;refine wpList_append_lies _ rfl (.tmp 15) (.tmp 16) 23 rfl w.heap.size 3 i0 _ 1 8 underlying23 HI.o ac.o ad.o ae.o rfl dc (zS w.heap.size 0 0) 0 [] rfl aa.o (zA b o) md.length cm ((nz md).map (Value.int .i64)) rfl ?c0 H.o ?c2 ?c1 ?c3 ?c4 ?c5 _ rfl ?_);case c0=>simp[nz]
 case c1=>omega
 case c2=>intro u hu;obtain⟨z,_,rfl⟩:=List.mem_map.1 hu;rfl
 case c3=>unfold maxLen;omega
 case c4=>omega
 case c5=>simp
 intro g1 I w1 L ah Q ai;have M:=zH<|(zV.alloc zn _).grown ah U2 (fun k hk=>by simp[Value.ownBlock] at hk;omega)
 have O:zK (Row w1 w.heap.size g1 I (nz md)):=by show w1.ownsRow _ _ _ _ _ _;rw[m.o];exact L
 have a3:=M.o.size;clear L ah Q ai af;go_upto_region 4 with(at_builtin;refine wpList_append_own_at _ rfl (.tmp 18) (.tmp 19) 23 rfl w.heap.size 3 i0 _ 1 8 underlying23 HI.o ac.o ad.o ae.o rfl dc (zS g1 md.length I) md.length ((nz md).map (Value.int .i64)) rfl (own_of_row O.o m.o) (zA w1.heap.size 0) 1 1 [Y 1] rfl rfl ?d1 ?d2 ?d3 ?d4 ?d5 ?_);case d1=>exact World.news_of_block (cs:=#[Y 1]) (t:=3) (fr:=(0,0)) (heap_alloc_new w1 _)
 case d2=>intro u hu;simp at hu;subst hu;rfl
 case d3=>unfold maxLen;omega
 case d4=>omega
 case d5=>simp;omega
 intro v' w3 v K _ Q;have S:=zH<|(M.o.alloc a3 _).grown K so (fun j hj=>by simp[Value.ownBlock] at hj;have:=O.o.lt;omega)
 have aw:=own_of_append (y:=1) v m.o;obtain⟨g,cg,rfl,f⟩:=aw;have aj:(nz (md++[1])).length=md.length+1:=by simp[nz]
 rw[aj];have ab:zK (RelDv w w.heap.size p low md g cg (Y (md.length:Int)) w3):=⟨0,md.length,Nat.zero_le _,rfl,rfl,f,S.o⟩;clear v K Q f aj O M S H aa;have q:zK (∀t i,i+t=md.length->divGo p low (md++[1]) (t+1)=(divRow p low.length low i ((divGo p low (md++[1]) t).getD i 0) (divGo p low (md++[1]) t) low.length).set i 0):=fun t i h=>by show(divRow p low.length low ((md++[1]).length-1-t) _ _ low.length).set ((md++[1]).length-1-t) 0=_;have e:(md++[1]).length-1-t=i:=so;rw[e]
 have E:zK (dividesM p low md=(divGo p low (md++[1]) (md.length+1-low.length)).all (·==0)):=rfl;have aq:zK (∀W:Wo,zB w W->IntsAt W w.heap.size Al (nz low)):=fun W hW=>HL.o.keep hW;clear HL m;go_wp2;go_loopw [9] (fun v9 wr=>RelDv w w.heap.size p low md g cg v9 wr) (fun v9 _=>(intOf v9+1).toNat-low.length);case atStart=>exact ab.o
 case round =>
  obtain⟨t,i,ht,az,rfl,f,hb⟩:=hrel;have c:=zH f;have D:=zH hb;have l:=T.o t;have r:(nz (divGo p low (md++[1]) t)).length=md.length+1:=by rw[qaA];exact l.1
  have U:=zH l;clear f hb ab;by_cases ai:low.length<=i
  . have av := zH (q.o t i az);(have ay:wr.cell? (zA g i)=some (Y (((divGo p low (md++[1]) t).getD i 0:Nat):Int)):=by rw [<- qaC];exact c.o.cell (by rw [r];omega));have a8:=qeV U0 l i;have X:=zH (fun cc=>V.o i cc _ l);clear l r;generalize (divGo p low (md++[1]) t).getD i 0=cc at *;generalize divGo p low (md++[1]) t=s at *;have Z:zK (RelDr w w.heap.size p low i cc s g cg (Y ((0:Nat):Int)) wr):=⟨0,Nat.zero_le _,rfl,c.o,D.o⟩;have j0:(0:Int)<=(i:Int):=U0;have j1:(i:Int)<((md.length+1:Nat):Int):=U0;go_wp2_with fail;clear ay c D;go_loopw [11] (fun v11 wr=>RelDr w w.heap.size p low i cc s g cg v11 wr) (fun v11 _=>low.length-(intOf v11).toNat);case atStart=>exact Z.o
    case round =>
     obtain⟨j,hj,rfl,f,hb⟩:=hrel;have c:=zH f;have D:=zH hb;have hdr:=X.o cc j;clear f hb Z;by_cases a1:j<low.length
     . obtain ⟨a,rfl⟩ : ∃ a,i = a + low.length := ⟨i - low.length,U0⟩;(have ak:wr.cell? (zA g (a+j))=some (Y (((divRow p low.length low (a+low.length) cc s j).getD (a+j) 0:Nat):Int)):=by rw [<- qaC];exact c.o.cell (by rw [qaA,hdr.1];omega));obtain ⟨bl,ol,rfl,af,a0⟩:=(aq.o wr D.o).at_ (k:=j) (by rw [qaA];exact a1);rw [qaC] at a0;have a9:=ar.o j;have bb:=qeV U0 hdr (a+j);(have au:zK (divRow p low.length low (a+low.length) cc s (j+1)=(divRow p low.length low (a+low.length) cc s j).set (a+j) (((divRow p low.length low (a+low.length) cc s j).getD (a+j) 0+(p-cc)*low.getD j 0) % p)):=by show addAt p _ (a+low.length-low.length+j) _=_;rw [Nat.add_sub_cancel];rfl);have hf:=c.o.frozen (a+j);have T1:zK (Int.tmod ((((divRow p low.length low (a+low.length) cc s j).getD (a+j) 0+(p-cc)*low.getD j 0:Nat):Nat):Int) (p:Int)=((((divRow p low.length low (a+low.length) cc s j).getD (a+j) 0+(p-cc)*low.getD j 0) % p:Nat):Int)):=qaY _ _;clear hdr;generalize divRow p low.length low (a+low.length) cc s j=rj at *;generalize rj.getD (a+j) 0=x at *;generalize low.getD j 0=lj at *;(have E1:zK (IntKind.i64.wrap (((a+low.length:Nat):Int)-(low.length:Int))=(a:Int)):=by show _=_;rw [show ((a+low.length:Nat):Int)-(low.length:Int)=(a:Int) by omega];exact IntWalk.i64_in _ U0);(have E3:zK (IntKind.i64.wrap ((p:Int)-(cc:Int))=((p-cc:Nat):Int)):=by show _=_;rw [Int.natCast_sub U0];exact IntWalk.i64_in _ U0);have a2:p-cc<=256:=U0;(have E2:zK (IntKind.i64.wrap ((a:Int)+(j:Int))=((a+j:Nat):Int)):=by show _=_;rw [Int.natCast_add];exact IntWalk.i64_in _ U0);have a5:(p-cc)*lj<=65536:=Nat.le_trans (Nat.mul_le_mul a2 (show lj<=256 by omega)) U0;(have E4:zK (IntKind.i64.wrap (((p-cc:Nat):Int)*(lj:Int))=(((p-cc)*lj:Nat):Int)):=by show _=_;rw [<- Int.natCast_mul];exact IntWalk.i64_in _ U0);generalize (p-cc)*lj=pl at *;generalize p-cc=pc at *;(have E5:zK (IntKind.i64.wrap ((x:Int)+(pl:Int))=((x+pl:Nat):Int)):=by show _=_;rw [Int.natCast_add];exact IntWalk.i64_in _ U0);have k0:(0:Int)<=((a+j:Nat):Int):=U0;have k1:((a+j:Nat):Int)<(md.length:Int)+1:=U0;have l0:(0:Int)<=(j:Int):=U0;have l1:(j:Int)<(low.length:Int):=U0;have ba:¬ (p:Int)=0:=U0;have a6:¬ p=0:=U0;generalize (x+pl) % p=z at *;generalize x+pl=xp at *;generalize hy:a+j=y at *;generalize B:a+low.length=i at *;have HY:=zH hy;have a7:=zH B;clear hy B;go_upto_region 11 with fail;have e1:=E1.o;have e2:=E2.o;have e3:=E3.o;have e4:=E4.o;have e5:=E5.o;have t1:=T1.out;refine qaI 26 (SDrew wr) U1 U1 ⟨1,rfl⟩ ?_;simp only [List.take_succ_cons,List.take_zero,List.drop_succ_cons,List.drop_zero]
       repeat (apply qaJ rfl
               . intro W hS;obtain⟨n,rfl⟩:=hS;go_simp;rfl
               go_simp)
       refine qaE ?_;intro w2 ax;obtain⟨n,rfl⟩:=ax;clear e1 e2 e3 e4 e5 t1;go_wp2;go_roundw;case rel=>exact⟨j+1,U0,U3,by rw[au.o,<- qbC];exact Row.set (w:=wr.drewN n) c.o y z,(qaB D.o n).setCell (p:=(zA g y)) c.o.lt.1 _⟩
       case measure=>simp[intOf];omega
     . (obtain rfl : j = low.length:=by omega);have hf:=c.o.frozen i;(have ak:wr.cell? (zA g i)=some (Y (((divRow p low.length low i cc s low.length).getD i 0:Nat):Int)):=by rw[<- qaC];exact c.o.cell (by rw[qaA,hdr.1];omega));clear hdr;go_wp2;go_roundw;case rel=>exact⟨t+1,i-1,U0,U0,by rw[show((i-1:Nat):Int)=(i:Int)-1 by omega],by rw[av.o,<- qbC];exact c.o.set i 0,D.o.setCell (p:=(zA g i)) c.o.lt.1 _⟩
       case measure=>simp[intOf];omega
  . (have al : t = md.length + 1 - low.length := by omega);(have HE:zK (dividesM p low md=(divGo p low (md++[1]) t).all (·==0)):=by show _=_;rw [E.o,<- al]);have ag:=l.1;clear al l r U T V q E;generalize divGo p low (md++[1]) t=s at *;have B:(i:Int)<(low.length:Int):=U0;(have A:=zH<|ag);clear ag;go_wp2_with fail;clear B;go_loop [12] (fun v12=>∃ k:Nat,k<=md.length+1/\v12=Y k/\(s.take k).all (·==0)=true) (fun v12=>md.length+1-(intOf v12).toNat);case atStart=>exact ⟨0,U0,rfl,U2⟩
    case round =>
     obtain⟨k,hk,rfl,J⟩:=hrel;have C:=zH J;clear J;by_cases R:k<md.length+1
     . (have ak : wr.cell? (zA g k) = some (Y ((s.getD k 0 : Nat) : Int)) := by rw [<- qaC];exact c.o.cell (by rw [qaA,A.o];exact R));have P:=zH (qbN (·==0) s 0 k (by rw [A.o];exact R));have N:=zH (qbL (·==0) s 0 k (by rw [A.o];exact R));generalize s.getD k 0=z at *;by_cases hz:z=0
       . (have a4 : ((z : Int) != 0) = false:=by rw[hz];rfl);(have HN:zK ((s.take (k+1)).all (·==0)=true):=by show _=_;rw[P.o,C.o,hz];rfl);clear hz P N;go_wp2;go_round;case rel=>exact⟨k+1,U0,U3,HN.o⟩
         case measure=>simp[intOf];omega
       . (have a4:((z:Int) != 0)=true:=by rw[bne_iff_ne];omega);(have HN:zK (dividesM p low md=false):=by show _=_;rw[HE.o];exact N.o (by simpa using hz));clear hz P N;go_wp2;go_ret;exact⟨qaN HN.o.symm,D.o⟩
     . (have HN:zK (dividesM p low md=true):=by show _=_;have:=C.o;rw[List.take_of_length_le (by rw[A.o];omega)] at this;rw[HE.o,this]);go_wp2;go_ret;exact⟨qaN HN.o.symm,D.o⟩
end Go.Proofs.YtkcdlealipfnbaaGreat
