/- Parts of the proof. -/
import Derived.Test.YtndipkplnkfoeaaGreatR03
import Derived.Test.YtndipkplnkfoeaaGreatR04
set_option maxRecDepth 100000
set_option maxHeartbeats 8000000
namespace Go.Proofs.YtndipkplnkfoeaaGreat
open Go.RowKit Pln
theorem canonM_len(O:Ops)(rows:List (List Nat))(b:Nat):(canonM O rows b).length=(elGo O rows b).piv.length:=by unfold canonM;rw[List.length_take,elGo_len];have:=(elGo_piv (O:=O) rows b).2;omega
theorem canonM_getD(O:Ops)(rows:List (List Nat))(b i:Nat)(c:i<(elGo O rows b).piv.length):(canonM O rows b).getD i []=(elGo O rows b).rows.getD i []:=by unfold canonM;simp only[List.getD];rw[List.getElem?_take_of_lt c]
theorem own_slice{w:World}{base n:Nat}{v:Value}{xs:List Value}(h:w.ownsRow base 3 1 v n xs):∃VA ck,v=zL VA n ck:=by
 rcases h.2 with⟨c,d⟩|⟨g,b,cur,f,_⟩
 . subst d;exact⟨_,_,c⟩
 . exact⟨_,_,f⟩
def RowsUp(w:World)(lo:Nat)(A:Option Addr)(zs:List (List Int)):Prop:=
 0<zs.length->∃b o,A=some (zA b o)/\lo<=b/\b<w.heap.size/\∀i,i<zs.length->∃(bi oi ci:Nat),w.cell? (zA b (o+i))=some (zL (some (zA bi oi)) (zs.getD i []).length ci)/\lo<=bi/\bi<w.heap.size/\∀j,j<(zs.getD i []).length->w.cell? (zA bi (oi+j))=some (Y ((zs.getD i []).getD j 0))
theorem RowsUp.rowsAt{w:World}{n:Nat}{A:Option Addr}{zs:List (List Int)}(h:RowsUp w n A zs):RowsAt w w.heap.size A zs:=fun hz=>by
 obtain⟨b,o,e,_,c,l⟩:=h hz
 refine⟨b,o,e,c,fun i hi=>?_⟩
 obtain⟨d,m,f,g,_,j,k⟩:=l i hi
 exact⟨_,f,g,fun _=>⟨d,m,rfl,j,k⟩⟩
theorem RowsUp.of_blocks{w w':World}{t:Nat}{A:Option Addr}{zs:List (List Int)}(h:RowsUp w t A zs)(v:w.heap.size<=w'.heap.size)(u:∀k,t<=k->k<w.heap.size->w'.heap[k]?=w.heap[k]?):RowsUp w' t A zs:=fun hz=>by
 have c:∀b o,t<=b->b<w.heap.size->w'.cell? (zA b o)=w.cell? (zA b o):=fun b o g f=>by
  unfold World.cell?
  rw[u b g f]
 obtain⟨b,o,e,d,l,r⟩:=h hz
 refine⟨b,o,e,d,U0,fun i hi=>?_⟩
 obtain⟨m,s,n,g,f,p,q⟩:=r i hi
 exact⟨m,s,n,(c b _ d l).trans g,f,U0,fun j hj=>(c m _ f p).trans (q j hj)⟩
theorem RowsUp.setRow{w:World}{b:Nat}{A:Option Addr}{zs:List (List Int)}(h:RowsUp w b A zs){g:Nat}(c:g<b)(cs:Array Value):RowsUp (w.setRow g cs) b A zs:=
 h.of_blocks U2 fun k hk _=>setRow_other w g k cs U0
theorem GridAt.rowsAt{w:World}{B R f:Nat}{rows:List (List Nat)}{c:List (Nat × Nat)}(h:GridAt w B R f rows c)(zs:List (List Nat))(g:zs.length<=rows.length)(d:∀i,i<zs.length->zs.getD i []=rows.getD i []):RowsUp w B (zO R) (nzs zs):=by
 intro _;refine⟨R,0,rfl,h.lt.1,h.lt.2,fun i hi=>?_⟩;rw[nzs_len] at hi;have b:=h.row i U0;refine⟨bk c i,0,cp c i,?_,b.lt.1,b.lt.2,fun j hj=>?_⟩
 . rw[Nat.zero_add,nzs_getD,qaA,d i hi];exact h.cell U0
 . rw[nzs_getD,d i hi] at hj ⊢;rw[Nat.zero_add];exact b.cell hj
theorem canon_c(H I p m C:Nat)(md l:List Nat)(rows:List (List Nat))(A:Option Addr)(c:Nat)(w:World)(hF:FT p m md l)(K:GFAt w I H p m l (logL l (p^m)))(E:I<=w.heap.size)(J:RowsAt w w.heap.size A (nzs rows))(D:Grid (p^m) rows.length C rows)(N:1<=C)(L:C<=256)(M:rows.length<=256):
 zC 194 #[zP H,zL A rows.length c,Y C] w fun e w'=>(∃(R:Nat)(VA:Option Addr)(n ck:Nat),e=.returned (.tuple #[zS R (canonM (opsT p m l) rows C).length (canonM (opsT p m l) rows C).length,zL VA n ck])/\RowsUp w' w.heap.size (zO R) (nzs (canonM (opsT p m l) rows C)))/\Below w.heap.size w w':=by
 have g:=zH (clone_c rows A c w J (fun r hr=>by have:=(D.2 r hr).1;omega) U0)
 have h:Hid (∀(bs:List (Nat × Nat))(b:World),Below w.heap.size w b->GridAt b w.heap.size w.heap.size rows.length rows bs->zC 232 #[zP H,zS w.heap.size rows.length rows.length,Y C,zL none 0 0] b (ElPost b w.heap.size w.heap.size rows.length p m l rows C)):=
  fun bs b hb hg=>eliminate_c w.heap.size w.heap.size rows.length H I p m C md l rows bs b hF (K.keep (hb.mono E)) E hb.size hg D M L
 have o:=zH (canonM_len (opsT p m l) rows C);have f:=zH (elGo_piv (O:=opsT p m l) rows C);have q:=zH (elGo_len (O:=opsT p m l) rows C);have j:=zH (canonM_getD (opsT p m l) rows C);clear hF K J D;generalize canonM (opsT p m l) rows C=x at *;go_enter Tryz.func194,Tryz.ntmps194;go_wp2_with fail;(with_reducible refine g.out.mono ?_);rintro e b ⟨rfl,⟨bs,hg⟩,hb⟩;have y:=zH hg;have v:=zH hb;clear hg hb;go_wp2_with fail;(with_reducible refine(h.out bs b v.out y.out).mono ?_);rintro e B ⟨⟨vp,d,bs2,rfl,hown,hgrid⟩,hb2⟩;obtain⟨VA,ck,rfl⟩:=own_slice hown;have k:=zH hgrid;have s:=zH (v.out.trans hb2);clear hown hgrid hb2;have z:Hid (RowsUp B w.heap.size (zO w.heap.size) (nzs x)):=k.out.rowsAt x (by rw[o.out,q.out];exact f.out.2) (fun i hi=>j.out i (by rw[<- o.out];exact hi));have u:(elGo (opsT p m l) rows C).piv.length<=rows.length:=f.out.2;rw[<- o.out] at u;have t:=zH o.out.symm;clear o f q j g h k;rw[t.out];go_wp2_with fail;go_ret2;exact⟨⟨_,_,_,_,rfl,z.out⟩,s.out⟩
section
variable {P:Program}
theorem wpList_store_row{ops:Array Oper}{rest:List Oper}{o:Oper}{a:Act}{Q:Exit->Act->World->Prop}(f:o.guard=none)(g:TypeId)(x y:Operand)(l:o.op=.store g x y)(w:World)(b:Nat)(t:TypeId)(c d:Array Value)(n:a.eval x=zP b)(p:a.eval y=.agg d)(j:w.heap[b]?=some (.cells c t (0,0)))(k:(P.info? g).map (·.size)=some d.size)(m:c.size=d.size)(i:d.all (·.oneCell')=true)(h:wpList P ops Q rest (a.put o.dst undef) (w.setRow b d)):wpList P ops Q (o :: rest) a w:=
 wpList_plain f fun _ hK=>by
  unfold Oper.wp execOp
  simp only[l,n,p,Instr.storeAt,Instr.sureAddr,Sem.run_bind,Sem.run_pure,Result.andThen_ok,run_storeVar_row w b t g c d j k m i]
  exact hK _ _ h
end
theorem qbV{P:Program}{fn:Func}{p q r:Tmp}{i:TypeId}(h:fn.results=#[.cell p i,.tmp q,.tmp r])(tmps:Array Value)(w:World)(g:Nat)(t:TypeId)(cs:Array Value)(fr:Nat × Nat)(d:TypeDesc)(u v:Value)(l:tmps.getD p undef=zP g)(m:tmps.getD q undef=u)(n:tmps.getD r undef=v)(j:w.heap[g]?=some (.cells cs t fr))(o:P.underlying i=some d)(hd:(match d with|.struct _|.array _ _=>true|_=>false)=true)(k:(P.info? i).map (·.size)=some cs.size):
 (results fn tmps).run P w=.ok (.tuple #[.agg cs,u,v]) w:=by
 have b:tmps[p]?.getD undef=zP g:=by simpa using l
 have c:tmps[q]?.getD undef=u:=by simpa using m
 have f:tmps[r]?.getD undef=v:=by simpa using n
 simp[results,h,b,c,f,asAddr,run_loadVar_row w g t i cs fr d j o hd k]
theorem results_row_one{P:Program}{fn:Func}{p q:Tmp}{f:TypeId}(h:fn.results=#[.cell p f,.tmp q])(tmps:Array Value)(w:World)(g:Nat)(t:TypeId)(cs:Array Value)(fr:Nat × Nat)(d:TypeDesc)(u:Value)(k:tmps.getD p undef=zP g)(l:tmps.getD q undef=u)(i:w.heap[g]?=some (.cells cs t fr))(m:P.underlying f=some d)(hd:(match d with|.struct _|.array _ _=>true|_=>false)=true)(j:(P.info? f).map (·.size)=some cs.size):
 (results fn tmps).run P w=.ok (.tuple #[.agg cs,u]) w:=by
 have b:tmps[p]?.getD undef=zP g:=by simpa using k
 have c:tmps[q]?.getD undef=u:=by simpa using l
 simp[results,h,b,c,asAddr,run_loadVar_row w g t f cs fr d i m hd j]
theorem setRow_same(w:World)(b:Nat)(t:TypeId)(c d:Array Value)(f:w.heap[b]?=some (.cells c t (0,0))):(w.setRow b d).heap[b]?=some (.cells d t (0,0)):=by simp[World.setRow,Array.getElem?_modify,f]
theorem matSize:(Tryz.prog.info? 54).map (·.size)=some 2:=U1
def lOf(p m:Int)(mod:List Int):List Nat:=genM (mulM p.toNat m.toNat (mdOf m mod)) (p.toNat^m.toNat)
def OpenPost(w:World)(p m:Int)(mod:List Int)(cols:Int)(zs:List (List Int))(e:Ending)(w':World):Prop:=
 Below w.heap.size w w'/\((fieldOK p m mod=false/\e=.returned (.tuple #[.pointer none,Y 1]))\/
  (fieldOK p m mod=true/\checkZ (p.toNat^m.toNat) cols zs≠0/\e=.returned (.tuple #[.pointer none,Y (checkZ (p.toNat^m.toNat) cols zs)]))\/
  (fieldOK p m mod=true/\checkZ (p.toNat^m.toNat) cols zs=0/\∃gb,e=.returned (.tuple (Dm gb))/\GFAt w' w'.heap.size gb p.toNat m.toNat (lOf p m mod) (logL (lOf p m mod) (p.toNat^m.toNat))))
def RelO(w1:World)(z:Int)(v20:Value)(wr:World):Prop:=∃k:Nat,k<=1/\v20=Y k/\Below w1.heap.size w1 wr/\(k=1->z=0)
theorem open_c(p m:Int)(mod:List Int)(T:Option Addr)(U:Nat)(S:Int)(zs:List (List Int))(A:Option Addr)(c b cb:Nat)(w:World)(hM:IntsAt w w.heap.size T mod)(hl:mod.length<=9223372036854775807)(Z:RowsAt w w.heap.size A zs)(X:zs.length<=9223372036854775807)(V:w.heap[b]?=some (Cp S A zs.length c)):
 zC 193 #[Ch p m T mod.length U,zS b 1 cb] w (OpenPost w p m mod S zs):=by
 have j:Hid (Below w.heap.size w (w.alloc (Ce p m T mod.length U))):=(Below.refl _ _).alloc (Nat.le_refl _) _;have n:Hid (w.heap.size<=(w.alloc (Ce p m T mod.length U)).heap.size):=by show _<=_;simp
 have B:=zH ((hM.keep j.out).more n.out);have C:=zH Z;have s:=zH V;have q:=block_lt V;clear hM Z V;cases hok:fieldOK p m mod
 . have z:=zH (fnew_no p m mod T U _ B.out hl hok);have O:Hid (∀e w',Below w.heap.size w w'->e=.returned (.tuple #[.pointer none,Y 1])->OpenPost w p m mod S zs e w'):=fun e w' h1 h2=>⟨h1,.inl ⟨hok,h2⟩⟩;clear hok B C;go_enter Tryz.func193,Tryz.ntmps193;go_wp2_with fail;generalize w.alloc (Ce p m T mod.length U)=L at *;(with_reducible refine z.out.mono ?_);rintro e i ⟨rfl,hb1⟩;have d:=zH (j.out.trans (hb1.mono n.out));clear hb1;go_wp2_with fail;go_ret2;exact O.out _ _ d.out rfl
 . have z := zH (fnew_ok p m mod T U _ B.out hok);have E:Hid (∀ e w',Below w.heap.size w w'->checkZ (p.toNat ^ m.toNat) S zs≠0->e=.returned (.tuple #[.pointer none,Y (checkZ (p.toNat ^ m.toNat) S zs)])->OpenPost w p m mod S zs e w'):=fun e w' h1 h2 h3=>⟨h1,.inr (.inl ⟨hok,h2,h3⟩)⟩;have H:Hid (∀ gb e w',Below w.heap.size w w'->checkZ (p.toNat ^ m.toNat) S zs=0->e=.returned (.tuple (Dm gb))->GFAt w' w'.heap.size gb p.toNat m.toNat (lOf p m mod) (logL (lOf p m mod) (p.toNat ^ m.toNat))->OpenPost w p m mod S zs e w'):=fun gb e w' h1 h2 h3 h4=>⟨h1,.inr (.inr ⟨hok,h2,gb,h3,h4⟩)⟩;clear hok B;go_enter Tryz.func193,Tryz.ntmps193;go_wp2_with fail;generalize w.alloc (Ce p m T mod.length U)=L at *;(with_reducible refine z.out.mono ?_);rintro e i ⟨⟨gb,rfl,hgb0,hg⟩,hb1⟩;have d:=zH (j.out.trans (hb1.mono n.out));have K:Hid (GFAt i i.heap.size gb p.toNat m.toNat (lOf p m mod) (logL (lOf p m mod) (p.toNat ^ m.toNat))):=hg;have D:=zH ((C.out.keep d.out).more d.out.size);have t:=zH ((d.out.block b q).trans s.out);have x:b<i.heap.size:=Nat.lt_of_lt_of_le q d.out.size;clear hb1 hg hgb0 z s C j n q;clear L;go_wp2_with fail;go_loopw [20] (fun v20 wr=>RelO i (checkZ (p.toNat ^ m.toNat) S zs) v20 wr) (fun v20 _=>1-(intOf v20).toNat);case atStart=>exact ⟨0,U0,rfl,Below.refl _ _,fun h=>U0⟩
   case round =>
    obtain⟨k,Q,rfl,y,N⟩:=hrel;have f:=zH y;have P:=zH N;clear y N;by_cases J:k=0
    . subst J;have v:Hid (wr.rangeAt b 0 (De S A zs.length c)):=range_of_row ((f.out.block b x).trans t.out);have l:Hid (Below i.heap.size i (wr.alloc (Cp S A zs.length c))):=f.out.alloc f.out.size _
      have u:Hid (∀W:World,Below i.heap.size i W->zC 230 #[zP gb,Cy S A zs.length c] W fun e w'=>e=.returned (Y (checkZ (p.toNat^m.toNat) S zs))/\Below W.heap.size W w'):=
       fun W hW=>check_c gb p.toNat m.toNat i.heap.size _ _ S zs A c W (K.out.keep hW) hW.size ((D.out.keep hW).more hW.size) X
      go_wp2_with (first|(refine wpList_load_mid rfl 54 (.tmp 22) rfl b 0 rfl (De S A zs.length c) _ v.out Tryz.underlying54 rfl matSize ?_)|(refine qaH rfl 54 (.tmp 9) (.tmp 23) rfl wr _ #[Y S,zL A zs.length c] rfl rfl matSize rfl sc ?_));(with_reducible refine(u.out _ l.out).mono ?_);rintro e R ⟨rfl,hb3⟩;have r:=zH (l.out.trans (hb3.mono l.out.size));clear hb3 l u v;by_cases g:checkZ (p.toNat^m.toNat) S zs=0
      . have o:=zH g;rw[g];clear g;go_wp2_with fail;go_roundw;case rel=>exact⟨1,U0,gn,r.out,fun _=>o.out⟩
        case measure=>simp[intOf]
      . have o:=zH g;(have M:(checkZ (p.toNat^m.toNat) S zs != 0)=true:=by simp[g]);clear g;go_wp2_with fail;go_ret2;exact E.out _ _ (d.out.trans (r.out.mono d.out.size)) o.out rfl
    . (obtain rfl:k=1:=by omega);have I:=zH (P.out rfl);go_wp2_with fail;go_ret2;exact H.out gb _ _ (d.out.trans (f.out.mono d.out.size)) I.out rfl ((K.out.keep f.out).more f.out.size)
def natR(zs:List (List Int)):List (List Nat):=zs.map (·.map Int.toNat)
theorem natR_len(zs:List (List Int)):(natR zs).length=zs.length:=by simp[natR]
theorem check_grid{q:Nat}{o:Int}{zs:List (List Int)}(h:checkZ q o zs=0):nzs (natR zs)=zs/\Grid q (natR zs).length o.toNat (natR zs)/\0<=o/\o<=256/\zs.length<=256:=by
 unfold checkZ at h;by_cases g:o<0\/256<o\/256<zs.length
 . rw[if_pos g] at h;cases h
 . rw [if_neg g] at h;by_cases c:zs.all (fun r=>decide ((r.length:Int)=o))=false
   . rw[if_pos c] at h;cases h
   . rw [if_neg c] at h;by_cases i:zs.all (elemsB q)=false
     . rw[if_pos i] at h;cases h
     . have d:=List.all_eq_true.1 ((Bool.not_eq_false _).mp c);have f:=List.all_eq_true.1 ((Bool.not_eq_false _).mp i);(have b:∀r∈zs,∀x∈r,0<=x/\x<(q:Int):=fun r hr x hx=>by have j:=f r hr;unfold elemsB at j;have k:=List.all_eq_true.1 j x hx;unfold inB at k;simpa using k);refine⟨?_,⟨rfl,fun r hr=>?_⟩,U0,U0,U0⟩
       . unfold nzs natR;rw[List.map_map];(have:∀r∈zs,(nz ∘ fun x:List Int=>x.map Int.toNat) r=r:=fun r hr=>by show nz (r.map Int.toNat)=r;unfold nz;rw[List.map_map];(have:∀x∈r,((fun x:Nat=>(x:Int)) ∘ Int.toNat) x=x:=fun x hx=>by have:=(b r hr x hx).1;show((x.toNat:Nat):Int)=x;omega);rw[List.map_congr_left this,List.map_id']);rw[List.map_congr_left this,List.map_id']
       . unfold natR at hr;obtain⟨s,l,rfl⟩:=List.mem_map.1 hr;have m:=d s l;refine⟨by simp at m ⊢;omega,fun x hx=>?_⟩;obtain⟨y,n,rfl⟩:=List.mem_map.1 hx;have:=b s l y n;omega
theorem field_ft{p m:Int}{mod:List Int}(h:fieldOK p m mod=true):FT p.toNat m.toNat (mdOf m mod) (lOf p m mod):=by unfold fieldOK at h;rw[Bool.and_eq_true] at h;have b:=shape_is h.1;refine⟨b.small,genM_tab (qaV (by have:=b.small.p1;omega) b.small.m1 _) ?_⟩;intro e;rw[e] at h;simp at h
def canZ(p m:Int)(mod:List Int)(cols:Int)(zs:List (List Int)):List (List Nat):=canonM (opsT p.toNat m.toNat (lOf p m mod)) (natR zs) cols.toNat
def errC(p m:Int)(mod:List Int)(cols:Int)(zs:List (List Int)):Int:=if fieldOK p m mod=true then checkZ (p.toNat^m.toNat) cols zs else 1
def CanPost(w:World)(p m:Int)(mod:List Int)(cols:Int)(zs:List (List Int))(e:Ending)(w':World):Prop:=
 Below w.heap.size w w'/\((errC p m mod cols zs≠0/\e=.returned (.tuple #[.agg #[Y 0,zL none 0 0],zL none 0 0,Y (errC p m mod cols zs)]))\/
  (errC p m mod cols zs=0/\∃(R:Nat)(VA:Option Addr)(n ck:Nat),e=.returned (.tuple #[.agg #[Y cols,zS R (canZ p m mod cols zs).length (canZ p m mod cols zs).length],zL VA n ck,Y 0])/\RowsAt w' w'.heap.size (zO R) (nzs (canZ p m mod cols zs))))
structure Box4 (w:World) (p m:Int) (Am:Option Addr) (n cm:Nat) (cols:Int) (A:Option Addr) (nz c:Nat) (tt:TypeId) (r:Array Value) (W:World):Prop where
 below:Below w.heap.size w W
 size:w.heap.size+2<W.heap.size
 k0:W.heap[w.heap.size]?=some (.cells (Ci p m Am n cm).toArray 29 (0,0))
 k1:W.heap[w.heap.size+1]?=some (.cells (De cols A nz c).toArray 54 (0,0))
 k2:W.heap[w.heap.size+1+1]?=some (.cells r tt (0,0))
section
variable {w:World} {p m:Int} {Am:Option Addr} {n cm:Nat} {cols:Int} {A:Option Addr} {nz c:Nat} {tt:TypeId} {r:Array Value} {W W':World}
theorem Box4.keep(h:Box4 w p m Am n cm cols A nz c tt r W)(d:Below W.heap.size W W'):Box4 w p m Am n cm cols A nz c tt r W':=by have b:=h.size;exact⟨h.below.trans (d.mono U0),Nat.lt_of_lt_of_le b d.size,(d.block _ U0).trans h.k0,(d.block _ U0).trans h.k1,(d.block _ U0).trans h.k2⟩
theorem Box4.set(h:Box4 w p m Am n cm cols A nz c tt r W)(b:Array Value):Box4 w p m Am n cm cols A nz c tt b (W.setRow (w.heap.size+1+1) b):=
 ⟨qaR h.below U0 b,by simpa using h.size,(setRow_other W _ _ _ U0).trans h.k0,(setRow_other W _ _ _ U0).trans h.k1,setRow_same W _ _ _ b h.k2⟩
theorem box3(w:World)(p m:Int)(Am:Option Addr)(n cm:Nat)(cols:Int)(A:Option Addr)(nz c:Nat)(tt:TypeId)(r:Array Value):Box4 w p m Am n cm cols A nz c tt r
 (((w.alloc (Ce p m Am n cm)).alloc (Cp cols A nz c)).alloc (.cells r tt)):=by
 refine⟨((((Below.refl _ _).alloc (Nat.le_refl _) _).alloc U2 _).alloc so _),U2,?_,?_,?_⟩
 . exact((Below.heap_alloc _ _ _ so).trans (Below.heap_alloc _ _ _ U2)).trans (heap_alloc_new _ _)
 . refine(Below.heap_alloc _ _ _ U2).trans ?_;have:=heap_alloc_new (w.alloc (Ce p m Am n cm)) (Cp cols A nz c);rw[show(w.alloc (Ce p m Am n cm)).heap.size=w.heap.size+1 by simp] at this;exact this
 . have:=heap_alloc_new ((w.alloc (Ce p m Am n cm)).alloc (Cp cols A nz c)) (.cells r tt);rw[show((w.alloc (Ce p m Am n cm)).alloc (Cp cols A nz c)).heap.size=w.heap.size+1+1 by simp] at this;exact this
end
theorem canonical_c(p m:Int)(mod:List Int)(Am:Option Addr)(cm:Nat)(cols:Int)(zs:List (List Int))(A:Option Addr)(c:Nat)(w:World)(Z:IntsAt w w.heap.size Am mod)(hl:mod.length<=9223372036854775807)(X:RowsAt w w.heap.size A zs)(V:zs.length<=9223372036854775807)(h1:1<=cols):
 zC 141 #[Ch p m Am mod.length cm,Cy cols A zs.length c] w (CanPost w p m mod cols zs):=by
 have r:=zH ((box3 w p m Am mod.length cm cols A zs.length c 54 (Dk)).keep ((Below.refl _ _).alloc (Nat.le_refl _) (Cp cols A zs.length c)));have v:Hid (((((w.alloc (Ce p m Am mod.length cm)).alloc (Cp cols A zs.length c)).alloc (Dj)).alloc (Cp cols A zs.length c)).heap[w.heap.size+1+1+1]?=some (Cp cols A zs.length c)):=by have:=heap_alloc_new (((w.alloc (Ce p m Am mod.length cm)).alloc (Cp cols A zs.length c)).alloc (Dj)) (Cp cols A zs.length c);rw[show(((w.alloc (Ce p m Am mod.length cm)).alloc (Cp cols A zs.length c)).alloc (Dj)).heap.size=w.heap.size+1+1+1 by simp] at this;exact this
 have H:=zH Z;have z:=zH X;clear Z X;go_enter Tryz.func141,Tryz.ntmps141;go_wp2_with fail;generalize (((w.alloc (Ce p m Am mod.length cm)).alloc (Cp cols A zs.length c)).alloc (Dj)).alloc (Cp cols A zs.length c)=I at *;have E:=zH (open_c p m mod Am cm cols zs A c (w.heap.size+1+1+1) 1 I ((H.out.keep r.out.below).more r.out.below.size) hl ((z.out.keep r.out.below).more r.out.below.size) V v.out);(with_reducible refine E.out.mono ?_);rintro e h ⟨hb1,hcase⟩;have b:=zH (r.out.keep hb1);have s:=zH ((z.out.keep b.out.below).more b.out.below.size);clear r H z E v hb1;clear I;have f:Hid (errC p m mod cols zs=if fieldOK p m mod=true then checkZ (p.toNat^m.toNat) cols zs else 1):=rfl;have k:=zH b.out.k2;rcases hcase with⟨d,rfl⟩|⟨d,q,rfl⟩|⟨d,q,Q,rfl,K⟩
 . (have j:Hid (errC p m mod cols zs=1):=by show _=_;rw[f.out,if_neg (by rw[d];simp)]);have i:=zH (b.out.set (Dk));clear d;go_wp2_with (refine wpList_store_row rfl 54 (.tmp 4) (.tmp 20) rfl h (w.heap.size+1+1) 54 (Dk) (Dk) rfl rfl k.out matSize rfl sc ?_);refine bodyPost_ret (qbV (P:=Tryz.prog) rfl _ _ (w.heap.size+1+1) 54 (Dk) (0,0) _ _ _ rfl rfl rfl i.out.k2 Tryz.underlying54 rfl matSize) rfl ?_;exact⟨i.out.below,.inl ⟨by rw[j.out];decide,by rw[j.out];rfl⟩⟩
 . (have j:Hid (errC p m mod cols zs=checkZ (p.toNat^m.toNat) cols zs):=by show _=_;rw[f.out,if_pos d]);(have U:(checkZ (p.toNat^m.toNat) cols zs != 0)=true:=by simp[q]);have N:=zH q;have i:=zH (b.out.set (Dk));clear d q;go_wp2_with (refine wpList_store_row rfl 54 (.tmp 4) (.tmp 20) rfl h (w.heap.size+1+1) 54 (Dk) (Dk) rfl rfl k.out matSize rfl sc ?_);refine bodyPost_ret (qbV (P:=Tryz.prog) rfl _ _ (w.heap.size+1+1) 54 (Dk) (0,0) _ _ _ rfl rfl rfl i.out.k2 Tryz.underlying54 rfl matSize) rfl ?_;exact⟨i.out.below,.inl ⟨by rw[j.out];exact N.out,by rw[j.out];rfl⟩⟩
 . (have j:Hid (errC p m mod cols zs=0):=by show _=_;rw[f.out,if_pos d,q]);obtain⟨o,y,S,T,D⟩:=check_grid q;have M:=zH o;(have t:Hid (RowsAt h h.heap.size A (nzs (natR zs))):=by show RowsAt _ _ _ _;rw[o];exact s.out);have g:=zH (canon_c Q h.heap.size p.toNat m.toNat cols.toNat (mdOf m mod) (lOf p m mod) (natR zs) A c h (field_ft d) K (Nat.le_refl _) t.out y U0 U0 (by rw[natR_len];exact D));rw[natR_len,show((cols.toNat:Nat):Int)=cols by omega] at g;have B:Hid (canonM (opsT p.toNat m.toNat (lOf p m mod)) (natR zs) cols.toNat=canZ p m mod cols zs):=rfl;rw[B.out] at g;have J:h.cell? (zA (w.heap.size+1) 0)=some (Y cols):=cell_of_row _ _ 0 _ _ _ b.out.k1;have O:h.cell? (zA (w.heap.size+1) 1)=some (zL A zs.length c):=cell_of_row _ _ 1 _ _ _ b.out.k1;clear d q K o y s t;go_wp2_with fail;(with_reducible refine g.out.mono ?_);rintro e L ⟨⟨R,VA,n,ck,rfl,hra⟩,hb2⟩;have l:=zH (b.out.keep hb2);have C:=zH hra;have u:=zH l.out.k2;have x:w.heap.size+1+1<h.heap.size:=b.out.size;clear hra hb2 g k b J O;have J:L.cell? (zA (w.heap.size+1) 0)=some (Y cols):=cell_of_row _ _ 0 _ _ _ l.out.k1;have i:=zH (l.out.set (Dc cols R (canZ p m mod cols zs).length (canZ p m mod cols zs).length));go_wp2_with (refine wpList_store_row rfl 54 (.tmp 4) (.tmp 34) rfl L (w.heap.size+1+1) 54 (Dk) (Dc cols R (canZ p m mod cols zs).length (canZ p m mod cols zs).length) rfl rfl u.out matSize rfl sc ?_);refine bodyPost_ret (qbV (P:=Tryz.prog) rfl _ _ (w.heap.size+1+1) 54 (Dc cols R (canZ p m mod cols zs).length (canZ p m mod cols zs).length) (0,0) _ _ _ rfl rfl rfl i.out.k2 Tryz.underlying54 rfl matSize) rfl ?_;exact⟨i.out.below,.inr ⟨j.out,R,VA,n,ck,rfl,(C.out.setRow x _).rowsAt⟩⟩
theorem viewSize:(Tryz.prog.info? 122).map (·.size)=some 4:=U1
def spZ(p m:Int)(mod:List Int)(cols:Int)(zs:List (List Int)):Int:=if errC p m mod cols zs≠0 then errC p m mod cols zs else if nzs (canZ p m mod cols zs)=zs then 0 else 5
def SpPost(w:World)(z:Int)(e:Ending)(w':World):Prop:=
 Below w.heap.size w w'/\∃v0 v1 v2 v3:Value,#[v0,v1,v2,v3].all (·.oneCell')=true/\e=.returned (.tuple #[.agg #[v0,v1,v2,v3],Y z])
theorem canZ_rows{p m:Int}{mod:List Int}{cols:Int}{zs:List (List Int)}(h:errC p m mod cols zs=0)(k:Nat)(j:k<(nzs (canZ p m mod cols zs)).length):((nzs (canZ p m mod cols zs)).getD k []).length<=9223372036854775807:=by
 have b:fieldOK p m mod=true:=by
  unfold errC at h;split at h
  . assumption
  . cases h
 unfold errC at h;rw[if_pos b] at h;obtain⟨_,c,_,f,_⟩:=check_grid h;have g:=(qdT (qdA (field_ft b)) c cols.toNat (Nat.le_refl _)).2;rw[nzs_len] at j;have d:k<(elGo (opsT p.toNat m.toNat (lOf p m mod)) (natR zs) cols.toNat).piv.length:=by have:=canonM_len (opsT p.toNat m.toNat (lOf p m mod)) (natR zs) cols.toNat;unfold canZ at j;omega
 have e:(canZ p m mod cols zs).getD k []=(elGo (opsT p.toNat m.toNat (lOf p m mod)) (natR zs) cols.toNat).rows.getD k []:=canonM_getD _ _ _ _ d;have:=(elGo_piv (O:=opsT p.toNat m.toNat (lOf p m mod)) (natR zs) cols.toNat).2;rw[nzs_getD,qaA,e,(g.row (i:=k) U0).1];omega
theorem canZ_len{p m:Int}{mod:List Int}{cols:Int}{zs:List (List Int)}(h:errC p m mod cols zs=0):(nzs (canZ p m mod cols zs)).length<=256:=by
 have b:fieldOK p m mod=true:=by
  unfold errC at h;split at h
  . assumption
  . cases h
 unfold errC at h;rw[if_pos b] at h;obtain⟨_,d,_,_,g⟩:=check_grid h;rw[nzs_len];have f:=canonM_len (opsT p.toNat m.toNat (lOf p m mod)) (natR zs) cols.toNat;have c:=(elGo_piv (O:=opsT p.toNat m.toNat (lOf p m mod)) (natR zs) cols.toNat).2;rw[natR_len] at c;unfold canZ;omega
theorem sopen_c(p m:Int)(mod:List Int)(Am:Option Addr)(cm:Nat)(cols:Int)(zs:List (List Int))(A:Option Addr)(c:Nat)(w:World)(hM:IntsAt w w.heap.size Am mod)(hl:mod.length<=9223372036854775807)(hA:RowsAt w w.heap.size A zs)(aa:zs.length<=9223372036854775807)(h1:1<=cols):
 zC 97 #[Ch p m Am mod.length cm,Cy cols A zs.length c] w (SpPost w (spZ p m mod cols zs)):=by
 have v:=zH (box3 w p m Am mod.length cm cols A zs.length c 122 (Dd none));have Q:=zH hM;have K:=zH hA;clear hM hA;go_enter Tryz.func97,Tryz.ntmps97;go_wp2_with fail;generalize ((w.alloc (Ce p m Am mod.length cm)).alloc (Cp cols A zs.length c)).alloc (Ct none)=U at *;have T:=zH (canonical_c p m mod Am cm cols zs A c U ((Q.out.keep v.out.below).more v.out.below.size) hl ((K.out.keep v.out.below).more v.out.below.size) aa h1);(with_reducible refine T.out.mono ?_);rintro e r ⟨hb1,hcase⟩;have s:=zH (v.out.keep hb1);clear v T hb1;clear U;rcases hcase with⟨i,rfl⟩|⟨i,R,I,n,J,rfl,E⟩
 . (have z:Hid (spZ p m mod cols zs=errC p m mod cols zs):=by show _=_;unfold spZ;rw[if_pos i]);(have X:(errC p m mod cols zs != 0)=true:=by simp[i]);clear i;have D:=zH (s.out.keep ((Below.refl _ _).alloc (Nat.le_refl _) (Dj)));go_upto_region 2 with(refine qaH rfl 54 (.tmp 6) (.tmp 14) rfl r _ (Dk) rfl rfl matSize rfl sc ?_);generalize r.alloc (Dj)=x at *;have M:=zH D.out.k2;have q:=zH (D.out.set (Dd none));go_wp2_with (refine wpList_store_row rfl 122 (.tmp 4) (.tmp 19) rfl x (w.heap.size+1+1) 122 (Dd none) (Dd none) rfl rfl M.out viewSize rfl sc ?_);refine bodyPost_ret (results_row_one (P:=Tryz.prog) rfl _ _ (w.heap.size+1+1) 122 (Dd none) (0,0) _ _ rfl rfl q.out.k2 Tryz.underlying122 rfl viewSize) rfl ?_;exact⟨q.out.below,.pointer none,Y 0,zL none 0 0,zL none 0 0,sc,by rw[z.out];rfl⟩
 . have C := zH E;have o:=zH (canZ_rows i);have u:fieldOK p m mod=true:=by
    unfold errC at i;split at i
    . assumption
    . cases i
   (have k:Hid (spZ p m mod cols zs=if nzs (canZ p m mod cols zs)=zs then 0 else 5):=by show _=_;unfold spZ;rw[if_neg (by simp[i])]);have S:=zH i;clear i E;(have L:(nzs (canZ p m mod cols zs)).length<=9223372036854775807:=by have:=canZ_len S.out;omega);generalize canZ p m mod cols zs=b at *;have g:=zH (s.out.keep ((Below.refl _ _).alloc (Nat.le_refl _) (Dg cols R b.length b.length)));have l:Hid (RowsAt (r.alloc (Dg cols R b.length b.length)) (r.alloc (Dg cols R b.length b.length)).heap.size (zO R) (nzs b)):=(C.out.keep ((Below.refl _ _).alloc (Nat.le_refl _) _)).more U2;have B:Hid ((r.alloc (Dg cols R b.length b.length)).cell? (zA r.heap.size 1)=some (zS R b.length b.length)):=World.cell?_alloc_new _ _ _ 1;go_upto_region 4 with(refine qaH rfl 54 (.tmp 6) (.tmp 14) rfl r _ (Dc cols R b.length b.length) rfl rfl matSize rfl sc ?_);generalize r.alloc (Dg cols R b.length b.length)=x at *;have V:=B.out;have W:x.cell? (zA (w.heap.size+1) 1)=some (zL A zs.length c):=cell_of_row _ _ 1 _ _ _ g.out.k1;have f:=zH (sequalf_c (nzs b) zs (zO R) A b.length c x l.out ((K.out.keep g.out.below).more g.out.below.size) L o.out);rw[nzs_len] at f;clear o C l B s;by_cases h:nzs b=zs
   . rw[decide_eq_true h] at f;(have z:Hid (spZ p m mod cols zs=0):=by show _=_;rw[k.out,if_pos h]);clear h k;go_wp2_with fail;(with_reducible refine f.out.mono ?_);rintro e H ⟨rfl,n3,rfl⟩;have d:=zH (g.out.keep (qaB (Below.refl _ _) n3));clear V W g f;generalize x.drewN n3=H at *;have j:=zH (range_of_row d.out.k0);have y:=zH (fnew_ok p m mod Am cm H ((Q.out.keep d.out.below).more d.out.below.size) u);clear u Q K;go_wp2_with (refine wpList_load_mid rfl 29 (.tmp 2) rfl w.heap.size 0 rfl (Ci p m Am mod.length cm) _ j.out Tryz.underlying29 rfl fieldSize ?_);(with_reducible refine y.out.mono ?_);rintro e Z ⟨⟨gb,rfl,hgb0,hg⟩,hb4⟩;have t:=zH (d.out.keep hb4);clear hgb0 hg hb4 y d j;have j:=zH (range_of_row t.out.k1);have O:=zH t.out.k2;have q:=zH (t.out.set (Cu gb cols A zs.length c I n J));go_wp2_with (first|(refine wpList_load_mid rfl 54 (.tmp 3) rfl (w.heap.size+1) 0 rfl (De cols A zs.length c) _ j.out Tryz.underlying54 rfl matSize ?_)|(refine wpList_store_row rfl 122 (.tmp 4) (.tmp 36) rfl Z (w.heap.size+1+1) 122 (Dd none) (Cu gb cols A zs.length c I n J) rfl rfl O.out viewSize rfl sc ?_));refine bodyPost_ret (results_row_one (P:=Tryz.prog) rfl _ _ (w.heap.size+1+1) 122 (Cu gb cols A zs.length c I n J) (0,0) _ _ rfl rfl q.out.k2 Tryz.underlying122 rfl viewSize) rfl ?_;exact⟨q.out.below,zP gb,Y cols,zL A zs.length c,zL I n J,sc,by rw[z.out];rfl⟩
   . rw[decide_eq_false h] at f;(have z:Hid (spZ p m mod cols zs=5):=by show _=_;rw[k.out,if_neg h]);clear h k u;go_wp2_with fail;(with_reducible refine f.out.mono ?_);rintro e H ⟨rfl,n3,rfl⟩;have d:=zH (g.out.keep (qaB (Below.refl _ _) n3));clear V W g f;generalize x.drewN n3=H at *;have N:=zH d.out.k2;have q:=zH (d.out.set (Dd none));go_wp2_with (refine wpList_store_row rfl 122 (.tmp 4) (.tmp 27) rfl H (w.heap.size+1+1) 122 (Dd none) (Dd none) rfl rfl N.out viewSize rfl sc ?_);refine bodyPost_ret (results_row_one (P:=Tryz.prog) rfl _ _ (w.heap.size+1+1) 122 (Dd none) (0,0) _ _ rfl rfl q.out.k2 Tryz.underlying122 rfl viewSize) rfl ?_;exact⟨q.out.below,.pointer none,Y 0,zL none 0 0,zL none 0 0,sc,by rw[z.out];rfl⟩
theorem scheck_c(p m:Int)(mod:List Int)(Am:Option Addr)(cm:Nat)(cols:Int)(zs:List (List Int))(A:Option Addr)(c:Nat)(w:World)(s:IntsAt w w.heap.size Am mod)(u:mod.length<=9223372036854775807)(q:RowsAt w w.heap.size A zs)(o:zs.length<=9223372036854775807)(t:1<=cols):
 zC 48 #[Ch p m Am mod.length cm,Cy cols A zs.length c] w fun e w'=>e=.returned (Y (spZ p m mod cols zs))/\Below w.heap.size w w':=by have b:Hid (Below w.heap.size w ((w.alloc (Ce p m Am mod.length cm)).alloc (Cp cols A zs.length c))):=((Below.refl _ _).alloc (Nat.le_refl _) _).alloc U2 _;have i:=zH s;have g:=zH q;clear s q;go_enter Tryz.func48,Tryz.ntmps48;go_wp2_with fail;generalize (w.alloc (Ce p m Am mod.length cm)).alloc (Cp cols A zs.length c)=j at *;have h:=zH (sopen_c p m mod Am cm cols zs A c j ((i.out.keep b.out).more b.out.size) u ((g.out.keep b.out).more b.out.size) o t);(with_reducible refine h.out.mono ?_);rintro e k ⟨hb1,v0,v1,v2,v3,hv,rfl⟩;have d:=zH (b.out.trans (hb1.mono b.out.size));have l:=zH hv;clear hb1 hv h i g b;clear j;have f:Hid (Below w.heap.size w (k.alloc (.cells #[v0,v1,v2,v3] 122))):=d.out.alloc d.out.size _;go_wp2_with (refine qaH rfl 122 (.tmp 5) (.tmp 11) rfl k _ #[v0,v1,v2,v3] rfl rfl viewSize rfl l.out ?_);go_ret;exact⟨rfl,f.out⟩
section
variable {P:Program} {ops:Array Oper} {S:World->Prop}
theorem keep_load_mid{Q:Act->Prop}{a:Act}{o:Oper}{rest:List Oper}(i:o.guard=none)(f:TypeId)(x:Operand)(k:o.op=.load f x)(b c:Nat)(m:a.eval x=.pointer (some (zA b c)))(cs:List Value)(d:TypeDesc)(g:∀w,S w->w.rangeAt b c cs)(l:P.underlying f=some d)(hd:d.isRow=true)(j:(P.info? f).map (·.size)=some cs.length)(h:wpKeep P ops S Q rest (a.put o.dst (.agg cs.toArray))):wpKeep P ops S Q (o :: rest) a:=
 qaJ i (fun W hW=>by
  unfold execOp
  simp only[k,m,Instr.loadAt,Instr.sureAddr,Sem.run_bind,Sem.run_pure,Result.andThen_ok,run_loadVar_mid W b c f cs d (g W hW) l hd j]) h
end
theorem codeSize:(Tryz.prog.info? 32).map (·.size)=some 5:=U1
def lengthZ(n:Int):Int:=if n<1\/64<n then 4 else 0
theorem length_c(n:Int)(w:World):zC 47 #[Y n] w fun e w'=>e=.returned (Y (lengthZ n))/\w=w':=by
 by_cases c:n<1
 . (have b:Hid (lengthZ n=4):=by show _=_;unfold lengthZ;rw[if_pos U0]);go_enter Tryz.func47,Tryz.ntmps47;go_wp2_with fail;go_ret;exact⟨qaG b.out.symm,rfl⟩
 . by_cases d : 64 < n
   . (have b:Hid (lengthZ n=4):=by show _=_;unfold lengthZ;rw[if_pos U0]);go_enter Tryz.func47,Tryz.ntmps47;go_wp2_with fail;go_ret;exact⟨qaG b.out.symm,rfl⟩
   . (have b:Hid (lengthZ n=0):=by show _=_;unfold lengthZ;rw[if_neg U0]);go_enter Tryz.func47,Tryz.ntmps47;go_wp2_with fail;go_ret;exact⟨qaG b.out.symm,rfl⟩
theorem gen_c(p m:Int)(h:Option Addr)(n i:Nat)(N:Int)(A:Option Addr)(nz c:Nat)(w:World):
 zC 49 #[Ck p m h n i N A nz c] w fun e w'=>e=.returned (Cy N A nz c)/\Below w.heap.size w w':=by
 have d:Hid (Below w.heap.size w (w.alloc (Cf p m h n i N A nz c))):=(Below.refl _ _).alloc (Nat.le_refl _) _;go_enter Tryz.func49,Tryz.ntmps49;have b:Hid ((w.alloc (Cf p m h n i N A nz c)).heap.size=w.heap.size+1):=U7;have g:Hid (((w.alloc (Cf p m h n i N A nz c)).alloc (Cp N A nz c)).heap[w.heap.size+1]?=some (Cp N A nz c)):=by have:=heap_alloc_new (w.alloc (Cf p m h n i N A nz c)) (Cp N A nz c);rw[b.out] at this;exact this
 have f:Hid (Below w.heap.size w ((w.alloc (Cf p m h n i N A nz c)).alloc (Cp N A nz c))):=d.out.alloc (by rw[b.out];omega) _;go_wp2_with (refine qaH rfl 54 (.tmp 2) (.tmp 7) rfl (w.alloc (Cf p m h n i N A nz c)) _ #[Y N,zL A nz c] (by show _=Value.pointer (zO (_));rw[b.out];rfl) rfl matSize rfl sc ?_);refine bodyPost_ret (results_cell_row (P:=Tryz.prog) rfl _ _ (w.heap.size+1) 54 #[Y N,zL A nz c] (0,0) _ rfl g.out Tryz.underlying54 rfl matSize) rfl ?_;exact⟨rfl,f.out⟩
def codeZ(p m:Int)(mod:List Int)(N:Int)(zs:List (List Int)):Int:=if fieldOK p m mod=false then 1 else if lengthZ N≠0 then 4 else spZ p m mod N zs
def SBoxC(w:World)(cs:List Value)(W:World):Prop:=W.heap[w.heap.size]?=some (.cells cs.toArray 32 (0,0))/\Below w.heap.size w W/\w.heap.size<W.heap.size
theorem SBoxC.grow{w:World}{cs:List Value}{W g:World}(h:SBoxC w cs W)(f:Below W.heap.size W g):SBoxC w cs g:=by obtain⟨c,d,b⟩:=h;exact⟨(f.block _ b).trans c,d.trans (f.mono (Nat.le_of_lt b)),Nat.lt_of_lt_of_le b f.size⟩
theorem SBoxC.range{w:World}{cs:List Value}{W:World}(h:SBoxC w cs W):W.rangeAt w.heap.size 0 cs:=range_of_row h.1
theorem SBoxC.range3{w:World}{c v1 v2 d f:Value}{W:World}(h:SBoxC w [c,v1,v2,d,f] W):W.rangeAt w.heap.size 0 [c,v1,v2]:=fun j v hv=>by
 have b:=range_of_row h.1
 refine b j v ?_
 rcases j with _|_|_|j
 . exact hv
 . exact hv
 . exact hv
 . simp at hv
theorem codecheck_c(p m:Int)(mod:List Int)(B:Option Addr)(C:Nat)(N:Int)(zs:List (List Int))(A:Option Addr)(c:Nat)(w:World)(H:IntsAt w w.heap.size B mod)(I:mod.length<=9223372036854775807)(E:RowsAt w w.heap.size A zs)(D:zs.length<=9223372036854775807):
 zC 27 #[Ck p m B mod.length C N A zs.length c] w fun e w'=>e=.returned (Y (codeZ p m mod N zs))/\Below w.heap.size w w':=by
 have l:Hid (SBoxC w (Ca p m B mod.length C N A zs.length c) (w.alloc (Cf p m B mod.length C N A zs.length c))):=
  ⟨heap_alloc_new _ _,(Below.refl _ _).alloc (Nat.le_refl _) _,U2⟩
 have r:=zH H;have u:=zH E;clear H E;go_enter Tryz.func27,Tryz.ntmps27;go_upto_region 1 with fail;generalize w.alloc (Cf p m B mod.length C N A zs.length c)=x at *;have k:=zH l.out.range3;have v:=zH (fcheck_c p m mod B C x ((r.out.keep l.out.2.1).more l.out.2.1.size) I);go_wp2_with (refine wpList_load_mid rfl 29 (.tmp 4) rfl w.heap.size 0 rfl (Ci p m B mod.length C) _ k.out Tryz.underlying29 rfl fieldSize ?_);(with_reducible refine v.out.mono ?_);rintro e h ⟨rfl,hb1⟩;have f:=zH (l.out.grow hb1);clear hb1 l v k;clear x;cases hok:fieldOK p m mod
 . (have i:Hid (codeZ p m mod N zs=1):=by show _=_;unfold codeZ;rw[if_pos hok]);have g:errF false=1:=rfl;rw[g];clear hok g;go_wp2_with fail;go_ret;exact⟨qaG i.out.symm,f.out.2.1⟩
 . have g : errF true = 0 := rfl;rw [g];have y:h.cell? (zA w.heap.size 3)=some (Y N):=cell_of_row _ _ 3 _ _ _ f.out.1;clear g;by_cases o:N<1\/64<N
   . (have d:lengthZ N=4:=by unfold lengthZ;rw[if_pos o]);(have i:Hid (codeZ p m mod N zs=4):=by show _=_;unfold codeZ;rw[if_neg (by simp[hok]),if_pos (by rw[d];decide)]);(have q:Hid (zC 47 #[Y N] h fun e w'=>e=.returned (Y 4)/\h=w'):=by have:=length_c N h;rw[d] at this;exact this);clear hok o d;go_wp2_with (go_at_call 47;(with_reducible refine q.out.mono ?_);rintro e w' ⟨rfl,rfl⟩);go_ret;exact⟨qaG i.out.symm,f.out.2.1⟩
   . (have b : lengthZ N = 0 := by unfold lengthZ;rw [if_neg o]);(have i:Hid (codeZ p m mod N zs=spZ p m mod N zs):=by show _=_;unfold codeZ;rw [if_neg (by simp [hok]),if_neg (by rw [b];decide)]);(have q:Hid (zC 47 #[Y N] h fun e w'=>e=.returned (Y 0)/\h=w'):=by have:=length_c N h;rw [b] at this;exact this)
     have j:Hid (∀W,SBoxC w (Ca p m B mod.length C N A zs.length c) W->zC 49 #[Ck p m B mod.length C N A zs.length c] W fun e w'=>e=.returned (Cy N A zs.length c)/\SBoxC w (Ca p m B mod.length C N A zs.length c) w'):=
      fun W hW=>(gen_c p m B mod.length C N A zs.length c W).mono fun e w' ⟨g,hb⟩=>⟨g,hW.grow hb⟩
     have s:Hid (∀W,SBoxC w (Ca p m B mod.length C N A zs.length c) W->zC 48 #[Ch p m B mod.length C,Cy N A zs.length c] W fun e w'=>e=.returned (Y (spZ p m mod N zs))/\SBoxC w (Ca p m B mod.length C N A zs.length c) w'):=
      fun W hW=>(scheck_c p m mod B C N zs A c W ((r.out.keep hW.2.1).more hW.2.1.size) I ((u.out.keep hW.2.1).more hW.2.1.size) D U0).mono fun e w' ⟨g,hb⟩=>⟨g,hW.grow hb⟩
     clear hok o b r u;go_upto_region 6 with(go_at_call 47;(with_reducible refine q.out.mono ?_);rintro e w' ⟨rfl,rfl⟩);clear y;refine qaD (SBoxC w (Ca p m B mod.length C N A zs.length c)) U1 U1 (f.out.grow (Below.refl _ _).drew) ?_
     repeat (first
      | (refine keep_load_mid rfl 29 (.tmp 14) rfl w.heap.size 0 rfl (Ci p m B mod.length C) _ (fun W hW => hW.range3) Tryz.underlying29 rfl fieldSize ?_
         go_simp)
      | (refine keep_load_mid rfl 32 (.tmp 1) rfl w.heap.size 0 rfl (Ca p m B mod.length C N A zs.length c) _ (fun W hW => hW.range) Tryz.underlying32 rfl codeSize ?_
         go_simp)
      | (apply qaJ rfl
         . intro W n
           go_simp
           rfl
         go_simp)
      | (apply qaO rfl
         . intro W n
           go_simp
           exact⟨rfl,rfl⟩
         . intro W n
           first
            |exact j.out W n
            |exact s.out W n
         go_simp))
     refine qaE ?_;intro z t;go_wp2_with fail;go_ret;exact⟨qaG i.out.symm,t.2.1⟩
theorem orderM_wide{p m:Nat}(f:2<=p)(d:1<=m)(c:m<=8):orderM p m=if 256<p^m then 0 else((p^m:Nat):Int):=by
 by_cases h:p<=256
 . exact qbX f h d c
 . rw[qbQ U0,if_pos];have b:=qbZ (p:=p) (k:=1) (m:=m) f d;rw[Nat.pow_one] at b;omega
theorem rorder_c(p m:Int)(A:Option Addr)(n c:Nat)(w:World):zC 33 #[Ch p m A n c] w fun e w'=>e=.returned (Y (orderM p m))/\Below w.heap.size w w':=by
 have b:Hid (Below w.heap.size w (w.alloc (Ce p m A n c))):=(Below.refl _ _).alloc (Nat.le_refl _) _;by_cases j:p<2
 . have f:=zH (qbQ (p:=p) (m:=m) (.inl j));go_enter Tryz.func33,Tryz.ntmps33;go_wp2_with fail;go_ret;exact⟨qaG f.out.symm,b.out⟩
 . by_cases H : m < 1
   . have f:=zH (qbQ (p:=p) (m:=m) (.inr (.inr (.inl H))));go_enter Tryz.func33,Tryz.ntmps33;go_wp2_with fail;go_ret;exact⟨qaG f.out.symm,b.out⟩
   . by_cases I : 8 < m
     . have f:=zH (qbQ (p:=p) (m:=m) (.inr (.inr (.inr I))));go_enter Tryz.func33,Tryz.ntmps33;go_wp2_with fail;go_ret;exact⟨qaG f.out.symm,b.out⟩
     . obtain ⟨p,rfl⟩ := Int.eq_ofNat_of_zero_le (by omega : 0 <= p);obtain ⟨m,rfl⟩:=Int.eq_ofNat_of_zero_le (by omega:0<=m);have y:2<=p:=U0;have L:1<=m:=U0;have l:m<=8:=U0;have s:=zH (orderM_wide y L l);have hd:(256:Int) / (p:Int)=((256 / p:Nat):Int):=rfl;have g:Hid (∀ q:Nat,256 / p<q ↔ 256<q*p):=fun q=>Nat.div_lt_iff_lt_mul U0;generalize 256 / p=E at *;go_enter Tryz.func33,Tryz.ntmps33;go_wp2_with fail;have u:=cell_of_row (w.alloc (Ce p m A n c)) w.heap.size 0 _ _ _ (heap_alloc_new w _);have v:=cell_of_row (w.alloc (Ce p m A n c)) w.heap.size 1 _ _ _ (heap_alloc_new w _);generalize w.alloc (Ce p m A n c)=t at *;have C:t.cell? (zA w.heap.size 0)=some (Y (p:Int)):=u;have D:t.cell? (zA w.heap.size 1)=some (Y (m:Int)):=v;clear u v;go_loop [3,4] (fun a i=>∃ k:Nat,k<=m/\p ^ k<=256/\i=Y k/\a=Y ((p ^ k:Nat):Int)) (fun _ i=>m-(intOf i).toNat);case atStart=>exact ⟨0,U0,U2,rfl,U2⟩
       case round =>
        obtain⟨k,M,N,rfl,rfl⟩:=hrel;by_cases K:k<m
        . have h : Hid (p ^ (k + 1) = p ^ k * p) := Nat.pow_succ _ _;have z:=zH (qbZ y (show k+1<=m by omega));generalize p ^ k=q at *;have d:=g.out q;by_cases J:E<q
          . (have B:Hid (orderM p m=0):=by show _=_;rw[s.out,if_pos];have j:=z.out;rw[h.out] at j;have:=d.1 J;omega);clear d;go_wp2_with fail;go_ret;exact⟨qaG B.out.symm,b.out⟩
          . (have o : q * p<=256:=by omega);have x:(q:Int)*(p:Int)=((q*p:Nat):Int):=(Int.natCast_mul _ _).symm;clear d;generalize q*p=O at *;go_wp2_with fail;go_round;case rel=>exact⟨k+1,U0,by rw[h.out];exact o,gn,by rw[h.out]⟩
            case measure=>exact mE
        . (obtain rfl:k=m:=by omega);generalize r:p^k=q at *;clear r;go_wp2_with fail;go_ret;exact⟨qaG (by rw[s.out,if_neg U0]),b.out⟩
theorem primeB_iff(n:Nat):primeB n=true ↔ ∀ d,2<=d->d<n->n % d≠0:=by
 unfold primeB;rw[List.all_eq_true];constructor
 . intro h d f b;have:=h d (List.mem_range.2 b);simp only[Bool.or_eq_true,Nat.blt_eq,bne_iff_ne,ne_eq] at this;omega
 . intro h d b;have c:=List.mem_range.1 b;simp only[Bool.or_eq_true,Nat.blt_eq,bne_iff_ne,ne_eq];by_cases f:d<2
   . exact .inl f
   . exact .inr (h d U0 c)
theorem rprime_c(n:Nat)(y:n<=1000000)(w:World):zC 34 #[Y n] w fun e w'=>e=.returned (.bool (primeB n))/\w=w':=by
 have j:=zH (primeB_iff n);go_enter Tryz.func34,Tryz.ntmps34;go_wp2_with fail;go_loop [3] (fun v3=>∃k:Nat,2<=k/\(k<=n\/k=2)/\v3=Y k/\∀d,2<=d->d<k->n % d≠0) (fun v3=>n-(intOf v3).toNat);case atStart=>exact⟨2,U0,.inr rfl,rfl,fun d h1 h2=>U0⟩
 case round =>
  obtain⟨k,q,t,rfl,c⟩:=hrel;have b:=zH c;clear c;by_cases g:k<n
  . have x : Int.tmod (n : Int) (k : Int) = ((n % k : Nat) : Int) := qaY n k;have s:¬ (k:Int)=0:=U0;(have v:Hid (∀ d,d=k->n % d=n % k):=fun d e=>by rw [e]);generalize l:n % k=r at *;have f:=zH l;clear l;by_cases i:r=0
    . (have m:Hid (primeB n=false):=by show _=_;rw[<- Bool.not_eq_true,j.out];intro h;exact h k q g (by rw[f.out,i]));subst i;go_wp2_with fail;go_ret;exact⟨qaN m.out.symm,rfl⟩
    . (have u : ((r : Int) == 0) = false := by rw [beq_eq_false_iff_ne];omega);have o:Hid (∀ d,2<=d->d<k+1->n % d≠0):=fun d h1 h2=>by
       by_cases hd:d=k
       . rw[hd,f.out];exact i
       . exact b.out d h1 U0
      go_wp2_with fail;go_round;case rel=>exact⟨k+1,U0,.inl U0,gn,o.out⟩
      case measure=>exact mE
  . have p:Hid (primeB n=true):=j.out.2 (fun d h1 h2=>b.out d h1 U0);go_wp2_with fail;go_ret;exact⟨qaN p.out.symm,rfl⟩
theorem rdigits_c(x p m:Nat)(w:World)(Q:x<=1000000000)(S:1<=p)(P:p<=1000000000)(R:m<=1000):
 zC 85 #[Y x,Y p,Y m] w fun e w'=>e=.returned (zS w.heap.size m m)/\Row w' w.heap.size w.heap.size m (nz (digs p m x))/\Below w.heap.size w w':=by
 obtain⟨C,B,n,o,q⟩:=qaF infoInt;have E:=zH B;have v:=zH n;have z:=zH o;have s:=zH (show C.bytes*m<=281474976710656 by rw[q];omega);have t:=zH (show m<=maxLen by unfold maxLen;omega);clear B n o q;go_enter Tryz.func85,Tryz.ntmps85;go_wp2_with (refine wpList_make_full w rfl (.tmp 9) (.tmp 9) 23 rfl w.heap.size 3 C (Y 0) 1 Tryz.underlying23 E.out v.out z.out .i64 .i64 m m m rfl rfl rfl rfl s.out t.out (Nat.le_refl _) ?_;intro O d i);have u:=zH (Row.of_make d);have r:=zH (qaL i);clear d i;go_loopw [0,8] (fun v0 v13 wr=>RelDig w p m x v0 v13 wr) (fun _ v13 _=>m-(intOf v13).toNat);case atStart=>exact⟨0,U0,U2,rfl,u.out,r.out⟩
 case round =>
  obtain⟨k,J,rfl,rfl,b,A⟩:=hrel;have g:=zH b;have c:=zH A;have N:=b.frozen k;have D:Hid (x / p^(k+1)=x / p^k / p):=by rw[Nat.pow_succ,<- Nat.div_div_eq_div_mul];rfl
  have I:x / p^k<=1000000000:=Nat.le_trans (Nat.div_le_self _ _) Q;have H:=zH (fun h=>dgK_set p m x k h);have f:=zH (dgK_len p m x k J);by_cases l:k<m
  . have M:=b.cell (j:=k) (by rw[qaA,f.out];exact l);clear b A u r;generalize x / p^k=y at *;have K:0<=(y:Int) / (p:Int):=Int.ediv_nonneg U0 U0;have L:(y:Int) / (p:Int)<=(y:Int):=Int.ediv_le_self _ U0;go_wp2_with fail;go_roundw;case rel=>refine⟨k+1,U0,by rw[D.out];go_num,gn,?_,(c.out.setCell (Nat.le_refl _) _)⟩;rw[<- H.out l,<- qbC];exact g.out.set k _
    case measure=>exact mE
  . (obtain rfl:k=m:=by omega);clear b A u r;generalize x / p^k=y at *;go_wp2_with fail;go_ret;refine⟨rfl,?_,c.out⟩;have:=g.out;unfold dgK at this;rw[Nat.sub_self,List.replicate_zero,List.append_nil] at this;exact this
end Go.Proofs.YtndipkplnkfoeaaGreat
