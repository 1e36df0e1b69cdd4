/- Parts of the proof. -/
import Derived.Test.YtocbdafcolbfeaaGreatR30
set_option maxRecDepth 100000
set_option maxHeartbeats 8000000
namespace Go.Proofs.YtocbdafcolbfeaaGreat
open Go.RowKit Pln Go.Proofs.Tryz
def IxPost(w:Wo)(n:Nat)(P:Nat->Prop)(e:Ending)(w':Wo):Prop:=(∃z:Int,e=.returned (Y z)/\(z<0->∀i,i<n->P i))/\zB w w'
def CtPost(w:Wo)(n:Nat)(P:Nat->Prop)(e:Ending)(w':Wo):Prop:=(∃b:Bool,e=.returned (.bool b)/\(b=false->∀i,i<n->P i))/\zB w w'
def YsPost(w:Wo)(P:Prop)(e:Ending)(w':Wo):Prop:=(∃b:Bool,e=.returned (.bool b)/\(b=false->P))/\zB w w'
theorem indexinj_c(B:Value)(zs:LI)(P:Nat->Prop)(A:OA)(c:Nat)(w:Wo)(C:zI w A zs)(E:zs.length<=1000000)(D:∀ (k:Nat)(W:Wo),k<zs.length->zB w W->zC 226 #[Y (zs.getD k 0),B] W (YsPost W (P k))):
 zC 99 #[zL A zs.length c,.func (.func 226) #[] #[B]] w (IxPost w zs.length P):=by
 have p:=zH C;have s:=zH D;clear C D;go_enter func99,ntmps99;go_wp2;go_loopw [8] (fun v8 wr=>RelIz w zs.length P v8 wr) (fun v8 _=>zs.length-(intOf v8).toNat);case atStart=>exact⟨0,U0,rfl,Below.refl _ _,fun i h=>absurd h U0⟩
 case round =>
  obtain⟨k,x,rfl,m,n⟩:=hrel;have d:=zH m;have l:=zH n;clear m n;by_cases j:k<zs.length
  . obtain ⟨b,o,rfl,t,u⟩ := ((p.o.keep d.o).more d.o.size).at_ j;have q:=zH (s.o k wr j d.o);have y:(0:Int)<=(k:Int):=U0;have z:(k:Int)<(zs.length:Int):=U0;have v:IntKind.i64.wrap ((k:Int)+1)=(k:Int)+1:=IntWalk.i64_in _ U0;generalize zs.getD k 0=r at *;go_wp2_with fail;go_fit q.o;rintro e w' ⟨⟨bb,rfl,hbb⟩,hb2⟩;(have f:=zH<|d.o.trans (hb2.mono d.o.size));have g:=zH hbb;clear hb2 hbb;cases bb
    . go_wp2;go_roundw
      case rel=>exact⟨k+1,U0,gn,f.o,fun i hi=>by
       rcases Nat.lt_succ_iff_lt_or_eq.1 hi with h|rfl
       . exact l.o i h
       . first|exact g.o rfl|exact g.o trivial⟩
      case measure=>simp[intOf];omega
    . go_wp2;go_ret;exact⟨⟨_,rfl,fun h=>U0⟩,f.o⟩
  . (obtain rfl:k=zs.length:=by omega);go_wp2;go_ret;exact⟨⟨_,rfl,fun _=>l.o⟩,d.o⟩
theorem containsinj_c(j:Value)(zs:LI)(P:Nat->Prop)(A:OA)(c:Nat)(w:Wo)(l:zI w A zs)(n:zs.length<=1000000)(m:∀(k:Nat)(W:Wo),k<zs.length->zB w W->zC 226 #[Y (zs.getD k 0),j] W (YsPost W (P k))):
 zC 55 #[zL A zs.length c,.func (.func 226) #[] #[j]] w (CtPost w zs.length P):=by
 have d:=zH (indexinj_c j zs P A c w l n m);clear l m;go_enter func55,ntmps55;go_wp2_with fail;refine d.o.mono ?_;rintro e w' ⟨⟨z,rfl,hz⟩,hb⟩;have g:=zH hz;have b:=zH hb;clear hz hb;by_cases i:0<=z
 . go_wp2;go_ret;exact⟨⟨_,rfl,fun h=>by simp at h<;>omega⟩,b.o⟩
 . (have f:zK (z<0):=by show z<0;omega);clear i;go_wp2;go_ret;exact⟨⟨_,rfl,fun _=>g.o f.o⟩,b.o⟩
theorem indexfac_c(B:Value)(zs:LI)(P:Nat->Prop)(A:OA)(c:Nat)(w:Wo)(C:zI w A zs)(E:zs.length<=1000000)(D:∀ (k:Nat)(W:Wo),k<zs.length->zB w W->zC 227 #[Y (zs.getD k 0),B] W (YsPost W (P k))):
 zC 99 #[zL A zs.length c,.func (.func 227) #[] #[B]] w (IxPost w zs.length P):=by
 have p:=zH C;have s:=zH D;clear C D;go_enter func99,ntmps99;go_wp2;go_loopw [8] (fun v8 wr=>RelIz w zs.length P v8 wr) (fun v8 _=>zs.length-(intOf v8).toNat);case atStart=>exact⟨0,U0,rfl,Below.refl _ _,fun i h=>absurd h U0⟩
 case round =>
  obtain⟨k,x,rfl,m,n⟩:=hrel;have d:=zH m;have l:=zH n;clear m n;by_cases j:k<zs.length
  . obtain ⟨b,o,rfl,t,u⟩ := ((p.o.keep d.o).more d.o.size).at_ j;have q:=zH (s.o k wr j d.o);have y:(0:Int)<=(k:Int):=U0;have z:(k:Int)<(zs.length:Int):=U0;have v:IntKind.i64.wrap ((k:Int)+1)=(k:Int)+1:=IntWalk.i64_in _ U0;generalize zs.getD k 0=r at *;go_wp2_with fail;go_fit q.o;rintro e w' ⟨⟨bb,rfl,hbb⟩,hb2⟩;(have f:=zH<|d.o.trans (hb2.mono d.o.size));have g:=zH hbb;clear hb2 hbb;cases bb
    . go_wp2;go_roundw
      case rel=>exact⟨k+1,U0,gn,f.o,fun i hi=>by
       rcases Nat.lt_succ_iff_lt_or_eq.1 hi with h|rfl
       . exact l.o i h
       . first|exact g.o rfl|exact g.o trivial⟩
      case measure=>simp[intOf];omega
    . go_wp2;go_ret;exact⟨⟨_,rfl,fun h=>U0⟩,f.o⟩
  . (obtain rfl:k=zs.length:=by omega);go_wp2;go_ret;exact⟨⟨_,rfl,fun _=>l.o⟩,d.o⟩
theorem containsfac_c(j:Value)(zs:LI)(P:Nat->Prop)(A:OA)(c:Nat)(w:Wo)(l:zI w A zs)(n:zs.length<=1000000)(m:∀(k:Nat)(W:Wo),k<zs.length->zB w W->zC 227 #[Y (zs.getD k 0),j] W (YsPost W (P k))):
 zC 55 #[zL A zs.length c,.func (.func 227) #[] #[j]] w (CtPost w zs.length P):=by
 have d:=zH (indexfac_c j zs P A c w l n m);clear l m;go_enter func55,ntmps55;go_wp2_with fail;refine d.o.mono ?_;rintro e w' ⟨⟨z,rfl,hz⟩,hb⟩;have g:=zH hz;have b:=zH hb;clear hz hb;by_cases i:0<=z
 . go_wp2;go_ret;exact⟨⟨_,rfl,fun h=>by simp at h<;>omega⟩,b.o⟩
 . (have f:zK (z<0):=by show z<0;omega);clear i;go_wp2;go_ret;exact⟨⟨_,rfl,fun _=>g.o f.o⟩,b.o⟩
theorem inj1_c(x n:Int)(b:Nat)(P:Prop)(w:Wo)(j:w.cell? (zA b 0)=some (Y n))(i:0<=x->x<n->P):
 zC 226 #[Y x,zP b] w (YsPost w P):=by
 have c:=zH i;clear i;go_enter func226,ntmps226;by_cases f:x<0
 . go_wp2_with fail;go_ret;exact⟨⟨true,U5,fun h=>by cases h⟩,Below.refl _ _⟩
 . by_cases g : n<=x
   . go_wp2_with fail;go_ret;exact⟨⟨true,U5,fun h=>by cases h⟩,Below.refl _ _⟩
   . have d:zK P:=c.o U0 U0;clear c;go_wp2_with fail;go_ret;exact⟨⟨false,U5,fun _=>d.o⟩,Below.refl _ _⟩
def InjK(zs:LI)(k:Nat):Prop:=∀j,j<k->∀i,i<j->zs.getD i 0≠zs.getD j 0
def RelInj(w1:Wo)(zs:LI)(v12:Value)(wr:Wo):Prop:=∃k:Nat,k<=zs.length/\v12=Y k/\zB w1 wr/\InjK zs k
def InPost(w:Wo)(P:Prop)(e:Ending)(w':Wo):Prop:=(∃z:Int,e=.returned (Y z)/\(z=0->P))/\zB w w'
theorem injective_c(zs:LI)(n:Int)(A:OA)(c:Nat)(w:Wo)(hA:zI w A zs)(hl:zs.length<=1000000)(aa:zs.length<=c):
 zC 188 (D6 A zs.length c n) w (InPost w ((∀i,i<zs.length->0<=zs.getD i 0/\zs.getD i 0<n)/\InjK zs zs.length)):=by
 have d:zK (zB w (w.alloc (.cells #[Y n] 3))):=zV.alloc zn _
 have z:zK (∀W,Below (w.alloc (.cells #[Y n] 3)).heap.size (w.alloc (.cells #[Y n] 3)) W->W.cell? (zA w.heap.size 0)=some (Y n)):=fun W hW=>
  (hW.cell (p:=(zA w.heap.size 0)) (by show w.heap.size < _;simp)).trans (cell_of_row _ _ 0 _ _ _ (heap_alloc_new _ _))
 have M:=zH hA;clear hA;go_enter func188,ntmps188;go_upto_region 1 with fail;generalize w.alloc (.cells #[Y n] 3)=N at *;have B:=zH (containsinj_c (zP w.heap.size) zs (fun i=>0<=zs.getD i 0/\zs.getD i 0<n) A c N ((M.o.keep d.o).more d.o.size) hl fun k W _ hW=>inj1_c _ n _ _ W (z.o W hW) fun h1 h2=>⟨h1,h2⟩);go_wp2_with fail;go_fit B.o;rintro e S ⟨⟨b,rfl,u⟩,hb1⟩;have m:=zH<|d.o.trans (hb1.mono d.o.size)
 have r:=zH u;clear u hb1 B d z;clear N;cases b;rotate_left
 . clear r;go_wp2;go_ret;exact⟨⟨6,rfl,fun h=>by cases h⟩,m.o⟩
 have E:zK (∀i,i<zs.length->0<=zs.getD i 0/\zs.getD i 0<n):=r.o rfl;clear r;go_wp2;go_loopw [12] (fun v12 wr=>RelInj S zs v12 wr) (fun v12 _=>zs.length-(intOf v12).toNat);case atStart=>exact⟨0,U0,rfl,Below.refl _ _,fun j hj=>U0⟩
 case round =>
  obtain⟨k,V,rfl,u,l⟩:=hrel;have v:=zH<|m.o.trans (u.mono m.o.size)
  have y:=zH u;have g:=zH l;clear u l;by_cases L:k<zs.length
  . have t := (M.o.keep v.o).more v.o.size;obtain ⟨b,o,rfl,J,Q⟩:=t.at_ L
    have I:zK (zI wr (some (zA b o)) (zs.take k)):=fun _=>⟨b,o,rfl,J,fun i hi=>by
     have K:i<k:=by rw[List.length_take] at hi;omega
     obtain⟨U,o',e,_,P⟩:=t.at_ (k:=i) U0
     injection e with e
     injection e with e1 e2 _
     subst e1 e2
     have O:(zs.take k).getD i 0=zs.getD i 0:=by simp[List.getD,K]
     rw[O]
     exact P⟩
    (have D:(zs.take k).length=k:=by rw[List.length_take];omega);have f:=zH (contains_c (zs.take k) (zs.getD k 0) (some (zA b o)) c wr I.o U0);rw[D] at f;have s:zK (zs.getD k 0∉zs.take k->InjK zs (k+1)):=fun hn j hj i hi=>by
     by_cases e:j=k
     . subst e;intro h;apply hn;rw[<- h];refine List.mem_iff_getElem.2 ⟨i,by rw[List.length_take];omega,?_⟩;rw[List.getElem_take];simp[List.getD,show i<zs.length by omega]
     . exact g.o j U0 i hi
    have X:(0:Int)<=(k:Int):=U0;have Z:(k:Int)<(zs.length:Int):=U0;have k2:(k:Int)<=(c:Int):=U0;clear D t;generalize zs.getD k 0=x at *;generalize zs.take k=R at *;by_cases C:x∈R
    . rw[decide_eq_true C] at f;clear C s;go_wp2_with fail;go_fit f.o;rintro e T ⟨rfl,n3,rfl⟩;(have q:=zH<|v.o.trans (qaB zV n3 |>.mono v.o.size));go_wp2;go_ret;exact⟨⟨18,rfl,fun h=>by cases h⟩,q.o⟩
    . have H:=zH (s.o C);rw[decide_eq_false C] at f;clear C s;go_wp2_with fail;go_fit f.o;rintro e T ⟨rfl,n3,rfl⟩;(have q:=zH<|y.o.trans (qaB zV n3 |>.mono y.o.size));go_wp2;go_roundw;case rel=>exact⟨k+1,U0,gn,q.o,H.o⟩
      case measure=>simp[intOf];omega
  . (obtain rfl:k=zs.length:=by omega);go_wp2;go_ret;exact⟨⟨0,rfl,fun _=>⟨E.o,g.o⟩⟩,v.o⟩
theorem fac1_c(x:Int)(k p m:Nat)(l r:LN)(b:Nat)(P:Prop)(w:Wo)(n:GFAt w w.heap.size k p m l r)(s:w.cell? (zA b 0)=some (zP k))(q:0<=x->x<((p^m:Nat):Int)->P):
 zC 227 #[Y x,zP b] w (YsPost w P):=by
 have g:=is_c x k p m w.heap.size l r w n;obtain⟨d,c⟩:∃d,(decide (0<=x) && decide (x<((p^m:Nat):Int)))=d:=⟨_,rfl⟩;rw[c] at g;have i:=zH g;have f:zK (d=true->P):=fun h=>by rw[h,Bool.and_eq_true,decide_eq_true_eq,decide_eq_true_eq] at c;exact q c.1 c.2
 clear n q g c;go_enter func227,ntmps227;go_wp2_with fail;go_fit i.o;rintro e w' ⟨rfl,rfl⟩;cases d
 . clear f;go_wp2_with fail;go_ret;exact⟨⟨true,U5,fun h=>by cases h⟩,Below.refl _ _⟩
 . have j:zK P:=f.o rfl;clear f;go_wp2_with fail;go_ret;exact⟨⟨false,U5,fun _=>j.o⟩,Below.refl _ _⟩
theorem factors_c(zs:LI)(C p m:Nat)(l H:LN)(A:OA)(c:Nat)(w:Wo)(E:GFAt w w.heap.size C p m l H)(D:zI w A zs)(I:zs.length<=1000000):
 zC 189 #[zP C,zL A zs.length c] w (InPost w (∀i,i<zs.length->0<=zs.getD i 0/\zs.getD i 0<((p^m:Nat):Int)/\zs.getD i 0≠0)):=by
 have f:zK (zB w (w.alloc (.cells #[zP C] 100))):=zV.alloc zn _
 have r:zK (∀W,Below (w.alloc (.cells #[zP C] 100)).heap.size (w.alloc (.cells #[zP C] 100)) W->W.cell? (zA w.heap.size 0)=some (zP C)):=fun W hW=>
  (hW.cell (p:=(zA w.heap.size 0)) (by show w.heap.size < _;simp)).trans (cell_of_row _ _ 0 _ _ _ (heap_alloc_new _ _))
 have v:=zH D;have x:=zH E;clear D E;go_enter func189,ntmps189;go_upto_region 1 with fail;generalize w.alloc (.cells #[zP C] 100)=y at *;have s:=zH (containsfac_c (zP w.heap.size) zs (fun i=>0<=zs.getD i 0/\zs.getD i 0<((p^m:Nat):Int)) A c y ((v.o.keep f.o).more f.o.size) I fun k W _ hW=>fac1_c _ C p m l H _ _ W (((x.o.keep f.o).more f.o.size).keep hW |>.more hW.size) (r.o W hW) fun h1 h2=>⟨h1,h2⟩);go_wp2_with fail;go_fit s.o;rintro e z ⟨⟨b,rfl,hb⟩,hb1⟩;have d:=zH<|f.o.trans (hb1.mono f.o.size)
 have n:=zH hb;clear hb hb1 s f r x;clear y;cases b;rotate_left
 . clear n;go_wp2;go_ret;exact⟨⟨2,rfl,fun h=>by cases h⟩,d.o⟩
 have q:zK (∀i,i<zs.length->0<=zs.getD i 0/\zs.getD i 0<((p^m:Nat):Int)):=n.o rfl;have g:=zH (contains_c zs 0 A c z ((v.o.keep d.o).more d.o.size) U0);clear n;by_cases t:(0:Int)∈zs
 . rw[decide_eq_true t] at g;clear t;go_wp2_with fail;go_fit g.o;rintro e B ⟨rfl,n3,rfl⟩;(have j:=zH<|d.o.trans (qaB zV n3 |>.mono d.o.size));go_wp2;go_ret;exact⟨⟨7,rfl,fun h=>by cases h⟩,j.o⟩
 . have u : zK (∀ i,i < zs.length -> 0 <= zs.getD i 0 /\ zs.getD i 0 < ((p ^ m : Nat) : Int) /\ zs.getD i 0 ≠ 0) := fun i hi => ⟨(q.o i hi).1,(q.o i hi).2,fun e => t (by
    rw[<- e,show zs.getD i 0=zs[i] by simp[List.getD,hi]]
    exact List.getElem_mem hi)⟩
   rw[decide_eq_false t] at g;clear t q;go_wp2_with fail;go_fit g.o;rintro e B ⟨rfl,n3,rfl⟩;(have j:=zH<|d.o.trans (qaB zV n3 |>.mono d.o.size));go_wp2;go_ret;exact⟨⟨0,rfl,fun _=>u.o⟩,j.o⟩
structure MoOk (n q:Nat) (m:Int) (ps ss:LI) (fr:Int):Prop where
 pl:ps.length=n
 sl:ss.length=n
 rng:∀i,i<ps.length->0<=ps.getD i 0/\ps.getD i 0<(n:Int)
 inj:InjK ps ps.length
 f0:0<=fr
 f1:fr<m
 nz:∀i,i<ss.length->0<=ss.getD i 0/\ss.getD i 0<(q:Int)/\ss.getD i 0≠0
def OpPost(w:Wo)(p m:Int)(mod:LI)(n:Nat)(ps ss:LI)(fr:Int)(e:Ending)(w':Wo):Prop:=
 zB w w'/\∃(v:Value)(z:Int),e=.returned (.tuple #[v,Y z])/\(z=0->MoOk n (p.toNat^m.toNat) m ps ss fr/\∃gb,v=zP gb/\GFM w' w'.heap.size gb p.toNat m.toNat mod (lOf p m mod) (logL (lOf p m mod) (p.toNat^m.toNat)))
structure BoxM (w:Wo) (f a:List Value) (W:Wo):Prop where
 below:zB w W
 size:w.heap.size+1<W.heap.size
 k0:W.heap[w.heap.size]?=some (.cells f.toArray 29 (0,0))
 k1:W.heap[w.heap.size+1]?=some (.cells a.toArray 36 (0,0))
theorem BoxM.keep{w W d:Wo}{f a:List Value}(h:BoxM w f a W)(c:zB W d):BoxM w f a d:=by have b:=h.size;exact⟨h.below.trans (c.mono U0),Nat.lt_of_lt_of_le b c.size,(c.block _ U0).trans h.k0,(c.block _ U0).trans h.k1⟩
theorem boxM(w:Wo)(f a:Array Value):BoxM w f.toList a.toList ((w.alloc (.cells f 29)).alloc (.cells a 36)):=
 ⟨(zV.alloc zn _).alloc U2 _,U2,(heap_alloc_old _ _ U2).trans (heap_alloc_new _ _),alloc_at U2 _⟩
theorem mopen_c(p m:Int)(mod:LI)(Am:OA)(cm n:Nat)(ps ss:LI)(fr:Int)(Ap As:OA)(cp cs:Nat)(w:Wo)(hM:zI w Am mod)(aa:fieldOK p m mod=true)(ac:1<=n)(ad:n<=64)(hP:zI w Ap ps)(hS:zI w As ss)(ab:ps.length<=cp):
 zC 136 #[C7 p m Am mod.length cm,Y (n:Int),.agg #[zL Ap ps.length cp,zL As ss.length cs,Y fr]] w (OpPost w p m mod n ps ss fr):=by
 have x:zK (BoxM w (C5 p m Am mod.length cm) [zL Ap ps.length cp,zL As ss.length cs,Y fr] ((w.alloc (C3 p m Am mod.length cm)).alloc (D9 Ap ps.length cp As ss.length cs fr))):=boxM w _ _;have R:=zH hM;have S:=zH hP;have T:=zH hS;have J:=zH aa;have K:=zH ab;clear hM hP hS aa ab;go_enter func136,ntmps136;go_upto_region 1 with fail;generalize (w.alloc (C3 p m Am mod.length cm)).alloc (D9 Ap ps.length cp As ss.length cs fr)=P at *;have u:=zH<|qeS x.o.k0
 have s:=zH (fnew_any p m mod Am cm P ((R.o.keep x.o.below).more x.o.below.size) J.o);go_wp2_with (refine wpList_load_mid rfl 29 (.tmp 3) rfl w.heap.size 0 rfl (C5 p m Am mod.length cm) _ u.o underlying29 rfl fieldSize ?_);go_fit s.o;rintro e E ⟨⟨gb,rfl,hgg,hgf⟩,hbg⟩;have c:=zH (x.o.keep hbg);have q:zK (∀W,zB E W->GFM W W.heap.size gb p.toNat m.toNat mod (lOf p m mod) (logL (lOf p m mod) (p.toNat^m.toNat))):=fun W hW=>(hgf.keep hW).more hW.size;clear s u hgf hbg x hgg;clear P;have Z:E.cell? (zA (w.heap.size+1) 0)=some (zL Ap ps.length cp):=cell_of_row _ _ 0 _ _ _ c.o.k1;have y1:E.cell? (zA (w.heap.size+1) 1)=some (zL As ss.length cs):=cell_of_row _ _ 1 _ _ _ c.o.k1;have c1:¬(n:Int)<1:=U0;have c2:¬(64:Int)<(n:Int):=U0;by_cases f:ps.length=n;rotate_left
 . (have C:((ps.length:Int) != (n:Int))=true:=by rw[bne_iff_ne];omega);clear f;go_wp2;go_ret2;exact⟨c.o.below,_,_,rfl,fun h=>by cases h⟩
 by_cases i:ss.length=n;rotate_left
 . (have C:((ps.length:Int) != (n:Int))=false:=by rw[bne_eq_false_iff_eq];omega);(have O:((ss.length:Int) != (n:Int))=true:=by rw[bne_iff_ne];omega);clear i f;go_wp2;go_ret2;exact⟨c.o.below,_,_,rfl,fun h=>by cases h⟩
 have C:((ps.length:Int) != (n:Int))=false:=by rw[bne_eq_false_iff_eq];omega
 have O:((ss.length:Int) != (n:Int))=false:=by rw[bne_eq_false_iff_eq];omega
 have t:=zH f;have v:=zH i;clear f i;have r:=zH (injective_c ps (n:Int) Ap cp E ((S.o.keep c.o.below).more c.o.below.size) (by have:=t.o;omega) K.o);go_wp2_with fail;go_fit r.o;rintro e D ⟨⟨z,rfl,hz⟩,hb2⟩;have y:=zH hz;have b:=zH (c.o.keep hb2);have H:=zH (q.o D hb2);have j:=zH hb2;clear hz hb2 r Z y1;have z1:D.cell? (zA (w.heap.size+1) 1)=some (zL As ss.length cs):=cell_of_row _ _ 1 _ _ _ b.o.k1;have z2:D.cell? (zA (w.heap.size+1) 2)=some (Y fr):=cell_of_row _ _ 2 _ _ _ b.o.k1;have z3:D.cell? (zA w.heap.size 1)=some (Y m):=cell_of_row _ _ 1 _ _ _ b.o.k0;by_cases U:fr<0
 . clear y;by_cases d:z=6
   . subst d;go_wp2;go_ret2;exact⟨b.o.below,_,_,rfl,fun h=>by cases h⟩
   . have B:=bne_iff_ne.2 d;clear d;go_wp2;go_ret2;exact⟨b.o.below,_,_,rfl,fun h=>by cases h⟩
 by_cases V:m<=fr
 . clear y;by_cases d:z=6
   . subst d;go_wp2;go_ret2;exact⟨b.o.below,_,_,rfl,fun h=>by cases h⟩
   . have B:=bne_iff_ne.2 d;clear d;go_wp2;go_ret2;exact⟨b.o.below,_,_,rfl,fun h=>by cases h⟩
 by_cases g:z=0;rotate_left
 . have Q:=beq_false_of_ne g;have M:=zH g;clear g y;by_cases d:z=6
   . subst d;go_wp2;go_ret2;exact⟨b.o.below,_,_,rfl,fun h=>by cases h⟩
   . have B:=bne_iff_ne.2 d;clear d;go_wp2;go_ret2;exact⟨b.o.below,_,_,rfl,fun h=>absurd h M.o⟩
 subst g;have A:=zH (y.o rfl);have l:zK (0<=fr/\fr<m):=by show _/\_;omega
 have k:=zH (factors_c ss gb p.toNat m.toNat _ _ As cs D H.o.gf ((T.o.keep b.o.below).more b.o.below.size) (by have:=v.o;omega));clear y;go_wp2_with fail;go_fit k.o;rintro e X ⟨⟨z',rfl,hz'⟩,hb3⟩;have L:=zH (b.o.keep hb3);have N:=zH hz';have I:=zH (q.o X (j.o.trans (hb3.mono j.o.size)));clear hz' hb3 k;go_wp2;go_ret2;exact⟨L.o.below,_,_,rfl,fun h=>⟨⟨t.o,v.o,A.o.1,A.o.2,l.o.1,l.o.2,N.o h⟩,gb,rfl,I.o⟩⟩
def extR(O:Ops)(u:LN):LN:=u++[O.neg (sumO O 0 u)]
def ExtRow(O:Ops)(A:LL)(r:LN):Prop:=∃u∈A,r=extR O u
def extM(O:Ops)(A:LL):LL:=A.map (extR O)
theorem extM_len(O:Ops)(A:LL):(extM O A).length=A.length:=by simp[extM]
theorem extM_getD(O:Ops)(A:LL)(k:Nat)(b:k<A.length):(extM O A).getD k []=extR O (A.getD k []):=by simp[extM,List.getD,b]
theorem ext_ok{O:Ops}{q n:Nat}(E:OpsEq q O O)(d:0<q){u:LN}(c:Dv.Ok q n u):Dv.Ok q (n+1) (extR O u):=by
 have b:=sumO_lt (fun x y hx hy=>(E.add x y hx hy).2) u 0 d c.2;refine⟨by simp[extR,c.1],fun x hx=>?_⟩;unfold extR at hx;rcases List.mem_append.1 hx with h|h
 . exact c.2 x h
 . simp at h;subst h;exact(E.neg _ b).2
def RelEx1(w1:Wo)(n:Int)(rows:LL)(v37:Value)(wr:Wo):Prop:=∃(k:Nat)(v:Value)(bs:List (Nat × Nat)),v37=Y k/\k<=rows.length/\OB w1 n rows k v bs wr
theorem extend_c(p m:Int)(mod:LI)(Am:OA)(cm N:Nat)(gs:List LI)(A:OA)(c:Nat)(w:Wo)(ha:CD.At ⟨p,m,mod,Am,cm,N,gs,A,c⟩ w):
 zC 62 #[C8 p m Am mod.length cm N A gs.length c] w (ConPost w p m mod (N+1) True (ExtRow (opsT p.toNat m.toNat (lOf p m mod)) (natR gs))):=by
 obtain⟨a1,a2,a3,a4,a5,a6,a7⟩:=qbW ha.z;dsimp only at a1 a4 a5 a6 a7;have cd:0<p.toNat^m.toNat:=by have:=(Al.fld_of (field_ft a5)).q1;omega
 obtain⟨i0,hi,cg,ch,cj⟩:=qaF infoInts;have HI:=zH hi;have cx:=zH cg;have cy:=zH ch;have cz:=zH cj;have HX:zK (BXS w [(C2 p m Am mod.length cm N A gs.length c),(Cd)] ((w.alloc (C4 p m Am mod.length cm N A gs.length c)).alloc (Ca))):=bxs2 w _ _;have cn:zK (∀W,zB w W->zR W A gs):=fun W l=>(ha.gen.keep l).more l.size;have bb:zK (∀W,zB w W->zI W Am mod):=fun W l=>(ha.mod.keep l).more l.size;have bc:zK (∀W,zB w W->zC 27 #[C8 p m Am mod.length cm N A gs.length c] W fun e w'=>e=.returned (Y 0)/\zB W w'):=fun W l=>by have h:=ha.keep l;have:=codecheck_c p m mod Am cm (N:Int) gs A c W h.mod U0 h.gen U0;rw[h.z] at this;exact this
 have aq:=zH a6;have cl:=zH a7;have bt:=zH a5;have cq:=zH a4;have bh:=zH (field_ft a5);have HE:=zH (opsS_self (field_ft a5));generalize hnn:N+1=nn;have Q:=zH hnn;clear ha a4 a5 a6 a7 hi cg ch cj hnn;go_enter func62,ntmps62;go_upto_region 1 with fail;generalize (w.alloc (C4 p m Am mod.length cm N A gs.length c)).alloc (Ca)=W0 at *;have bv:zK (W0.rangeAt w.heap.size 0 (C2 p m Am mod.length cm N A gs.length c)):=HX.o.range (i:=0) rfl;go_wp2_with (refine wpList_load_mid rfl 32 (.tmp 1) rfl w.heap.size 0 rfl (C2 p m Am mod.length cm N A gs.length c) _ bv.o underlying32 rfl codeSz ?_);(with_reducible refine(bc.o W0 HX.o.below).mono ?_);rintro e w1 ⟨rfl,hb1⟩;have s:=zH (HX.o.grow hb1);clear hb1 HX bv bc;clear W0;have x3:w1.cell? (zA w.heap.size 3)=some (Y (N:Int)):=s.o.cell (i:=0) rfl rfl;by_cases ak:N=64
 . (have HK:=zH<|s.o.box 1 _ rfl);have HY:zK (BXS w [(C2 p m Am mod.length cm N A gs.length c),(Cd)] (w1.setRow (w.heap.size+1) (C6))):=s.o.set 1 U2 (Cd);(have ax:=zH<|HY.o.box 1 _ rfl);(have c6:((N:Int)==64)=true:=by rw[ak];rfl);clear ak;go_wp2_with (refine wpList_store_row rfl 32 (.tmp 2) (.tmp 19) rfl w1 (w.heap.size+1) 32 (C6) (C6) rfl rfl HK.o codeSz rfl U3 ?_);refine bodyPost_ret (results_row_one (P:=prog) rfl _ _ (w.heap.size+1) 32 (C6) (0,0) _ _ rfl rfl ax.o underlying32 rfl codeSz) rfl ?_;exact⟨HY.o.below,.inl ⟨4,dc,rfl⟩⟩
 have c6:((N:Int)==64)=false:=by rw[beq_eq_false_iff_ne];omega
 have ao:nn<=64:=by have:=Q.o;omega
 have b8:1<=nn:=by have:=Q.o;omega
 have dq:IntKind.i64.wrap ((N:Int)+1)=(nn:Int):=by rw[<- Q.o];exact IntWalk.i64_in _ U0
 have ce:=s.o.size;simp only[List.length_cons,List.length_nil] at ce;have U:zK (w1.rangeAt w.heap.size 0 (C5 p m Am mod.length cm)):=s.o.field (i:=0) rfl;have T:=zH (fnew_any p m mod Am cm w1 (bb.o w1 s.o.below) bt.o);go_wp2_with (refine wpList_load_mid rfl 29 (.tmp 21) rfl w.heap.size 0 rfl (C5 p m Am mod.length cm) _ U.o underlying29 rfl fieldSize ?_);go_fit T.o;rintro e n ⟨⟨gb,rfl,_,hgf⟩,aa⟩;have ah:=zH (s.o.grow aa);have bi:zK (∀W,zB n W->GFAt W W.heap.size gb p.toNat m.toNat (lOf p m mod) (logL (lOf p m mod) (p.toNat^m.toNat))):=fun W l=>((hgf.keep l).more l.size).gf;have dp:=Nat.le_trans ce aa.size;clear T U hgf aa s x3;have y3:n.cell? (zA w.heap.size 3)=some (Y (N:Int)):=ah.o.cell (i:=0) rfl rfl;have y4:n.cell? (zA w.heap.size 4)=some (zL A gs.length c):=ah.o.cell (i:=0) rfl rfl;have br:zK (OB n nn (extM (opsT p.toNat m.toNat (lOf p m mod)) (natR gs)) 0 (zL none 0 0) [] (n.alloc (D1 nn))):=OB.start n _ _;have O:zK ((extM (opsT p.toNat m.toNat (lOf p m mod)) (natR gs)).length=gs.length):=by show _=_;rw[extM_len,natR_len]
 have co:zK (zB n (n.alloc (D1 nn))):=zV.alloc zn _;go_upto_region 10 with(refine qaH rfl 54 (.tmp 7) (.tmp 33) rfl n _ #[Y (nn:Int),zL none 0 0] rfl rfl matSize rfl U3 ?_);have cw:=zH (ah.o.grow co.o);generalize n.alloc (D1 nn)=W2 at *;clear y3 y4;have z4:W2.cell? (zA w.heap.size 4)=some (zL A gs.length c):=cw.o.cell (i:=0) rfl rfl;go_wp2;go_loopw [37] (fun v37 wr=>RelEx1 n nn (extM (opsT p.toNat m.toNat (lOf p m mod)) (natR gs)) v37 wr) (fun v37 _=>gs.length-(intOf v37).toNat);case atStart=>exact⟨0,_,_,rfl,U0,br.o⟩
 case round =>
  obtain⟨k,v,bs,rfl,hk,b9⟩:=hrel;have f:=zH b9;have dm:k<=gs.length:=by rw[O.o] at hk;exact hk
  clear b9 hk z4 br;have C:=zH (ah.o.grow f.o.below);by_cases a8:k<gs.length
  . obtain ⟨bg,og,Ai,ci,rfl,aa,b3,b7,dd,a9⟩ := row_atE (cn.o w zV) aq.o cl.o a8;have j0:(0:Int)<=(k:Int):=U0;have j1:(k:Int)<(gs.length:Int):=U0;have y6:=(C.o.below.cell (p:=(zA bg (og+k))) aa).trans b3;have bn:zK (∀ W,zB w W->zI W Ai (nz ((natR gs).getD k []))):=fun W l=>(b7.keep l).more l.size;have Z:=zH a9.1;have b1:=zH a9.2;have bf:=zH (extM_getD (opsT p.toNat m.toNat (lOf p m mod)) (natR gs) k (by rw [natR_len];exact a8));clear b7 dd a9 b3;generalize (natR gs).getD k []=u at *;obtain ⟨q,rfl⟩:∃ q,q=wr:=⟨wr,rfl⟩;obtain ⟨VA,ck,rfl,_⟩:=own_slice' f.o.grid.out;have de:=f.o.below.size;have be:zK (∀ W,LSt q W->W.cell? (zA n.heap.size 1)=some (zL VA k ck)):=fun W l=>(f.o.grow l).cell1;have bp:zK (∀ W,LSt q W->zB w W):=fun W l=>C.o.below.trans (Below.mono l C.o.below.size);have bo:zK (∀ W,LSt q W->zB n W):=fun W l=>f.o.below.trans (Below.mono l de);have X:zK (LSt q q.drew):=zV.drew;have aw:=zH (sumO_lt (fun x y hx hy=>(HE.o.add x y hx hy).2) u 0 cd b1.o);(have cf:0<(nz u).length:=by rw [qaA,Z.o];omega);(have M:(nz u).length<=1000000:=by rw [qaA,Z.o];omega);(have bd:=zH<|fun W l=>by have:=qfO (nz u) Ai ci W (bn.o W (bp.o W l)) cf M;rw [qaA] at this;exact this)
    have b0:=zH<|fun W l=>
     sum_c gb p.toNat m.toNat W.heap.size (mdOf m mod) (lOf p m mod) u Ai ci W bh.o (bi.o W (bo.o W l)) b1.o (bn.o W (bp.o W l)) (by rw[qaA] at M;exact M)
    have bq:zK (∀W,LSt q W->zC 132 (Ct gb ((sumO (opsT p.toNat m.toNat (lOf p m mod)) 0 u:Nat):Int)) W (Quiet (Y (((opsT p.toNat m.toNat (lOf p m mod)).neg (sumO (opsT p.toNat m.toNat (lOf p m mod)) 0 u):Nat):Int)) W)):=fun W l=>
     neg_c _ gb p.toNat m.toNat W.heap.size (lOf p m mod) _ W bh.o.small (bi.o W (bo.o W l)) aw.o
    have af:zK (extR (opsT p.toNat m.toNat (lOf p m mod)) u=u++[(opsT p.toNat m.toNat (lOf p m mod)).neg (sumO (opsT p.toNat m.toNat (lOf p m mod)) 0 u)]):=rfl;generalize (opsT p.toNat m.toNat (lOf p m mod)).neg (sumO (opsT p.toNat m.toNat (lOf p m mod)) 0 u)=ng at *;generalize sumO (opsT p.toNat m.toNat (lOf p m mod)) 0 u=sm at *;clear cf M;go_upto_region 13 with fail;refine qaS 12 12 (LSt q) [(1,0),(0,1),(1,2),(1,4),(1,5),(1,6),(2,3),(2,7),(2,8),(2,9),(2,10),(2,11)] default U1 U1 (fun _ _ d _ _ h=>by cases d<;>exact h) X.o ?_;simp only[List.map_cons,List.map_nil,List.getD_cons_zero,List.getD_cons_succ];apply qaM rfl
    . intro W;go_simp;rfl
    go_simp;apply qbF rfl
    . intro W l;have z1:=be.o W l;go_simp;rfl
    go_simp
    iterate 4
     apply qaM rfl
     . intro W
       go_simp
       rfl
     go_simp
    apply qbE rfl
    . go_simp;exact⟨rfl,rfl⟩
    (with_reducible refine(bd.o _ X.o).mono ?_);rintro e w5 ⟨⟨g5,c5,rfl,hrow5⟩,hb5⟩;have ad:zK (LSt q w5):=Below.trans X.o (Below.mono hb5 (Below.size X.o));(have H:=zH<|hrow5.base (Nat.le_trans (Below.size X.o) hrow5.lt.1));refine⟨_,rfl,ad.o,?_⟩;go_simp;apply qbE rfl
    . go_simp;exact⟨rfl,rfl⟩
    (with_reducible refine(b0.o _ ad.o).mono ?_);rintro e w6 ⟨rfl,n6,rfl⟩;have ay:zB w5 (w5.drewN n6):=qaB zV n6;have ae:zK (LSt q (w5.drewN n6)):=Below.trans ad.o (Below.mono ay (Below.size ad.o));(have I:=zH<|H.o.below ay H.o.lt.2);refine⟨_,rfl,ae.o,?_⟩;go_simp;generalize w5.drewN n6=w6 at *;apply qbE rfl
    . go_simp;exact⟨rfl,rfl⟩
    (with_reducible refine(bq.o _ ae.o).mono ?_);rintro e w7 ⟨rfl,n7,rfl⟩;have D:zB w6 (w6.drewN n7):=qaB zV n7;have ar:zK (LSt q (w6.drewN n7)):=Below.trans ae.o (Below.mono D (Below.size ae.o));(have J:=zH<|I.o.below D I.o.lt.2);refine⟨_,rfl,ar.o,?_⟩;go_simp;generalize w6.drewN n7=w7 at *;clear hb5 ay D hrow5 H I;have az:zB w7 (w7.alloc (.cells #[Y (ng:Int)] 3)):=zV.alloc zn _;have au:zK (LSt q (w7.alloc (.cells #[Y (ng:Int)] 3))):=Below.trans ar.o (Below.mono az (Below.size ar.o));(have V:=zH<|J.o.below az J.o.lt.2)
    have bm:zK (IntsAt (w7.alloc (.cells #[Y (ng:Int)] 3)) (w7.alloc (.cells #[Y (ng:Int)] 3)).heap.size (zO w7.heap.size) (nz [ng])):=fun _=>⟨w7.heap.size,0,rfl,U2,fun k hk=>by
     obtain rfl:k=0:=by simp[nz] at hk;exact hk
     exact cell_of_row _ _ 0 _ _ _ (heap_alloc_new _ _)⟩
    apply qdM rfl
    . go_simp;exact⟨rfl,rfl⟩
    . exact au.o
    go_simp;(have ab:(w7.alloc (.cells #[Y (ng:Int)] 3)).ownsRow q.heap.size 3 1 (zS g5 u.length c5) (nz u).length ((nz u).map (Value.int .i64)):=by have h:=V.o;unfold Row at h;rw[qaA] at h ⊢;exact h);(have dh:u.length<=64:=by rw[Z.o];omega);obtain⟨g9,c9,w9,ac,ap,L,dn,_⟩:=qbY (W:=w7.alloc (.cells #[Y (ng:Int)] 3)) (B:=q.heap.size) (v:=zS g5 u.length c5) (xs:=nz u) ab (Below.size au.o) (c:=1) bm.o (by simp[nz]) (by rw[qaA];omega) (by simp[nz]);(have c8:(nz u).length+(nz [ng]).length=nn:=by rw[qaA,qaA,Z.o,<- Q.o];rfl);have db:(nz [ng]).length=1:=rfl;rw[c8,db] at ac;have bz:=zH ac;have E:zK (LSt q w9):=Below.trans au.o L;(have av:zK (Row w9 q.heap.size g9 c9 (nz (extR (opsT p.toNat m.toNat (lOf p m mod)) u))):=by show Row _ _ _ _ _;rw[af.o,show nz (u++[ng])=nz u++nz [ng] by simp[nz]];exact ap);clear ab ac ap L J V az;refine qdM rfl (exec_append (.tmp 44) (.tmp 50) 23 rfl rfl rfl bz.o) E.o ?_;go_simp;have ai:zK (LSt q (w9.alloc (.cells #[zS g9 nn c9] 23))):=E.o.alloc E.o.size _;apply qdM rfl
    . go_simp;exact⟨rfl,rfl⟩
    . exact ai.o
    go_simp;refine qbH ?_;have y1:=be.o _ ai.o;have bu:=zH (f.o.own E.o (.cells #[zS g9 nn c9] 23));have di:=E.o.size;(have c7:((extM (opsT p.toNat m.toNat (lOf p m mod)) (natR gs)).getD k []).length=nn:=by rw[bf.o,af.o,List.length_append,Z.o,<- Q.o];rfl);go_wp2_with (at_builtin;refine wpList_append_own_at _ rfl (.tmp 42) (.tmp 52) 30 rfl (n.heap.size+1) 23 i0 _ 1 24 underlying30 HI.o cx.o cy.o cz.o rfl dc (zL VA k ck) k ((List.range k).map (hdr (extM (opsT p.toNat m.toNat (lOf p m mod)) (natR gs)) bs)) rfl bu.o (zA w9.heap.size 0) 1 1 [zS g9 nn c9] rfl rfl ?c1 ?c2 ?c3 ?c4 ?c5 ?_);case c1=>exact World.news_of_block (cs:=#[zS g9 nn c9]) (t:=23) (fr:=(0,0)) (heap_alloc_new w9 _)
    case c2=>intro u hu;simp at hu;subst hu;rfl
    case c3=>unfold maxLen;omega
    case c4=>omega
    case c5=>simp;omega
    intro v' ba K a0 _ b2;obtain⟨dj,dl,rfl,_⟩:=own_slice' K;have ag:=zH (f.o.step (g:=g9) (c:=c9) (by rw[O.o];exact a8) E.o (by rw[bf.o];exact av.o) (by rw[c7];exact K) a0 (by simpa using b2));have D:ba.heap[n.heap.size]?=(w9.alloc (.cells #[zS g9 nn c9] 23)).heap[n.heap.size]?:=a0.block _ (by simp;have:=f.o.size;omega) (fun e=>by have:=(f.o.grid.out.lt _ e.symm).1;omega);rw[heap_alloc_old _ _ (by have:=f.o.size;omega),(f.o.grow E.o).box] at D;have y2:ba.cell? (zA n.heap.size 1)=some (zL VA k ck):=cell_of_row _ _ 1 _ _ _ D;(have y3:ba.frozen? (zA n.heap.size 1)=false:=by simp[World.frozen?,D]);clear K a0 b2 bu y1 D;go_wp2;go_roundw;case rel=>exact⟨k+1,_,_,gn,by rw[O.o];omega,ag.o⟩
    case measure=>simp[intOf];omega
  . (obtain rfl : k = gs.length:=by omega);obtain⟨VA,ck,rfl,_⟩:=own_slice' f.o.grid.out;(have bx:zK (RowsUp wr (n.heap.size+1) VA (nzs (extM (opsT p.toNat m.toNat (lOf p m mod)) (natR gs)))):=by have b6:=f.o.grid;rw[<- O.o] at b6;exact b6.up);(have bw:=zH<|f.o.range);have U:zK (wr.rangeAt w.heap.size 0 (C5 p m Am mod.length cm)):=C.o.field (i:=0) rfl;(have bj:zK (Grid (p.toNat^m.toNat) (extM (opsT p.toNat m.toNat (lOf p m mod)) (natR gs)).length nn (extM (opsT p.toNat m.toNat (lOf p m mod)) (natR gs))):=by refine⟨rfl,fun r hr=>?_⟩;unfold extM at hr;obtain⟨u,hu,rfl⟩:=List.mem_map.1 hr;have:=ext_ok HE.o cd (aq.o.2 u hu);rw[Q.o] at this;exact this);(have af:zK (∀r∈extM (opsT p.toNat m.toNat (lOf p m mod)) (natR gs),ExtRow (opsT p.toNat m.toNat (lOf p m mod)) (natR gs) r):=fun r hr=>by unfold extM at hr;obtain⟨u,hu,rfl⟩:=List.mem_map.1 hr;exact⟨u,hu,rfl⟩);(have T:zK (zC 113 #[C7 p m Am mod.length cm,Co nn VA gs.length ck] wr (NewPostA wr p m mod nn (canonM (opsT p.toNat m.toNat (lOf p m mod)) (extM (opsT p.toNat m.toNat (lOf p m mod)) (natR gs)) nn))):=by have:=new_any p m mod Am cm nn (extM (opsT p.toNat m.toNat (lOf p m mod)) (natR gs)) VA ck wr (bb.o wr C.o.below) (by have:=cq.o;omega) bx.o.rowsAt b8 (qeY bt.o bj.o ao (by rw[O.o];omega)) (by unfold lengthZ;rw[if_neg U0]);rw[O.o] at this;exact this);clear f bx aq;generalize da:extM (opsT p.toNat m.toNat (lOf p m mod)) (natR gs)=rr at *;clear da;go_wp2_with (first|(refine wpList_load_mid rfl 29 (.tmp 56) rfl w.heap.size 0 rfl (C5 p m Am mod.length cm) _ U.o underlying29 rfl fieldSize ?_)|(refine wpList_load_mid rfl 54 (.tmp 7) rfl n.heap.size 0 rfl (Cn nn VA gs.length ck) _ bw.o underlying54 rfl matSize ?_));go_fit T.o;rintro e w5 ⟨⟨Ag,c',R,k',rfl,hu5,hr5⟩,hb5⟩;generalize al:canonM (opsT p.toNat m.toNat (lOf p m mod)) rr nn=S at *;have aj:=zH al;have ag:=zH (C.o.grow hb5);have dg:=C.o.size;simp only[List.length_cons,List.length_nil] at dg;(have HK:=zH<|ag.o.box 1 _ rfl);have HY:zK (BXS w [(C2 p m Am mod.length cm N A gs.length c),(C2 p m Ag mod.length c' nn R S.length k')] (w5.setRow (w.heap.size+1) (Cc p m Ag mod.length c' nn R S.length k'))):=ag.o.set 1 U2 (C2 p m Ag mod.length c' nn R S.length k');(have ax:=zH<|HY.o.box 1 _ rfl);have ct:=zH hu5;have cr:=zH hr5;clear hu5 hr5 hb5 T U bw C al;go_wp2_with (refine wpList_store_row rfl 32 (.tmp 2) (.tmp 60) rfl w5 (w.heap.size+1) 32 (C6) (Cc p m Ag mod.length c' nn R S.length k') rfl rfl HK.o codeSz rfl U3 ?_);refine bodyPost_ret (results_row_one (P:=prog) rfl _ _ (w.heap.size+1) 32 (Cc p m Ag mod.length c' nn R S.length k') (0,0) _ _ rfl rfl ax.o underlying32 rfl codeSz) rfl ?_;have an:∀b,b≠w.heap.size+1->(w5.setRow (w.heap.size+1) (Cc p m Ag mod.length c' nn R S.length k')).heap[b]?=w5.heap[b]?:=fun b hne=>setRow_other _ _ _ _ hne;refine⟨HY.o.below,.inr ⟨rr,Ag,R,c',k',?_,?_,?_,bj.o,ao,trivial,af.o⟩⟩
    . rw[aj.o];rfl
    . exact(ct.o.of_blocks U2 fun j hj _=>an j U0).lower U0
    . rw[aj.o];exact(cr.o.of_blocks U2 fun j hj _=>an j U0).lower U0
end Go.Proofs.YtocbdafcolbfeaaGreat
