/- Parts of the proof. -/
import Derived.Test.YtndipkplnkfoeaaGreatR17
set_option maxRecDepth 100000
set_option maxHeartbeats 8000000
namespace Go.Proofs.YtndipkplnkfoeaaGreat
open Go.RowKit Pln
structure CD where
 p:Int
 m:Int
 mod:List Int
 A:Option Addr
 c:Nat
 n:Int
 gen:List (List Int)
 G:Option Addr
 g:Nat
def CD.cells(d:CD):List Value:=(Ca d.p d.m d.A d.mod.length d.c d.n d.G d.gen.length d.g)
structure CD.At (d:CD) (w:World):Prop where
 mod:IntsAt w w.heap.size d.A d.mod
 gen:RowsAt w w.heap.size d.G d.gen
 z:codeZ d.p d.m d.mod d.n d.gen=0
def CD.same(d e:CD):Prop:=d.p=e.p/\d.m=e.m/\d.mod=e.mod
theorem CD.At.keep{d:CD}{w w':World}(h:d.At w)(b:Below w.heap.size w w'):d.At w':=⟨(h.mod.keep b).more b.size,(h.gen.keep b).more b.size,h.z⟩
theorem codeZ_is{p m:Int}{mod:List Int}{n:Int}{x:List (List Int)}(y:codeZ p m mod n x=0):fieldOK p m mod=true/\1<=n/\n<=64/\nzs (natR x)=x/\Grid (p.toNat^m.toNat) (natR x).length n.toNat (natR x)/\x.length<=256/\mod.length<=1000/\errC p m mod n x=0/\canonM (opsT p.toNat m.toNat (lOf p m mod)) (natR x) n.toNat=natR x/\(natR x).length<=n.toNat:=by
 obtain⟨i,c,b⟩:=codeZ_n y;have q:1<=n/\n<=64:=by
  unfold lengthZ at c;split at c
  . cases c
  . omega
 have g:errC p m mod n x=0:=by
  unfold spZ at b;split at b
  . rename_i he;exact absurd b he
  . rename_i he;exact Classical.byContradiction he
 have d:=g;unfold errC at g;rw[if_pos i] at g;obtain⟨r,s,u,v,t⟩:=check_grid g;have l:shapeM p m mod=true:=by have:=i;unfold fieldOK at this;rw[Bool.and_eq_true] at this;exact this.1
 have k:=shape_is l;have j:mod.length<=1000:=by
  by_cases o:m=1
  . rw[k.one o];simp
  . rw[k.len o];have:=k.small.m2;omega
 have f:canonM (opsT p.toNat m.toNat (lOf p m mod)) (natR x) n.toNat=natR x:=by
  unfold spZ at b;rw[if_neg (by rw[d];simp)] at b;split at b
  . rename_i h;have c:natR (nzs (canZ p m mod n x))=canZ p m mod n x:=natR_nzs _;rw[h] at c;exact c.symm
  . cases b
 refine⟨i,q.1,q.2,r,s,t,j,d,f,?_⟩;rw[<- f,canonM_len];exact(elGo_piv (natR x) n.toNat).1
def RelZc(w:World)(n:Nat)(v:Value)(wr:World):Prop:=∃j:Nat,j<=n/\v=Y j/\Below w.heap.size w wr
def RelZd(w:World)(ds:List CD)(L:Nat)(d0:CD)(v:Value)(wr:World):Prop:=∃j:Nat,j+1<=L/\v=Y j/\Below w.heap.size w wr/\∀i,i<j->∀d,ds[i+1]?=some d->d.same d0
def CkdPost(w:World)(ds:List CD)(e:Ending)(w':World):Prop:=∃z,e=.returned (Y z)/\Below w.heap.size w w'/\(z=0->∀d∈ds,∀d0,ds[0]?=some d0->d.same d0)
theorem codeSz:(Tryz.prog.info? 32).map (·.size)=some 5:=U1
def ZdS(w wr:World)(b o:Nat)(cs fs:List Value)(W:World):Prop:=SBoxC wr cs W/\W.rangeAt b o fs/\Below w.heap.size w W
theorem ZdS.grow{w wr:World}{b o:Nat}{cs k:List Value}{W j:World}(h:ZdS w wr b o cs k W)(l:b<wr.heap.size)(i:Below W.heap.size W j):ZdS w wr b o cs k j:=by obtain⟨c,f,d⟩:=h;have g:=c.2.2;exact⟨c.grow i,range_keep_v f (i.block b U0),d.trans (i.mono d.size)⟩
theorem checked_c(ds:List CD)(b o c:Nat)(w:World)(h2:2<=ds.length)(h3:ds.length<=3)(hc:ds.length<=c)(hr:∀ (i:Nat) (d:CD),ds[i]?=some d->w.rangeAt b (o+i*5) d.cells)(af:∀ d∈ds,d.At w)(hb:b<w.heap.size):
 zC 71 #[zL (some (zA b o)) ds.length c] w (CkdPost w ds):=by
 have Z:Hid (∀(W:World)(i:Nat)(d:CD),Below w.heap.size w W->ds[i]?=some d->W.rangeAt b (o+i*5) (Ca d.p d.m d.A d.mod.length d.c d.n d.G d.gen.length d.g)):=fun W i d hW hd=>range_keep_v (hr i d hd) (hW.block b hb);have ad:Hid (∀(W:World)(i:Nat)(d:CD),Below w.heap.size w W->ds[i]?=some d->zC 27 #[Ck d.p d.m d.A d.mod.length d.c d.n d.G d.gen.length d.g] W fun e w'=>e=.returned (Y 0)/\Below W.heap.size W w'):=fun W i d hW hd=>by have U:=(af d (List.mem_of_getElem? hd)).keep hW;obtain⟨_,_,_,_,_,l1,l2,_⟩:=codeZ_is U.z;have:=codecheck_c d.p d.m d.mod d.A d.c d.n d.gen d.G d.g W U.mod U0 U.gen U0;rw[U.z] at this;exact this
 have ab:Hid (∀(W:World)(d f:CD),Below w.heap.size w W->d∈ds->f∈ds->zC 81 #[Ch d.p d.m d.A d.mod.length d.c,Ch f.p f.m f.A f.mod.length f.c] W fun e w'=>e=.returned (.bool (decide (d.p=f.p/\d.m=f.m/\d.mod=f.mod)))/\Below W.heap.size W w'):=fun W d f hW hd Q=>by have U:=(af d hd).keep hW;have ae:=(af f Q).keep hW;obtain⟨_,_,_,_,_,_,l2,_⟩:=codeZ_is U.z;exact psame_c d.p d.m f.p f.m d.mod f.mod d.A f.A d.c f.c W U.mod ae.mod U0
 obtain⟨f,Q⟩:∃f,ds[0]?=some f:=⟨ds[0]'U0,List.getElem?_eq_getElem U0⟩;have t:=zH Q;have S:Hid (∀j,j<ds.length->∃d,ds[j]?=some d):=fun j hj=>⟨_,List.getElem?_eq_getElem hj⟩;clear hr af Q;generalize ac:ds.length=L at *;have X:=zH ac;clear ac;go_enter Tryz.func71,Tryz.ntmps71;go_wp2_with fail;go_loopw [10] (fun v10 wr=>RelZc w L v10 wr) (fun v10 _=>L-(intOf v10).toNat);case atStart=>exact⟨0,U0,rfl,Below.refl _ _⟩
 case round =>
  obtain⟨j,hj,rfl,x⟩:=hrel;have O:=zH x;clear x;by_cases V:j<L
  . obtain ⟨d,hd⟩ : ∃ d,ds[j]? = some d := S.out j V;have u:=zH (Z.out wr j d O.out hd);have j0:(0:Int)<=(j:Int):=U0;have j1:(j:Int)<(L:Int):=U0
    have C:Hid (SBoxC wr (Ca d.p d.m d.A d.mod.length d.c d.n d.G d.gen.length d.g) (wr.alloc (Cf d.p d.m d.A d.mod.length d.c d.n d.G d.gen.length d.g))):=
     ⟨heap_alloc_new _ _,(Below.refl _ _).alloc (Nat.le_refl _) _,U2⟩
    have HK:=zH (ad.out _ j d (O.out.trans (C.out.2.1.mono O.out.size)) hd);clear hd
    go_upto_region 4 with(first
     |(refine wpList_load_mid rfl 32 (.tmp 12) rfl b (o+j*5) rfl (Ca d.p d.m d.A d.mod.length d.c d.n d.G d.gen.length d.g) _ u.out Tryz.underlying32 rfl codeSz ?_)
     |(refine qaH rfl 32 (.tmp 4) (.tmp 13) rfl wr _ (Cl d.p d.m d.A d.mod.length d.c d.n d.G d.gen.length d.g) rfl rfl codeSz rfl sc ?_))
    generalize wr.alloc (Cf d.p d.m d.A d.mod.length d.c d.n d.G d.gen.length d.g)=W1 at *;have aa:=zH C.out.range;go_wp2_with (refine wpList_load_mid rfl 32 (.tmp 4) rfl wr.heap.size 0 rfl (Ca d.p d.m d.A d.mod.length d.c d.n d.G d.gen.length d.g) _ aa.out Tryz.underlying32 rfl codeSz ?_);(with_reducible refine HK.out.mono ?_);rintro e w2 ⟨rfl,hb2⟩;have l:=zH (O.out.trans ((C.out.2.1.trans (hb2.mono C.out.2.1.size)).mono O.out.size));clear hb2 C HK aa u O;go_wp2_with fail;go_roundw;case rel=>exact⟨j+1,U0,gn,l.out⟩
    case measure=>exact mE
  . (obtain rfl : L = j := by omega);have n7:¬ c=1:=U0;have P:Hid (RelZd w ds L f (Y ((0:Nat):Int)) wr):=⟨0,U0,rfl,O.out,fun i R=>U0⟩;rcases (show L=2\/L=3 by omega) with rfl | rfl
    . skip;rw [show ((2:Nat):Int)=2 from rfl];go_wp2_with fail;go_loopw [23] (fun v23 wr=>RelZd w ds 2 f v23 wr) (fun v23 _=>1-(intOf v23).toNat);case atStart=>exact P.out
      case round =>
       obtain⟨j,hj,rfl,x,N⟩:=hrel;have l:=zH x;have M:=zH N;clear x N P O;by_cases V:j<1
       . obtain ⟨d,hd⟩ := S.out (j + 1) U0;(have u:Hid (wr.rangeAt b (o+5+j*5) (Ca d.p d.m d.A d.mod.length d.c d.n d.G d.gen.length d.g)):=by have:=Z.out wr (j+1) d l.out hd;rw [show o+(j+1)*5=o+5+j*5 by omega] at this;exact this);have y:wr.rangeAt b o (Ci f.p f.m f.A f.mod.length f.c):=fun k v hv=>by
          have:=Z.out wr 0 f l.out t.out;rw[show o+0*5=o by omega] at this;refine this k v ?_;rcases k with _|_|_|k
          . exact hv
          . exact hv
          . exact hv
          . simp at hv
         have E:=zH hd;have j0:(0:Int)<=(j:Int):=U0;have j1:(j:Int)<1:=U0
         have C:Hid (SBoxC wr (Ca d.p d.m d.A d.mod.length d.c d.n d.G d.gen.length d.g) (wr.alloc (Cf d.p d.m d.A d.mod.length d.c d.n d.G d.gen.length d.g))):=
          ⟨heap_alloc_new _ _,(Below.refl _ _).alloc (Nat.le_refl _) _,U2⟩
         have r:b<wr.heap.size:=Nat.lt_of_lt_of_le hb l.out.size;have J:Hid (ZdS w wr b o (Ca d.p d.m d.A d.mod.length d.c d.n d.G d.gen.length d.g) (Ci f.p f.m f.A f.mod.length f.c) (wr.alloc (Cf d.p d.m d.A d.mod.length d.c d.n d.G d.gen.length d.g))):=⟨C.out,range_keep_v y (C.out.2.1.block b r),l.out.trans (C.out.2.1.mono l.out.size)⟩;have K:Hid (∀W,Below w.heap.size w W->zC 81 #[Ch d.p d.m d.A d.mod.length d.c,Ch f.p f.m f.A f.mod.length f.c] W fun e w'=>e=.returned (.bool (decide (d.p=f.p/\d.m=f.m/\d.mod=f.mod)))/\Below W.heap.size W w'):=fun W hW=>ab.out W d f hW (List.mem_of_getElem? E.out) (List.mem_of_getElem? t.out);clear hd y C;generalize B:decide (d.p=f.p/\d.m=f.m/\d.mod=f.mod)=bb at *;have H:=zH B;clear B
         go_upto_region 11 with(first
          |(refine wpList_load_mid rfl 32 (.tmp 25) rfl b (o+5+j*5) rfl (Ca d.p d.m d.A d.mod.length d.c d.n d.G d.gen.length d.g) _ u.out Tryz.underlying32 rfl codeSz ?_)
          |(refine qaH rfl 32 (.tmp 7) (.tmp 26) rfl wr _ (Cl d.p d.m d.A d.mod.length d.c d.n d.G d.gen.length d.g) rfl rfl codeSz rfl sc ?_))
         generalize wr.alloc (Cf d.p d.m d.A d.mod.length d.c d.n d.G d.gen.length d.g)=W1 at *;refine qaD (ZdS w wr b o (Ca d.p d.m d.A d.mod.length d.c d.n d.G d.gen.length d.g) (Ci f.p f.m f.A f.mod.length f.c)) U1 U1 (J.out.grow r (Below.refl _ _).drew) ?_
         repeat (first
          | (refine keep_load_mid rfl 29 (.tmp 27) rfl wr.heap.size 0 rfl (Ci d.p d.m d.A d.mod.length d.c) _ (fun W q => q.1.range3) Tryz.underlying29 rfl fieldSize ?_
             go_simp)
          | (refine keep_load_mid rfl 29 (.tmp 31) rfl b o rfl (Ci f.p f.m f.A f.mod.length f.c) _ (fun W q => q.2.1) Tryz.underlying29 rfl fieldSize ?_
             go_simp)
          | (apply qaJ rfl
             . intro W q
               go_simp
               try rfl
             go_simp)
          | (apply qaO rfl
             . intro W q
               go_simp
               exact⟨rfl,rfl⟩
             . intro W q
               exact(K.out W q.2.2).mono (by rintro e w' ⟨rfl,hb⟩;exact⟨rfl,q.grow r hb⟩)
             go_simp))
         refine qaE ?_;intro w3 q;have D:=zH q.2.2;clear q J K u;cases bb
         . go_wp2_with fail;go_ret;exact⟨_,rfl,D.out,fun h=>by cases h⟩
         . have T : Hid (∀ i,i < j + 1 -> ∀ d,ds[i + 1]? = some d -> d.same f) := fun i R d' hd' => by
            by_cases e:i=j
            . subst e;rw[E.out] at hd';injection hd' with hd';rw[<- hd'];exact(of_decide_eq_true H.out:d.p=f.p/\d.m=f.m/\d.mod=f.mod)
            . exact M.out i U0 d' hd'
           go_wp2_with fail;go_roundw;case rel=>exact⟨j+1,U0,gn,D.out,T.out⟩
           case measure=>exact mE
       . (obtain rfl : j = 1 := by omega);have I:Hid (∀ d∈ds,∀ e0,ds[0]?=some e0->d.same e0):=fun d hd e0 he0=>by
          rw[t.out] at he0;injection he0 with he0;subst he0;obtain⟨i,R,e⟩:=List.mem_iff_getElem.1 hd;(have s:ds[i]?=some d:=by rw[<- e];exact List.getElem?_eq_getElem R);rw[X.out] at R;rcases i with _|i
          . rw[t.out] at s;injection s with s;rw[<- s];exact⟨rfl,rfl,rfl⟩
          . exact M.out i U0 d s
         go_wp2_with fail;go_ret;exact⟨_,rfl,l.out,fun _=>I.out⟩
    . skip;rw [show ((3:Nat):Int)=3 from rfl];go_wp2_with fail;go_loopw [23] (fun v23 wr=>RelZd w ds 3 f v23 wr) (fun v23 _=>2-(intOf v23).toNat);case atStart=>exact P.out
      case round =>
       obtain⟨j,hj,rfl,x,N⟩:=hrel;have l:=zH x;have M:=zH N;clear x N P O;by_cases V:j<2
       . obtain ⟨d,hd⟩ := S.out (j + 1) U0;(have u:Hid (wr.rangeAt b (o+5+j*5) (Ca d.p d.m d.A d.mod.length d.c d.n d.G d.gen.length d.g)):=by have:=Z.out wr (j+1) d l.out hd;rw [show o+(j+1)*5=o+5+j*5 by omega] at this;exact this);have y:wr.rangeAt b o (Ci f.p f.m f.A f.mod.length f.c):=fun k v hv=>by
          have:=Z.out wr 0 f l.out t.out;rw[show o+0*5=o by omega] at this;refine this k v ?_;rcases k with _|_|_|k
          . exact hv
          . exact hv
          . exact hv
          . simp at hv
         have E:=zH hd;have j0:(0:Int)<=(j:Int):=U0;have j1:(j:Int)<2:=U0
         have C:Hid (SBoxC wr (Ca d.p d.m d.A d.mod.length d.c d.n d.G d.gen.length d.g) (wr.alloc (Cf d.p d.m d.A d.mod.length d.c d.n d.G d.gen.length d.g))):=
          ⟨heap_alloc_new _ _,(Below.refl _ _).alloc (Nat.le_refl _) _,U2⟩
         have r:b<wr.heap.size:=Nat.lt_of_lt_of_le hb l.out.size;have J:Hid (ZdS w wr b o (Ca d.p d.m d.A d.mod.length d.c d.n d.G d.gen.length d.g) (Ci f.p f.m f.A f.mod.length f.c) (wr.alloc (Cf d.p d.m d.A d.mod.length d.c d.n d.G d.gen.length d.g))):=⟨C.out,range_keep_v y (C.out.2.1.block b r),l.out.trans (C.out.2.1.mono l.out.size)⟩;have K:Hid (∀W,Below w.heap.size w W->zC 81 #[Ch d.p d.m d.A d.mod.length d.c,Ch f.p f.m f.A f.mod.length f.c] W fun e w'=>e=.returned (.bool (decide (d.p=f.p/\d.m=f.m/\d.mod=f.mod)))/\Below W.heap.size W w'):=fun W hW=>ab.out W d f hW (List.mem_of_getElem? E.out) (List.mem_of_getElem? t.out);clear hd y C;generalize B:decide (d.p=f.p/\d.m=f.m/\d.mod=f.mod)=bb at *;have H:=zH B;clear B
         go_upto_region 11 with(first
          |(refine wpList_load_mid rfl 32 (.tmp 25) rfl b (o+5+j*5) rfl (Ca d.p d.m d.A d.mod.length d.c d.n d.G d.gen.length d.g) _ u.out Tryz.underlying32 rfl codeSz ?_)
          |(refine qaH rfl 32 (.tmp 7) (.tmp 26) rfl wr _ (Cl d.p d.m d.A d.mod.length d.c d.n d.G d.gen.length d.g) rfl rfl codeSz rfl sc ?_))
         generalize wr.alloc (Cf d.p d.m d.A d.mod.length d.c d.n d.G d.gen.length d.g)=W1 at *;refine qaD (ZdS w wr b o (Ca d.p d.m d.A d.mod.length d.c d.n d.G d.gen.length d.g) (Ci f.p f.m f.A f.mod.length f.c)) U1 U1 (J.out.grow r (Below.refl _ _).drew) ?_
         repeat (first
          | (refine keep_load_mid rfl 29 (.tmp 27) rfl wr.heap.size 0 rfl (Ci d.p d.m d.A d.mod.length d.c) _ (fun W q => q.1.range3) Tryz.underlying29 rfl fieldSize ?_
             go_simp)
          | (refine keep_load_mid rfl 29 (.tmp 31) rfl b o rfl (Ci f.p f.m f.A f.mod.length f.c) _ (fun W q => q.2.1) Tryz.underlying29 rfl fieldSize ?_
             go_simp)
          | (apply qaJ rfl
             . intro W q
               go_simp
               try rfl
             go_simp)
          | (apply qaO rfl
             . intro W q
               go_simp
               exact⟨rfl,rfl⟩
             . intro W q
               exact(K.out W q.2.2).mono (by rintro e w' ⟨rfl,hb⟩;exact⟨rfl,q.grow r hb⟩)
             go_simp))
         refine qaE ?_;intro w3 q;have D:=zH q.2.2;clear q J K u;cases bb
         . go_wp2_with fail;go_ret;exact⟨_,rfl,D.out,fun h=>by cases h⟩
         . have T : Hid (∀ i,i < j + 1 -> ∀ d,ds[i + 1]? = some d -> d.same f) := fun i R d' hd' => by
            by_cases e:i=j
            . subst e;rw[E.out] at hd';injection hd' with hd';rw[<- hd'];exact(of_decide_eq_true H.out:d.p=f.p/\d.m=f.m/\d.mod=f.mod)
            . exact M.out i U0 d' hd'
           go_wp2_with fail;go_roundw;case rel=>exact⟨j+1,U0,gn,D.out,T.out⟩
           case measure=>exact mE
       . (obtain rfl : j = 2 := by omega);have I:Hid (∀ d∈ds,∀ e0,ds[0]?=some e0->d.same e0):=fun d hd e0 he0=>by
          rw[t.out] at he0;injection he0 with he0;subst he0;obtain⟨i,R,e⟩:=List.mem_iff_getElem.1 hd;(have s:ds[i]?=some d:=by rw[<- e];exact List.getElem?_eq_getElem R);rw[X.out] at R;rcases i with _|i
          . rw[t.out] at s;injection s with s;rw[<- s];exact⟨rfl,rfl,rfl⟩
          . exact M.out i U0 d s
         go_wp2_with fail;go_ret;exact⟨_,rfl,l.out,fun _=>I.out⟩
theorem StsAt.more'{w:World}{B B':Nat}{A:Option Addr}{l:List StD}(h:StsAt w B A l)(m:B<=B'):StsAt w B' A l:=fun hz=>by
 obtain⟨b,o,e,k,j⟩:=h hz
 refine⟨b,o,e,U0,fun i d hd=>?_⟩
 obtain⟨c,f,g⟩:=j i d hd
 exact⟨c,f,g.more m⟩
def RelFw(w:World)(n:Nat)(v3:Value)(wr:World):Prop:=∃k:Nat,k<=n/\v3=Y k/\Below w.heap.size w wr
def FewPost(w:World)(n:Nat)(e:Ending)(w':World):Prop:=∃b,e=.returned (.bool b)/\Below w.heap.size w w'/\(b=true->n<=12)
theorem rfewD_c(ds:List StD)(A:Option Addr)(c:Nat)(w:World)(hA:StsAt w w.heap.size A ds)(hk:∀ d∈ds,d.ok):
 zC 14 #[zL A ds.length c] w (FewPost w ds.length):=by
 have HA:=zH hA;have HK:=zH hk;clear hA hk;go_enter Tryz.func14,Tryz.ntmps14;by_cases a8:(12:Int)<(ds.length:Int)
 . go_wp2_with fail;go_ret;exact⟨_,rfl,Below.refl _ _,fun h=>by cases h⟩
 have j:Hid (ds.length<=12):=U5;go_wp2_with fail;go_loopw [3] (fun v3 wr=>RelFw w ds.length v3 wr) (fun v3 _=>ds.length-(intOf v3).toNat);case atStart=>exact⟨0,Nat.zero_le _,rfl,Below.refl _ _⟩
 case round =>
  obtain⟨k,bb,rfl,hb⟩:=hrel;have i:=zH hb;clear hb;by_cases Q:k<ds.length
  . (have k0 : (0 : Int) <= (k : Int) := by omega);have k1:(k:Int)<(ds.length:Int):=U0;have bc:IntKind.i64.wrap ((k:Int)+1)=(k:Int)+1:=IntWalk.i64_in _ U0;obtain ⟨b,o,a6,rfl,a9,al,an⟩:=(HA.out.keep i.out).at_ Q;have a3:(ds[k]'Q).ok:=HK.out _ (List.getElem_mem Q);generalize ds[k]'Q=s at *;have au:=zH (an.more i.out.size);obtain ⟨v,u,Af,Aa,Ab,Ap,Aq,Ar,As,At,C,B,cf,ca,cb,cp,cq,cr,E,T,rfl,ax,h1,h2,h3,h4,h5⟩:=an;have HM:=zH (h1.more i.out.size);have HG:=zH (h2.more i.out.size);have HT:=zH (h5.more i.out.size);have aj:=zH al;obtain ⟨s1,s2,_⟩:=a3;have av:maxLen=9223372036854775807:=rfl;rw [av] at s1 s2;have t:=zH (sb_new wr (stCells s v u Af Aa Ab Ap Aq Ar As At C B cf ca cb cp cq cr E T));(have S:Hid ((stCells s v u Af Aa Ab Ap Aq Ar As At C B cf ca cb cp cq cr E T).toArray.all (·.oneCell')=true):=by show _=_;simp [stCells,Value.oneCell']);clear ax h1 h2 h3 h4 h5 al au
    go_upto_region 7 with(first
     |(refine wpList_load_mid rfl 40 (.tmp 18) rfl b (o+k*23) rfl (stCells s v u Af Aa Ab Ap Aq Ar As At C B cf ca cb cp cq cr E T) _ aj.out Tryz.underlying40 rfl stepSize ?_)
     |(refine qaH rfl 40 (.tmp 4) (.tmp 19) rfl wr _ (stCells s v u Af Aa Ab Ap Aq Ar As At C B cf ca cb cp cq cr E T).toArray rfl rfl stepSize rfl S.out ?_))
    generalize wr.alloc (.cells (stCells s v u Af Aa Ab Ap Aq Ar As At C B cf ca cb cp cq cr E T).toArray 40)=H at *;clear aj S;have U:H.cell? (zA wr.heap.size 1)=some (Y s.p):=t.out.cell rfl;have V:H.cell? (zA wr.heap.size 2)=some (Y s.m):=t.out.cell rfl;have X:H.cell? (zA wr.heap.size 3)=some (zL v s.mod.length C):=t.out.cell rfl;have Z:H.cell? (zA wr.heap.size 4)=some (Y s.n):=t.out.cell rfl;have y5:H.cell? (zA wr.heap.size 5)=some (zL u s.gen.length B):=t.out.cell rfl;have y7:H.cell? (zA wr.heap.size 7)=some (zL Af s.frm.length cf):=t.out.cell rfl;have y8:H.cell? (zA wr.heap.size 8)=some (zL Aa s.at_.length ca):=t.out.cell rfl;have ab:H.cell? (zA wr.heap.size 17)=some (zL Ap s.points cp):=t.out.cell rfl;have ac:H.cell? (zA wr.heap.size 18)=some (zL Aq s.mults cq):=t.out.cell rfl;have ad:H.cell? (zA wr.heap.size 19)=some (zL Ar s.perm cr):=t.out.cell rfl;have ae:H.cell? (zA wr.heap.size 20)=some (zL As s.scale E):=t.out.cell rfl;have af:H.cell? (zA wr.heap.size 22)=some (zL At s.sets.length T):=t.out.cell rfl;by_cases be:(24:Int)<s.n
    . go_wp2_with fail;go_ret;exact⟨_,rfl,i.out.trans (t.out.2.1.mono i.out.size),fun _=>j.out⟩
    by_cases a7:(24:Int)<(s.gen.length:Int)
    . go_wp2_with fail;go_ret;exact⟨_,rfl,i.out.trans (t.out.2.1.mono i.out.size),fun _=>j.out⟩
    have HF:=zH (fewN_c 700 (Y s.p) (Y s.m) (zL v s.mod.length C) (Y s.n) s.gen u B H ((HG.out.keep t.out.2.1).more t.out.2.1.size) dc dc);go_wp2_with fail;(with_reducible refine HF.out.mono ?_);rintro e I ⟨b1,rfl,hb1⟩;have f:=zH (t.out.grow hb1);clear hb1 HF t;clear U V X Z y5 y7 y8 ab ac ad ae af;have U:I.cell? (zA wr.heap.size 1)=some (Y s.p):=f.out.cell rfl;have V:I.cell? (zA wr.heap.size 2)=some (Y s.m):=f.out.cell rfl;have X:I.cell? (zA wr.heap.size 3)=some (zL v s.mod.length C):=f.out.cell rfl;have Z:I.cell? (zA wr.heap.size 4)=some (Y s.n):=f.out.cell rfl;have y5:I.cell? (zA wr.heap.size 5)=some (zL u s.gen.length B):=f.out.cell rfl;have y7:I.cell? (zA wr.heap.size 7)=some (zL Af s.frm.length cf):=f.out.cell rfl;have y8:I.cell? (zA wr.heap.size 8)=some (zL Aa s.at_.length ca):=f.out.cell rfl;have ab:I.cell? (zA wr.heap.size 17)=some (zL Ap s.points cp):=f.out.cell rfl;have ac:I.cell? (zA wr.heap.size 18)=some (zL Aq s.mults cq):=f.out.cell rfl;have ad:I.cell? (zA wr.heap.size 19)=some (zL Ar s.perm cr):=f.out.cell rfl;have ae:I.cell? (zA wr.heap.size 20)=some (zL As s.scale E):=f.out.cell rfl;have af:I.cell? (zA wr.heap.size 22)=some (zL At s.sets.length T):=f.out.cell rfl;clear H;cases b1
    . go_wp2_with fail;go_ret;exact⟨_,rfl,i.out.trans (f.out.2.1.mono i.out.size),fun _=>j.out⟩
    obtain⟨e1,ay⟩:∃e1,IntKind.i64.wrap ((s.at_.length:Int)+(s.points:Int))=e1:=⟨_,rfl⟩;obtain⟨e2,az⟩:∃e2,IntKind.i64.wrap (e1+(s.mults:Int))=e2:=⟨_,rfl⟩;obtain⟨e3,a0⟩:∃e3,IntKind.i64.wrap (e2+(s.perm:Int))=e3:=⟨_,rfl⟩;obtain⟨e4,a1⟩:∃e4,IntKind.i64.wrap (e3+(s.scale:Int))=e4:=⟨_,rfl⟩;obtain⟨e5,a2⟩:∃e5,IntKind.i64.wrap (e4+(s.frm.length:Int))=e5:=⟨_,rfl⟩;by_cases hs:(200:Int)<e5
    . go_wp2_with fail;go_ret;exact⟨_,rfl,i.out.trans (f.out.2.1.mono i.out.size),fun _=>j.out⟩
    have HF:=zH (xfew_c s.sets At T I ((HT.out.keep f.out.2.1).more f.out.2.1.size));go_wp2_with fail;(with_reducible refine HF.out.mono ?_);rintro e w2 ⟨b2,rfl,hb2⟩;have x:=zH (f.out.grow hb2);clear hb2 HF f ay az a0 a1 a2;clear U V X Z y5 y7 y8 ab ac ad ae af;clear I;cases b2
    . go_wp2_with fail;go_ret;exact⟨_,rfl,i.out.trans (x.out.2.1.mono i.out.size),fun _=>j.out⟩
    have N:Hid (w2.rangeAt wr.heap.size 1 (Ca s.p s.m v s.mod.length C s.n u s.gen.length B)):=x.out.code;have ah:=zH (rcodecheck_c s.p s.m s.mod v C s.n s.gen u B w2 ((HM.out.keep x.out.2.1).more x.out.2.1.size) s1 ((HG.out.keep x.out.2.1).more x.out.2.1.size) s2);go_wp2_with (refine wpList_load_mid rfl 32 (.tmp 71) rfl wr.heap.size 1 rfl (Ca s.p s.m v s.mod.length C s.n u s.gen.length B) _ N.out Tryz.underlying32 rfl codeSize ?_);(with_reducible refine ah.out.mono ?_);rintro e w3 ⟨rfl,hb3⟩;have y:=zH (x.out.grow hb3);clear hb3 ah x N;clear w2;have ag:=zH (i.out.trans (y.out.2.1.mono i.out.size));by_cases hz:codeZ s.p s.m s.mod s.n s.gen=0
    . have N : Hid (w3.rangeAt wr.heap.size 1 (Ca s.p s.m v s.mod.length C s.n u s.gen.length B)) := y.out.code;have ai:=zH (rdual_c s v C u B w3 hz ((HM.out.keep y.out.2.1).more y.out.2.1.size) ((HG.out.keep y.out.2.1).more y.out.2.1.size));have ba:s.gen.length<=256:=(code_form hz).2.2.2.2.2
      have aa:Hid (∀W,Below wr.heap.size wr W->zC 20 #[Ck s.p s.m v s.mod.length C s.n u s.gen.length B,Y 1024] W fun e w'=>e=.returned (Y (cnV s.p s.m s.mod s.n s.gen 1024))/\Below W.heap.size W w'):=fun W hW=>
       count_c s.p s.m s.mod v C s.n s.gen u B 1024 W ((HM.out.keep hW).more hW.size) s1 ((HG.out.keep hW).more hW.size) U0
      rw[hz];clear hz;go_upto_region 10 with fail;go_wp2_with (refine wpList_load_mid rfl 32 (.tmp 76) rfl wr.heap.size 1 rfl (Ca s.p s.m v s.mod.length C s.n u s.gen.length B) _ N.out Tryz.underlying32 rfl codeSize ?_);(with_reducible refine ai.out.mono ?_);rintro e K ⟨⟨B',c',G,R,k',rfl,hi4,hr4,hl4⟩,hb4⟩;have ak:=zH (y.out.grow hb4);have J:Below K.heap.size K (K.alloc (Cf s.p s.m B' s.mod.length c' s.n G R.length k')):=(Below.refl _ _).alloc (Nat.le_refl _) _;have g:=zH (ak.out.grow J);have aq:=zH ((hi4.keep J).more J.size);have ar:=zH ((hr4.keep J).more J.size);have M:=zH (heap_alloc_new K (Cf s.p s.m B' s.mod.length c' s.n G R.length k'));(have a5:Hid (K.heap.size<(K.alloc (Cf s.p s.m B' s.mod.length c' s.n G R.length k')).heap.size):=by show _ < _;simp);clear hb4 hi4 hr4 ai y N J ak ag;go_upto_region 11 with(refine qaH rfl 32 (.tmp 5) (.tmp 79) rfl K _ (Cl s.p s.m B' s.mod.length c' s.n G R.length k') rfl rfl codeSize rfl sc ?_);generalize K.alloc (Cf s.p s.m B' s.mod.length c' s.n G R.length k')=L at *;have ap:=zH (i.out.trans (g.out.2.1.mono i.out.size));have y0:L.cell? (zA wr.heap.size 0)=some (Y s.rule):=g.out.cell rfl;have U:L.cell? (zA wr.heap.size 1)=some (Y s.p):=g.out.cell rfl;have V:L.cell? (zA wr.heap.size 2)=some (Y s.m):=g.out.cell rfl;have X:L.cell? (zA wr.heap.size 3)=some (zL v s.mod.length C):=g.out.cell rfl;have Z:L.cell? (zA wr.heap.size 4)=some (Y s.n):=g.out.cell rfl;have y5:L.cell? (zA wr.heap.size 5)=some (zL u s.gen.length B):=g.out.cell rfl;by_cases O:s.rule=15
      . have a4 : (s.rule == 15) = true := beq_iff_eq.2 O;have ao:(s.rule==16)=false:=beq_false_of_ne U0;have l:=zH (aa.out L g.out.2.1);clear O aa;by_cases r:cnV s.p s.m s.mod s.n s.gen 1024=0
        . rw[r] at l;clear r;go_wp2_with fail;(with_reducible refine l.out.mono ?_);rintro e w6 ⟨rfl,hb6⟩;have q:=zH (g.out.grow hb6);have D:=zH (i.out.trans (q.out.2.1.mono i.out.size));clear hb6 l g y0 U V X Z y5;have y0:w6.cell? (zA wr.heap.size 0)=some (Y s.rule):=q.out.cell rfl;go_wp2_with fail;go_ret;exact⟨_,rfl,D.out,fun _=>j.out⟩
        . have aw : (cnV s.p s.m s.mod s.n s.gen 1024 == 0) = false:=beq_false_of_ne r;generalize cnV s.p s.m s.mod s.n s.gen 1024=cv at *;clear r;go_wp2_with fail;(with_reducible refine l.out.mono ?_);rintro e w6 ⟨rfl,hb6⟩;have q:=zH (g.out.grow hb6);have D:=zH (i.out.trans (q.out.2.1.mono i.out.size));clear hb6 l g y0 U V X Z y5;have y0:w6.cell? (zA wr.heap.size 0)=some (Y s.rule):=q.out.cell rfl;go_wp2_with fail;go_roundw;case rel=>exact⟨k+1,U0,gn,D.out⟩
          case measure=>exact mE
      . have a4 : (s.rule == 15) = false := beq_false_of_ne O;clear O aa;by_cases P:s.rule=16
        . have ao : (s.rule == 16) = true := beq_iff_eq.2 P;have l:=zH (count_c s.p s.m s.mod B' c' s.n (nzs R) G k' 1024 L aq.out s1 ar.out (by rw [nzs_len];omega));rw [nzs_len] at l;have d0:L.cell? (zA K.heap.size 0)=some (Y s.p):=cell_of_row _ _ 0 _ _ _ M.out;have d1:L.cell? (zA K.heap.size 1)=some (Y s.m):=cell_of_row _ _ 1 _ _ _ M.out;have d2:L.cell? (zA K.heap.size 2)=some (zL B' s.mod.length c'):=cell_of_row _ _ 2 _ _ _ M.out;have d3:L.cell? (zA K.heap.size 3)=some (Y s.n):=cell_of_row _ _ 3 _ _ _ M.out;have d4:L.cell? (zA K.heap.size 4)=some (zL G R.length k'):=cell_of_row _ _ 4 _ _ _ M.out;clear P;by_cases r:cnV s.p s.m s.mod s.n (nzs R) 1024=0
          . rw[r] at l;clear r;go_wp2_with fail;(with_reducible refine l.out.mono ?_);rintro e w6 ⟨rfl,hb6⟩;have q:=zH (g.out.grow hb6);have D:=zH (i.out.trans (q.out.2.1.mono i.out.size));clear hb6 l g y0 U V X Z y5;go_wp2_with fail;go_ret;exact⟨_,rfl,D.out,fun _=>j.out⟩
          . have aw : (cnV s.p s.m s.mod s.n (nzs R) 1024 == 0) = false:=beq_false_of_ne r;generalize cnV s.p s.m s.mod s.n (nzs R) 1024=cv at *;clear r;go_wp2_with fail;(with_reducible refine l.out.mono ?_);rintro e w6 ⟨rfl,hb6⟩;have q:=zH (g.out.grow hb6);have D:=zH (i.out.trans (q.out.2.1.mono i.out.size));clear hb6 l g y0 U V X Z y5;go_wp2_with fail;go_roundw;case rel=>exact⟨k+1,U0,gn,D.out⟩
            case measure=>exact mE
        . have ao : (s.rule == 16) = false:=beq_false_of_ne P;clear P;go_wp2_with fail;go_roundw;case rel=>exact⟨k+1,U0,gn,ap.out⟩
          case measure=>exact mE
    . have bd : (codeZ s.p s.m s.mod s.n s.gen != 0) = true:=bne_iff_ne.2 hz;generalize codeZ s.p s.m s.mod s.n s.gen=z at *;go_wp2_with fail;go_roundw;case rel=>exact⟨k+1,U0,gn,ag.out⟩
      case measure=>exact mE
  . (obtain rfl:k=ds.length:=by omega);go_wp2_with fail;go_ret;exact⟨_,rfl,i.out,fun _=>j.out⟩
end Go.Proofs.YtndipkplnkfoeaaGreat
