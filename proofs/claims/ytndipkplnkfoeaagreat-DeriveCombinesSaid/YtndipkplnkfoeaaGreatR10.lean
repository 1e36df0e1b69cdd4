/- Parts of the proof. -/
import Derived.Test.YtndipkplnkfoeaaGreatR09
import Derived.Test.YtndipkplnkfoeaaGreatR06
set_option maxRecDepth 100000
set_option maxHeartbeats 8000000
namespace Go.Proofs.YtndipkplnkfoeaaGreat
open Go.RowKit Pln
def RelIn(w:World)(p m:Nat)(A:Option Addr)(n c:Nat)(mul:Nat->Nat->Nat)(x:Nat)(v5:Value)(wr:World):Prop:=
 ∃y:Nat,1<=y/\y<=p^m/\v5=Y (y:Int)/\refInv mul (p^m) x=invGo mul x (p^m-y) y/\SBoxF w p m A n c wr
theorem rinv_c(p m:Nat)(md:List Nat)(A:Option Addr)(n c x:Nat)(w:World)(R:Small p m)(S:md.length=m)(T:∀ d∈md,d<p)(V:2<=m->n=m/\IntsAt w w.heap.size A (nz md))(U:x<p ^ m):
 zC 149 #[Ch p m A n c,Y x] w fun e w'=>e=.returned (Y ((refInv (refMul p m md) (p^m) x:Nat):Int))/\Below w.heap.size w w':=by
 have K:=zH (qbK w p m A n c);have J:Hid (∀W:World,zC 33 #[Ch p m A n c] W fun e w'=>e=.returned (Y ((p^m:Nat):Int))/\Below W.heap.size W w'):=fun W=>by have:=rorder_c p m A n c W;rw[qbX R.p1 R.p2 R.m1 R.m2,if_neg (by have:=R.q;omega)] at this;exact this
 have C:Hid (∀(y:Nat)(W:World),y<p^m->Below w.heap.size w W->zC 91 #[Ch p m A n c,Y x,Y y] W fun e w'=>e=.returned (Y ((refMul p m md x y:Nat):Int))/\Below W.heap.size W w'):=fun y W hy hW=>
  rmul_c p m md A n c x y W R S T (fun h=>⟨(V h).1,((V h).2.keep hW).more hW.size⟩) U hy
 have P:=R.q;have E:1<=p^m:=Nat.pow_pos (by have:=R.p1;omega);clear R S T V U;generalize refMul p m md=mul at *;go_enter Tryz.func149,Tryz.ntmps149;go_upto_region 1 with fail;generalize w.alloc (Ce p m A n c)=L at *;have s:Hid (RelIn w p m A n c mul x (zN 1) L):=⟨1,Nat.le_refl _,E,rfl,rfl,K.out⟩;have r:Hid (∀v wr,RelIn w p m A n c mul x v wr=∃y:Nat,1<=y/\y<=p^m/\v=Y (y:Int)/\refInv mul (p^m) x=invGo mul x (p^m-y) y/\SBoxF w p m A n c wr):=fun _ _=>rfl;generalize u:p^m=q at *;have o:=zH u;clear u;go_wp2_with fail;go_loopw [5] (fun v5 wr=>RelIn w p m A n c mul x v5 wr) (fun v5 _=>q-(intOf v5).toNat);case atStart=>exact s.out
 case round =>
  rw[r.out] at hrel;obtain⟨y,M,N,rfl,j,U⟩:=hrel;have f:=zH j;have k:=zH U;clear j U s;have b:=zH k.out.range;go_wp2_with (refine wpList_load_mid rfl 29 (.tmp 2) rfl w.heap.size 0 rfl (Ci p m A n c) _ b.out Tryz.underlying29 rfl fieldSize ?_);(with_reducible refine(J.out wr).mono ?_);rintro e O ⟨rfl,hb1⟩;have i:=zH (k.out.grow hb1);clear hb1 k b;by_cases D:y<q
  . have b := zH i.out.range;have I:=zH (C.out y O D i.out.1);(have g:Hid (invGo mul x (q-y) y=if mul x y=1 then y else invGo mul x (q-(y+1)) (y+1)):=by show _=_;rw [show q-y=(q-(y+1))+1 by omega];rfl);generalize mul x y=z at *;go_wp2_with (refine wpList_load_mid rfl 29 (.tmp 2) rfl w.heap.size 0 rfl (Ci p m A n c) _ b.out Tryz.underlying29 rfl fieldSize ?_);(with_reducible refine I.out.mono ?_);rintro e Q ⟨rfl,hb2⟩;have t:=zH (i.out.grow hb2);clear hb2;by_cases B:z=1
    . (have l:Hid (refInv mul q x=y):=by show _=_;rw[f.out,g.out,if_pos B]);(have H:((z:Int)==1)=true:=by rw[B];rfl);clear B g;go_wp2_with fail;go_ret;exact⟨qaG (by rw[o.out,l.out]),t.out.1⟩
    . (have l : Hid (refInv mul q x = invGo mul x (q - (y + 1)) (y + 1)):=by show _ = _;rw[f.out,g.out,if_neg B]);(have H:((z:Int)==1)=false:=by rw[beq_eq_false_iff_ne];omega);clear B g;go_wp2_with fail;go_roundw;case rel=>rw[r.out];exact⟨y+1,U0,U0,gn,l.out,t.out⟩
      case measure=>exact mE
  . (obtain rfl:y=q:=by omega);(have l:Hid (refInv mul y x=0):=by show _=_;rw[f.out,Nat.sub_self];rfl);go_wp2_with fail;go_ret;exact⟨qaG (by rw[o.out,l.out];rfl),i.out.1⟩
structure RFld (p m:Nat) (md:List Nat) (A:Option Addr) (n:Nat) (B:Nat) (W:World):Prop where
 small:Small p m
 len:md.length=m
 lt:∀d∈md,d<p
 mod:2<=m->n=m/\IntsAt W B A (nz md)
section
variable {p m:Nat} {md:List Nat} {A:Option Addr} {n c B:Nat} {W W':World}
theorem RFld.keep(h:RFld p m md A n B W)(b:Below B W W'):RFld p m md A n B W':=⟨h.small,h.len,h.lt,fun h2=>⟨(h.mod h2).1,(h.mod h2).2.keep b⟩⟩
theorem RFld.more{B':Nat}(h:RFld p m md A n B W)(b:B<=B'):RFld p m md A n B' W:=⟨h.small,h.len,h.lt,fun h2=>⟨(h.mod h2).1,(h.mod h2).2.more b⟩⟩
theorem RFld.mul(h:RFld p m md A n W.heap.size W){x y:Nat}(b:x<p^m)(d:y<p^m)(c:Nat):zC 91 #[Ch p m A n c,Y x,Y y] W fun e w'=>e=.returned (Y (((refOps p m md).mul x y:Nat):Int))/\Below W.heap.size W w':=
 rmul_c p m md A n c x y W h.small h.len h.lt h.mod b d
theorem RFld.add(h:RFld p m md A n B W){x y:Nat}(b:x<p^m)(d:y<p^m)(c:Nat):zC 90 #[Ch p m A n c,Y x,Y y] W fun e w'=>e=.returned (Y (((refOps p m md).add x y:Nat):Int))/\Below W.heap.size W w':=
 radd_c p m A n c x y W h.small b d
theorem RFld.neg(h:RFld p m md A n B W){x:Nat}(b:x<p^m)(c:Nat):zC 150 #[Ch p m A n c,Y x] W fun e w'=>e=.returned (Y (((refOps p m md).neg x:Nat):Int))/\Below W.heap.size W w':=
 rneg_c p m A n c x W h.small b
theorem RFld.inv(h:RFld p m md A n W.heap.size W){x:Nat}(b:x<p^m)(c:Nat):zC 149 #[Ch p m A n c,Y x] W fun e w'=>e=.returned (Y (((refOps p m md).inv x:Nat):Int))/\Below W.heap.size W w':=
 rinv_c p m md A n c x W h.small h.len h.lt h.mod b
theorem RFld.mul_lt(h:RFld p m md A n B W)(x y:Nat):(refOps p m md).mul x y<p^m:=by show refMul p m md x y<p^m;rw[refMul_eq (by have:=h.small.p1;omega) h.small.m1 h.len];exact(qaV (by have:=h.small.p1;omega) h.small.m1 md).lt x y
end
def fK(r:List Nat)(k:Nat):List Nat:=r.take k++List.replicate (r.length-k) 0
theorem fK_len(r:List Nat)(k:Nat)(b:k<=r.length):(fK r k).length=r.length:=by simp[fK];omega
theorem fK_set(r:List Nat)(k:Nat)(b:k<r.length):(fK r k).set k (r.getD k 0)=fK r (k+1):=by
 unfold fK;have h:(r.take k).length=k:=by rw[List.length_take];omega
 rw[List.set_append_right _ _ U0,h,Nat.sub_self,show r.length-k=(r.length-(k+1))+1 by omega,List.replicate_succ,List.set_cons_zero,List.take_succ_eq_append_getElem b,List.append_assoc];simp[List.getD,b]
theorem fK_end(r:List Nat):fK r r.length=r:=by unfold fK;rw[List.take_length,Nat.sub_self,List.replicate_zero,List.append_nil]
def NRow(w:World)(p m:Int)(A:Option Addr)(n c go:Nat)(r:List Nat)(k:Nat)(Av:Option Addr)(v:List Nat)(Au:Option Addr)(u:List Nat)(wr:World):Prop:=
 SBoxF w p m A n c wr/\Row wr (w.heap.size+1) go r.length (nz (fK r k))/\IntsAt wr w.heap.size Av (nz v)/\IntsAt wr w.heap.size Au (nz u)
theorem NRow.grow{w:World}{p m:Int}{A:Option Addr}{n c o:Nat}{r:List Nat}{k:Nat}{l:Option Addr}{v:List Nat}{j:Option Addr}{u:List Nat}{wr q:World}(h:NRow w p m A n c o r k l v j u wr)(i:Below wr.heap.size wr q):NRow w p m A n c o r k l v j u q:=by obtain⟨b,d,f,g⟩:=h;exact⟨b.grow i,d.below i d.lt.2,f.keep (i.mono (Nat.le_of_lt b.2.1)),g.keep (i.mono (Nat.le_of_lt b.2.1))⟩
theorem NRow.set{w:World}{p m:Int}{A:Option Addr}{n c l:Nat}{r:List Nat}{k:Nat}{q:Option Addr}{v:List Nat}{o:Option Addr}{u:List Nat}{wr:World}(h:NRow w p m A n c l r k q v o u wr)(s:k<r.length):NRow w p m A n c l r (k+1) q v o u (wr.setCell (zA l k) (Y ((r.getD k 0:Nat):Int))):=by obtain⟨g,d,i,j⟩:=h;have b:=d.lt.1;have f:Below w.heap.size wr (wr.setCell (zA l k) (Y ((r.getD k 0:Nat):Int))):=(Below.refl _ _).setCell (p:=(zA l k)) (by show w.heap.size<=l;omega) _;refine⟨g.wrote b _,?_,i.keep f,j.keep f⟩;rw[<- fK_set r k s,<- qbC];exact d.set k _
def RelNR(w:World)(p m:Int)(A:Option Addr)(n c go:Nat)(r:List Nat)(Av:Option Addr)(v:List Nat)(Au:Option Addr)(u:List Nat)(v8:Value)(wr:World):Prop:=
 ∃k:Nat,k<=r.length/\v8=Y (k:Int)/\NRow w p m A n c go r k Av v Au u wr
theorem rscale_c(p m:Nat)(md:List Nat)(A:Option Addr)(n c a:Nat)(v:List Nat)(Av:Option Addr)(cv:Nat)(w:World)(hR:RFld p m md A n w.heap.size w)(ha:a<p ^ m)(hv:∀ x∈v,x<p ^ m)(hA:IntsAt w w.heap.size Av (nz v))(hl:v.length<=1000):
 zC 148 #[Ch p m A n c,Y a,zL Av v.length cv] w fun e w'=>(∃g,e=.returned (zS g v.length v.length)/\Row w' w.heap.size g v.length (nz (scaleRow (refOps p m md) a v)))/\Below w.heap.size w w':=by
 have HX:=zH (qbK w p m A n c);have HA:=zH (hA.keep HX.out.1);have U:Hid (∀(x:Nat)(W:World),x<p^m->Below w.heap.size w W->zC 91 #[Ch p m A n c,Y a,Y x] W fun e w'=>e=.returned (Y (((refOps p m md).mul a x:Nat):Int))/\Below W.heap.size W w'):=fun x W hx hW=>((hR.keep hW).more hW.size).mul ha hx c;have L:(scaleRow (refOps p m md) a v).length=v.length:=by simp[scaleRow]
 have V:Hid (∀k,k<v.length->(scaleRow (refOps p m md) a v).getD k 0=(refOps p m md).mul a (v.getD k 0)):=fun k y=>by
  have e1:v[k]?=some (v.getD k 0):=by simp[List.getD,y]
  unfold scaleRow;rw[List.getD_eq_getElem?_getD,List.getElem?_map,e1];rfl
 have HV:Hid (∀k,k<v.length->v.getD k 0<p^m):=fun k y=>by
  have:v.getD k 0=v[k]:=by simp[List.getD,y]
  rw[this];exact hv _ (List.getElem_mem y)
 obtain⟨i0,hi,N,O,P⟩:=qaF infoInt;have HI:=zH hi;have H:=zH N;have I:=zH O;have B:=zH (show i0.bytes*v.length<=281474976710656 by rw[P];omega);have C:=zH (show v.length<=maxLen by unfold maxLen;omega);have d:=zH L;clear hi N O P hR hA hv L ha;generalize scaleRow (refOps p m md) a v=r at *;generalize (refOps p m md).mul a=f at *;go_enter Tryz.func148,Tryz.ntmps148;go_upto_region 1 with fail;have t:w.heap.size+1<=(w.alloc (Ce p m A n c)).heap.size:=U2;generalize w.alloc (Ce p m A n c)=W0 at *;go_wp2_with (refine wpList_make_full W0 rfl (.tmp 10) (.tmp 10) 23 rfl (w.heap.size+1) 3 i0 (Y 0) 1 Tryz.underlying23 HI.out H.out I.out .i64 .i64 v.length v.length v.length rfl rfl rfl rfl B.out C.out t ?_;intro w1 s J);have u:=qaL J;have K:=Row.of_make s;have D:Hid (RelNR w p m A n c W0.heap.size r Av v none [] (Y ((0:Nat):Int)) w1):=⟨0,Nat.zero_le _,rfl,HX.out.grow u,by rw[d.out];unfold fK;rw[List.take_zero,List.nil_append,d.out];exact K,HA.out.keep (u.mono U0),fun h=>by simp[nz] at h⟩;clear s J u K t HX HA HI H I B C;generalize W0.heap.size=l at *;go_wp2_with fail;go_loopw [8] (fun v8 wr=>RelNR w p m A n c l r Av v none [] v8 wr) (fun v8 _=>v.length-(intOf v8).toNat);case atStart=>exact D.out
 case round =>
  obtain⟨k,y,rfl,hn⟩:=hrel;have Q:=zH hn;clear hn D;rw[d.out] at y;by_cases i:k<v.length
  . obtain ⟨b,o,rfl,ab,hc⟩ := Q.out.2.2.1.at_ (k := k) (by rw [qaA];exact i);have T:=zH (V.out k i);have M:=HV.out k i;have k0:(0:Int)<=(k:Int):=U0;have k1:(k:Int)<(v.length:Int):=U0;(have S:Hid (∀ W,NRow w p m A n c l r k (some (zA b o)) v none [] W->zC 91 #[Ch p m A n c,Y a,Y ((v.getD k 0:Nat):Int)] W fun e w'=>e=.returned (Y ((r.getD k 0:Nat):Int))/\NRow w p m A n c l r k (some (zA b o)) v none [] w'):=fun W hW=>by have:=U.out (v.getD k 0) W M hW.1.1;rw [<- T.out] at this;exact this.mono fun e w' ⟨he,hb⟩=>⟨he,hW.grow hb⟩);(have aa:Hid (∀ W,NRow w p m A n c l r k (some (zA b o)) v none [] W->W.cell? (zA b (o+k))=some (Y ((v.getD k 0:Nat):Int))):=fun W hW=>by obtain ⟨b',o',e,_,h⟩:=hW.2.2.1.at_ (k:=k) (by rw [qaA];exact i);injection e with e;injection e with e1 e2;subst e1 e2;rw [qaC] at h;exact h);have E:Hid (∀ wr,NRow w p m A n c l r k (some (zA b o)) v none [] wr->NRow w p m A n c l r (k+1) (some (zA b o)) v none [] (wr.setCell (zA l k) (Y ((r.getD k 0:Nat):Int)))):=fun wr h=>h.set (by rw [d.out];exact i);clear hc M;generalize r.getD k 0=z at *;generalize v.getD k 0=xv at *;go_upto_region 5 with fail;refine qaI 10 (NRow w p m A n c l r k (some (zA b o)) v none []) U1 U1 (Q.out.grow (Below.refl _ _).drew) ?_;simp only [List.take_succ_cons,List.take_zero,List.drop_succ_cons,List.drop_zero]
    repeat (first
     | (refine keep_load_mid rfl 29 (.tmp 3) rfl w.heap.size 0 rfl (Ci p m A n c) _ (fun W hW => hW.1.range) Tryz.underlying29 rfl fieldSize ?_
        go_simp)
     | (apply qaJ rfl
        . intro W R
          have yv:=aa.out W R
          go_simp
          rfl
        go_simp)
     | (apply qaO rfl
        . intro W R
          go_simp
          exact⟨rfl,rfl⟩
        . intro W R
          exact S.out W R
        go_simp))
    refine qaE ?_;intro w2 q;have Z:=zH q;have f0:=q.2.1.frozen k;have c0:=q.2.1.cell (j:=k) (by rw[qaA,fK_len r k (by rw[d.out];omega),d.out];exact i);clear q;go_wp2_with fail;go_roundw;case rel=>exact⟨k+1,by rw[d.out];omega,gn,E.out _ Z.out⟩
    case measure=>exact mE
  . (obtain rfl:k=v.length:=by omega);(have X:Hid (Row wr w.heap.size l v.length (nz r)):=by have:=Q.out.2.1;rw[<- d.out,fK_end] at this;rw[<- d.out];exact this.base (by have:=this.lt;omega));go_wp2_with fail;go_ret;exact⟨⟨l,rfl,X.out⟩,Q.out.1.1⟩
def NRowL(w:World)(p m:Int)(A:Option Addr)(n c go N:Nat)(L:List Nat)(Av:Option Addr)(v:List Nat)(Au:Option Addr)(u:List Nat)(wr:World):Prop:=
 SBoxF w p m A n c wr/\Row wr (w.heap.size+1) go N (nz L)/\IntsAt wr w.heap.size Av (nz v)/\IntsAt wr w.heap.size Au (nz u)
section
variable {w:World} {p m:Int} {A:Option Addr} {n c go N:Nat} {L:List Nat} {Av:Option Addr} {v:List Nat} {Au:Option Addr} {u:List Nat} {wr wx:World}
theorem NRowL.grow(h:NRowL w p m A n c go N L Av v Au u wr)(i:Below wr.heap.size wr wx):NRowL w p m A n c go N L Av v Au u wx:=by obtain⟨b,d,f,g⟩:=h;exact⟨b.grow i,d.below i d.lt.2,f.keep (i.mono (Nat.le_of_lt b.2.1)),g.keep (i.mono (Nat.le_of_lt b.2.1))⟩
theorem NRowL.set(h:NRowL w p m A n c go N L Av v Au u wr)(k x:Nat):NRowL w p m A n c go N (L.set k x) Av v Au u (wr.setCell (zA go k) (Y (x:Int))):=by obtain⟨g,d,i,j⟩:=h;have b:=d.lt.1;have f:Below w.heap.size wr (wr.setCell (zA go k) (Y (x:Int))):=(Below.refl _ _).setCell (p:=(zA go k)) (by show w.heap.size<=go;omega) _;refine⟨g.wrote b _,?_,i.keep f,j.keep f⟩;rw[<- qbC];exact d.set k _
theorem NRowL.cv(h:NRowL w p m A n c go N L Av v Au u wr){k:Nat}(d:k<v.length):∃b o,Av=some (zA b o)/\wr.cell? (zA b (o+k))=some (Y ((v.getD k 0:Nat):Int)):=by obtain⟨b,o,e,_,h⟩:=h.2.2.1.at_ (k:=k) (by rw[qaA];exact d);rw[qaC] at h;exact⟨b,o,e,h⟩
theorem NRowL.cu(h:NRowL w p m A n c go N L Av v Au u wr){k:Nat}(d:k<u.length):∃b o,Au=some (zA b o)/\wr.cell? (zA b (o+k))=some (Y ((u.getD k 0:Nat):Int)):=by obtain⟨b,o,e,_,h⟩:=h.2.2.2.at_ (k:=k) (by rw[qaA];exact d);rw[qaC] at h;exact⟨b,o,e,h⟩
end
theorem NRowL.cv'{w:World}{p m:Int}{A:Option Addr}{n c go N:Nat}{L:List Nat}{v:List Nat}{Au:Option Addr}{u:List Nat}{wr:World}{b o:Nat}(h:NRowL w p m A n c go N L (some (zA b o)) v Au u wr){k:Nat}(i:k<v.length):wr.cell? (zA b (o+k))=some (Y ((v.getD k 0:Nat):Int)):=by obtain⟨f,g,e,d⟩:=h.cv i;injection e with e;injection e with e1 e2;subst e1 e2;exact d
theorem NRowL.cu'{w:World}{p m:Int}{A:Option Addr}{n c go N:Nat}{L:List Nat}{v:List Nat}{Av:Option Addr}{u:List Nat}{wr:World}{b o:Nat}(h:NRowL w p m A n c go N L Av v (some (zA b o)) u wr){k:Nat}(i:k<u.length):wr.cell? (zA b (o+k))=some (Y ((u.getD k 0:Nat):Int)):=by obtain⟨f,g,e,d⟩:=h.cu i;injection e with e;injection e with e1 e2;subst e1 e2;exact d
def RelAT(w:World)(p m:Int)(A:Option Addr)(n c go N:Nat)(r:List Nat)(Av:Option Addr)(v:List Nat)(Au:Option Addr)(u:List Nat)(v10:Value)(wr:World):Prop:=
 ∃k:Nat,k<=N/\v10=Y (k:Int)/\NRowL w p m A n c go N (fK r k) Av v Au u wr
theorem raddto_c(p m:Nat)(md:List Nat)(A:Option Addr)(n c a:Nat)(v u:List Nat)(Av Au:Option Addr)(cv cu:Nat)(w:World)(hR:RFld p m md A n w.heap.size w)(ha:a<p ^ m)(hv:∀ x∈v,x<p ^ m)(hu:∀ x∈u,x<p ^ m)(ax:v.length=u.length)(hA:IntsAt w w.heap.size Av (nz v))(hU:IntsAt w w.heap.size Au (nz u))(hl:v.length<=1000):
 zC 42 #[Ch p m A n c,zL Av v.length cv,Y a,zL Au v.length cu] w fun e w'=>(∃g,e=.returned (zS g v.length v.length)/\Row w' w.heap.size g v.length (nz (addRow (refOps p m md) v a u)))/\Below w.heap.size w w':=by
 have HX:=zH (qbK w p m A n c);have HA:=zH (hA.keep HX.out.1);have U:=zH (hU.keep HX.out.1);have aq:Hid (∀(x:Nat)(W:World),x<p^m->Below w.heap.size w W->zC 91 #[Ch p m A n c,Y a,Y x] W fun e w'=>e=.returned (Y (((refOps p m md).mul a x:Nat):Int))/\Below W.heap.size W w'):=fun x W hx hW=>((hR.keep hW).more hW.size).mul ha hx c;have al:Hid (∀(x y:Nat)(W:World),x<p^m->y<p^m->Below w.heap.size w W->zC 90 #[Ch p m A n c,Y x,Y y] W fun e w'=>e=.returned (Y (((refOps p m md).add x y:Nat):Int))/\Below W.heap.size W w'):=fun x y W hx hy hW=>(hR.keep hW).add hx hy c;have ap:Hid (∀x,(refOps p m md).mul a x<p^m):=fun x=>hR.mul_lt a x;have ae:(addRow (refOps p m md) v a u).length=v.length:=qbU _ _ _ _ ax;have ar:Hid (∀k,k<v.length->(addRow (refOps p m md) v a u).getD k 0=if u.getD k 0=0 then v.getD k 0 else(refOps p m md).add (v.getD k 0) ((refOps p m md).mul a (u.getD k 0))):=fun k P=>by
  have e1:v[k]?=some (v.getD k 0):=by simp[List.getD,P]
  have e2:u[k]?=some (u.getD k 0):=by simp[List.getD,show k<u.length by omega]
  unfold addRow;rw[List.getD_eq_getElem?_getD,List.getElem?_zipWith,e1,e2];rfl
 have HV:Hid (∀k,k<v.length->v.getD k 0<p^m):=fun k P=>by
  have:v.getD k 0=v[k]:=by simp[List.getD,P]
  rw[this];exact hv _ (List.getElem_mem P)
 have HU:Hid (∀k,k<v.length->u.getD k 0<p^m):=fun k P=>by
  have ac:k<u.length:=U0;have:u.getD k 0=u[k]:=by simp[List.getD,ac]
  rw[this];exact hu _ (List.getElem_mem ac)
 obtain⟨i0,hi,ah,ai,aj⟩:=qaF infoInt;have HI:=zH hi;have V:=zH ah;have X:=zH ai;have Q:=zH (show i0.bytes*v.length<=281474976710656 by rw[aj];omega);have R:=zH (show v.length<=maxLen by unfold maxLen;omega);have d:=zH ae;have E:=zH ax;clear hi ah ai aj hR hA hU hv hu ae ha ax;generalize addRow (refOps p m md) v a u=r at *;generalize refOps p m md=O at *;generalize p^m=q at *;go_enter Tryz.func42,Tryz.ntmps42;go_upto_region 1 with fail;have J:w.heap.size+1<=(w.alloc (Ce p m A n c)).heap.size:=U2;generalize w.alloc (Ce p m A n c)=W0 at *;go_wp2_with (refine wpList_make_full W0 rfl (.tmp 12) (.tmp 12) 23 rfl (w.heap.size+1) 3 i0 (Y 0) 1 Tryz.underlying23 HI.out V.out X.out .i64 .i64 v.length v.length v.length rfl rfl rfl rfl Q.out R.out J ?_;intro w1 I ab);have D:=qaL ab;have ad:=Row.of_make I;have T:Hid (RelAT w p m A n c W0.heap.size v.length r Av v Au u (Y ((0:Nat):Int)) w1):=⟨0,Nat.zero_le _,rfl,HX.out.grow D,by unfold fK;rw[List.take_zero,List.nil_append,d.out];exact ad,HA.out.keep (D.mono U0),U.out.keep (D.mono U0)⟩;clear I ab D ad J HX HA U HI V X Q R;generalize W0.heap.size=h at *;go_wp2_with fail;go_loopw [10] (fun v10 wr=>RelAT w p m A n c h v.length r Av v Au u v10 wr) (fun v10 _=>v.length-(intOf v10).toNat);case atStart=>exact T.out
 case round =>
  obtain⟨k,P,rfl,hn⟩:=hrel;have B:=zH hn;clear hn T;by_cases f:k<v.length
  . obtain ⟨b,o,rfl,aa⟩ := B.out.cv f;obtain ⟨l,s,rfl,M⟩:=B.out.cu (k:=k) (by rw [<- E.out];exact f);have i:=zH (ar.out k f);have ag:=HV.out k f;have af:=HU.out k f;have k0:(0:Int)<=(k:Int):=U0;have k1:(k:Int)<(v.length:Int):=U0;have f0:=B.out.2.1.frozen k;have c0:=B.out.2.1.cell (j:=k) (by rw [qaA,fK_len r k (by rw [d.out];omega),d.out];exact f);have H:=zH (fK_set r k (by rw [d.out];exact f));have K:=zH (B.out.set k (v.getD k 0));have t:Hid (∀ W,NRowL w p m A n c h v.length ((fK r k).set k (v.getD k 0)) (some (zA b o)) v (some (zA l s)) u W->W.cell? (zA b (o+k))=some (Y ((v.getD k 0:Nat):Int))/\W.cell? (zA l (s+k))=some (Y ((u.getD k 0:Nat):Int))):=fun W hW=>⟨hW.cv' f,hW.cu' (by rw [<- E.out];exact f)⟩;by_cases N:u.getD k 0=0
    . rw[N] at M;rw[if_pos N] at i;rw[<- i.out,H.out] at K;have yu:=(t.out _ (B.out.set k (v.getD k 0))).2;rw[N] at yu;rw[<- i.out] at yu aa;clear t N M;generalize r.getD k 0=z at *;go_wp2_with fail;go_roundw;case rel=>exact⟨k+1,U0,gn,K.out⟩
      case measure=>exact mE
    . (have aw : (((u.getD k 0 : Nat) : Int) != 0) = true := by rw [bne_iff_ne];omega);rw [if_neg N] at i;have yu:=(t.out _ (B.out.set k (v.getD k 0))).2;(have S:Hid (∀ W,NRowL w p m A n c h v.length ((fK r k).set k (v.getD k 0)) (some (zA b o)) v (some (zA l s)) u W->NRowL w p m A n c h v.length (fK r (k+1)) (some (zA b o)) v (some (zA l s)) u (W.setCell (zA h k) (Y ((r.getD k 0:Nat):Int)))):=fun W hW=>by have:=hW.set k (r.getD k 0);rw [List.set_set,H.out] at this;exact this)
      have ao:Hid (∀W,NRowL w p m A n c h v.length ((fK r k).set k (v.getD k 0)) (some (zA b o)) v (some (zA l s)) u W->zC 91 #[Ch p m A n c,Y a,Y ((u.getD k 0:Nat):Int)] W fun e w'=>e=.returned (Y ((O.mul a (u.getD k 0):Nat):Int))/\NRowL w p m A n c h v.length ((fK r k).set k (v.getD k 0)) (some (zA b o)) v (some (zA l s)) u w'):=fun W hW=>
       (aq.out (u.getD k 0) W af hW.1.1).mono fun e w' ⟨he,hb⟩=>⟨he,hW.grow hb⟩
      (have ak:Hid (∀W,NRowL w p m A n c h v.length ((fK r k).set k (v.getD k 0)) (some (zA b o)) v (some (zA l s)) u W->zC 90 #[Ch p m A n c,Y ((v.getD k 0:Nat):Int),Y ((O.mul a (u.getD k 0):Nat):Int)] W fun e w'=>e=.returned (Y ((r.getD k 0:Nat):Int))/\NRowL w p m A n c h v.length ((fK r k).set k (v.getD k 0)) (some (zA b o)) v (some (zA l s)) u w'):=fun W hW=>by have:=al.out (v.getD k 0) (O.mul a (u.getD k 0)) W ag (ap.out _) hW.1.1;rw[<- i.out] at this;exact this.mono fun e w' ⟨he,hb⟩=>⟨he,hW.grow hb⟩);have an:Hid (∀W,NRowL w p m A n c h v.length ((fK r k).set k (v.getD k 0)) (some (zA b o)) v (some (zA l s)) u W->∃x,W.cell? (zA h k)=some x):=fun W hW=>⟨_,hW.2.1.cell (j:=k) (by rw[qaA,List.length_set,fK_len r k (by rw[d.out];omega),d.out];exact f)⟩;clear N ag af i;generalize O.mul a (u.getD k 0)=mu at *;generalize (fK r k).set k (v.getD k 0)=L at *;generalize r.getD k 0=z at *;generalize v.getD k 0=xv at *;generalize u.getD k 0=xu at *;go_upto_region 7 with fail;generalize wr.setCell (zA h k) (Y (xv:Int))=ws at *;clear aa M c0 f0 yu;refine qaI 16 (NRowL w p m A n c h v.length L (some (zA b o)) v (some (zA l s)) u) U1 U1 (K.out.grow (Below.refl _ _).drew) ?_;simp only[List.take_succ_cons,List.take_zero,List.drop_succ_cons,List.drop_zero]
      repeat (first
       | (refine keep_load_mid rfl 29 (.tmp 4) rfl w.heap.size 0 rfl (Ci p m A n c) _ (fun W hW => hW.1.range) Tryz.underlying29 rfl fieldSize ?_
          go_simp)
       | (apply qaJ rfl
          . intro W Z
            obtain⟨yv,yu⟩:=t.out W Z
            go_simp
            rfl
          go_simp)
       | (apply qaO rfl
          . intro W Z
            go_simp
            exact⟨rfl,rfl⟩
          . intro W Z
            first
             |exact ao.out W Z
             |exact ak.out W Z
          go_simp))
      refine qaE ?_;intro w2 C;have av:=zH C;have f0:=C.2.1.frozen k;obtain⟨x0,c0⟩:=an.out w2 C;clear C;go_wp2_with fail;go_roundw;case rel=>exact⟨k+1,U0,gn,S.out _ av.out⟩
      case measure=>exact mE
  . (obtain rfl:k=v.length:=by omega);(have au:Hid (Row wr w.heap.size h v.length (nz r)):=by have:=B.out.2.1;(have e:fK r v.length=r:=by rw[<- d.out,fK_end]);rw[e] at this;exact this.base (by have:=this.lt;omega));go_wp2_with fail;go_ret;exact⟨⟨h,rfl,au.out⟩,B.out.1.1⟩
def Nd(bs:List (Nat × Nat))(k:Nat):Prop:=∀i j,i<k->j<k->i≠j->bk bs i≠bk bs j
theorem Nd.step{p:List (Nat × Nat)}{k g c:Nat}(h:Nd p k)(r:p.length=k)(q:∀ i,i<k->bk p i≠g):Nd (p++[(g,c)]) (k+1):=by
 have b:∀i,i<k->bk (p++[(g,c)]) i=bk p i:=fun i n=>by unfold bk;rw[getD_snoc_lt U0]
 have d:bk (p++[(g,c)]) k=g:=by unfold bk;have:=getD_snoc_eq p (g,c) (0,0);rw[r] at this;rw[this]
 intro i j n o f;by_cases l:i=k
 . subst l;rw[d,b j U0];exact fun e=>q j U0 e.symm
 . rw[b i U0];by_cases m:j=k
   . subst m;rw[d];exact q i U0
   . rw[b j U0];exact h i j U0 U0 f
theorem LGrid.grid{w:World}{B R c:Nat}{rows:List (List Nat)}{b:List (Nat × Nat)}(h:LGrid w B (zS R rows.length c) rows b rows.length)(d:Nd b rows.length):GridAt w B R c rows b:=
 ⟨h.len,h.out,h.row,d⟩
def RelCp(w:World)(rows:List (List Nat))(v3 v4:Value)(wr:World):Prop:=
 ∃(k:Nat)(bs:List (Nat × Nat)),v4=Y k/\LGrid wr w.heap.size v3 rows bs k/\Nd bs k/\Below w.heap.size w wr
theorem rcopy_nil(A:Option Addr)(c:Nat)(w:World):zC 147 #[zL A 0 c] w fun e w'=>e=.returned (zL none 0 0)/\w=w':=by
 go_enter Tryz.func147,Tryz.ntmps147;go_wp2_with fail;go_loop [3,4] (fun v3 v4=>v4=Y 0/\v3=zL none 0 0) (fun _ _=>0);case atStart=>exact⟨rfl,rfl⟩
 case round=>obtain⟨rfl,rfl⟩:=hrel;go_wp2_with fail;go_ret;exact⟨rfl,rfl⟩
theorem rcopy_c(rows:List (List Nat))(A:Option Addr)(c:Nat)(w:World)(hA:RowsAt w w.heap.size A (nzs rows))(hr:∀ r∈rows,0<r.length/\r.length<=1000000)(hl:rows.length<=1000000)(ax:0<rows.length):
 zC 147 #[zL A rows.length c] w fun e w'=>(∃R cR bs,e=.returned (zS R rows.length cR)/\GridAt w' w.heap.size R cR rows bs)/\Below w.heap.size w w':=by
 obtain⟨i0,h,T,U,V⟩:=qaF infoInts;obtain⟨i1,gi,I,J,K⟩:=qaF infoInt;have HI:=zH h;have ak:=zH T;have al:=zH U;have an:=zH V;have GI:=zH gi;have aa:=zH I;have ab:=zH J;have ac:=zH K;have HA:=zH hA;have ai:Hid (∀k,k<rows.length->0<(rows.getD k []).length/\(rows.getD k []).length<=1000000):=fun k hk=>by
  have:rows.getD k []=rows[k]:=by simp[List.getD,hk]
  rw[this];exact hr _ (List.getElem_mem hk)
 clear h T U V gi I J K hA hr;go_enter Tryz.func147,Tryz.ntmps147;go_wp2_with fail;go_loopw [3,4] (fun v3 v4 wr=>RelCp w rows v3 v4 wr) (fun _ v4 _=>rows.length-(intOf v4).toNat);case atStart=>exact⟨0,[],rfl,⟨rfl,Nat.zero_le _,World.ownsRow_nil _ _ _ _,fun i h=>U0,fun i h=>U0⟩,fun i j h=>U0,Below.refl _ _⟩
 case round =>
  obtain⟨k,bs,rfl,q,P,hb⟩:=hrel;obtain⟨VA,X,rfl,L⟩:=own_slice' q.out;have f:=zH q;have D:=zH P;have W:=zH hb;have aj:=zH L;have av:=q.le;clear q hb P L;by_cases s:k<rows.length
  . obtain⟨b,o,Ai,ci,rfl,ar,Z,h⟩:=(HA.out.keep W.out).at_ (i:=k) (by rw[nzs_len];exact s);rw[nzs_getD] at Z h;rw[qaA] at Z;obtain⟨S,aw⟩:=ai.out k s;obtain⟨b2,o2,rfl,M,_⟩:=h.at_ (k:=0) (by rw[qaA];exact S);have y:=W.out.size;have ag:Hid ((wr.alloc (.cells #[] 3)).ownsRow wr.heap.size 3 1 (zS wr.heap.size 0 0) 0 []):=World.ownsRow_made wr #[] 0 (Nat.le_refl _) U3 rfl;have E:Hid (∀(j:Nat)(u:Value),((nz (rows.getD k [])).map (Value.int .i64))[j]?=some u->(wr.alloc (.cells #[] 3)).cell? ((⟨b2,o2,none⟩:Addr).add j)=some u):=(h.keep ((Below.refl _ _).alloc y _)).news;(have aq:Hid ((wr.alloc (.cells #[] 3)).cell? (zA b (o+k))=some (zL (some (zA b2 o2)) (rows.getD k []).length ci)):=by show _=_;rw[World.cell?_alloc_lt _ _ _ (by show b < _;omega)];exact Z);have k0:(0:Int)<=(k:Int):=U0;have k1:(k:Int)<(rows.length:Int):=U0;have au:b<wr.heap.size:=U0;have H:=zH (qaA (rows.getD k []));clear h M;generalize Q:(rows.getD k []).length=n at *;have ae:=zH Q;clear Q;go_wp2_with (at_builtin;refine wpList_append_lies _ rfl (.tmp 12) (.tmp 16) 23 rfl wr.heap.size 3 i1 _ 1 8 Tryz.underlying23 GI.out aa.out ab.out ac.out rfl dc (zS wr.heap.size 0 0) 0 [] rfl ag.out (zA b2 o2) n ci ((nz (rows.getD k [])).map (Value.int .i64)) rfl ?a0 E.out ?a2 S ?a3 ?a4 ?a5 _ rfl ?_);case a0=>rw[List.length_map,H.out,Nat.mul_one]
    case a2=>intro u hu;obtain⟨z,_,rfl⟩:=List.mem_map.1 hu;rfl
    case a3=>unfold maxLen;omega
    case a4=>omega
    case a5=>simp
    intro g B C x O p N;have d:Hid (Below wr.heap.size wr C):=((Below.refl _ _).alloc (Nat.le_refl _) _).grown O U2 (fun j hj=>by simp[Value.ownBlock] at hj;omega);(have v:Hid (Row C wr.heap.size g B (nz (rows.getD k []))):=by show C.ownsRow _ _ _ _ _ _;rw[H.out,show rows.getD k []=rows[k] by simp[List.getD,s]];exact x);have ap:=d.out.size;clear x O p N Z;(have ah:Hid ((C.alloc (.cells #[zS g n B] 23)).ownsRow w.heap.size 23 1 (zL VA k X) k ((List.range k).map (hdr rows bs))):=by have ao:=f.out.out.kept (row:=none) ⟨d.out.os,d.out.tape,d.out.output,d.out.size,fun j hj _=>d.out.block j hj⟩ (by cases (Value.slice VA k X).ownBlock<;>simp);exact World.ownsRow.alloc ao _);go_wp2_with (at_builtin;refine wpList_append_own_at _ rfl (.tmp 11) (.tmp 18) 30 rfl w.heap.size 23 i0 _ 1 24 Tryz.underlying30 HI.out ak.out al.out an.out rfl dc (zL VA k X) k ((List.range k).map (hdr rows bs)) rfl ah.out (zA C.heap.size 0) 1 1 [zS g n B] rfl rfl ?c1 ?c2 ?c3 ?c4 ?c5 ?_);case c1=>exact World.news_of_block (cs:=#[zS g n B]) (t:=23) (fr:=(0,0)) (heap_alloc_new C _)
    case c2=>intro u hu;simp at hu;subst hu;rfl
    case c3=>unfold maxLen;omega
    case c4=>omega
    case c5=>simp;omega
    intro v' w3 m l _ p;have HX:Hid (LGrid w3 w.heap.size v' rows (bs++[(g,B)]) (k+1)):=f.out.step s y d.out v.out (by rw[ae.out];exact m) l (by simpa using p);have af:Hid (Nd (bs++[(g,B)]) (k+1)):=D.out.step f.out.len (fun i h=>by have:=(f.out.row i h).lt.2;have:=v.out.lt.1;omega);have ad:Hid (Below w.heap.size w w3):=((W.out.trans (d.out.mono y)).alloc U0 _).grown l so (fun j hj=>(f.out.out.lt j hj).1);clear m l p;go_wp2_with fail;go_roundw;case rel=>exact⟨k+1,_,gn,HX.out,af.out,ad.out⟩
    case measure=>exact mE
  . (obtain rfl:k=rows.length:=by omega);obtain⟨R,rfl⟩:=aj.out ax;have HG:=zH (f.out.grid D.out);go_wp2_with fail;go_ret;exact⟨⟨R,X,bs,rfl,HG.out⟩,W.out⟩
def RelEn(w:World)(p m:Int)(A:Option Addr)(n c:Nat)(q:Nat)(zs:List Int)(v5:Value)(wr:World):Prop:=
 ∃k:Nat,k<=zs.length/\v5=Y k/\(zs.take k).all (inB q)=true/\SBoxF w p m A n c wr
theorem rentries_c(p m:Int)(A:Option Addr)(n c:Nat)(q:Nat)(zs:List Int)(U:Option Addr)(Z:Nat)(w:World)(X:orderM p m=(q:Int))(V:IntsAt w w.heap.size U zs)(hl:zs.length<=9223372036854775807):
 zC 86 #[Ch p m A n c,zL U zs.length Z] w fun e w'=>e=.returned (Y (errE (elemsB q zs)))/\Below w.heap.size w w':=by
 have K:=zH (qbK w p m A n c);have E:=zH V;have B:Hid (∀(x:Int)(W:World),zC 41 #[Ch p m A n c,Y x] W fun e w'=>e=.returned (.bool (inB q x))/\Below W.heap.size W w'):=fun x W=>by have:=ris_c p m A n c x W;rw[X] at this;exact this
 clear V X;go_enter Tryz.func86,Tryz.ntmps86;go_upto_region 1 with fail;generalize w.alloc (Ce p m A n c)=L at *;have j:Hid (RelEn w p m A n c q zs (Y ((0:Nat):Int)) L):=⟨0,Nat.zero_le _,rfl,U2,K.out⟩;go_wp2_with fail;go_loopw [5] (fun v5 wr=>RelEn w p m A n c q zs v5 wr) (fun v5 _=>zs.length-(intOf v5).toNat);case atStart=>exact j.out
 case round =>
  obtain⟨k,O,rfl,g,I⟩:=hrel;have f:=zH g;have i:=zH I;clear g I j;by_cases d:k<zs.length
  . obtain ⟨b,o,rfl,H,_⟩ := (E.out.keep i.out.1).at_ d;have C:=zH (qbN (inB q) zs 0 k d);have y:=zH (qbL (inB q) zs 0 k d);(have D:Hid (∀ W,SBoxF w p m A n c W->W.cell? (zA b (o+k))=some (Y (zs.getD k 0))):=fun W hW=>by obtain ⟨N,R,e,_,h⟩:=(E.out.keep hW.1).at_ d;injection e with e;injection e with e1 e2;subst e1 e2;exact h);have P:(0:Int)<=(k:Int):=U0;have Q:(k:Int)<(zs.length:Int):=U0;generalize zs.getD k 0=z at *;have u:Hid (∀ W,SBoxF w p m A n c W->zC 41 #[Ch p m A n c,Y z] W fun e w'=>e=.returned (.bool (inB q z))/\SBoxF w p m A n c w'):=fun W hW=>(B.out z W).mono fun e w' ⟨he,H⟩=>⟨he,hW.grow H⟩;generalize s:inB q z=M at *;have J:=zH s;clear s;go_upto_region 4 with fail;refine qaD (SBoxF w p m A n c) U1 U1 (i.out.grow (Below.refl _ _).drew) ?_
    repeat (first
     | (refine keep_load_mid rfl 29 (.tmp 2) rfl w.heap.size 0 rfl (Ci p m A n c) _ (fun W hW => hW.range) Tryz.underlying29 rfl fieldSize ?_
        go_simp)
     | (apply qaJ rfl
        . intro W t
          have T:=D.out W t
          go_simp
          rfl
        go_simp)
     | (apply qaO rfl
        . intro W t
          go_simp
          exact⟨rfl,rfl⟩
        . intro W t
          exact u.out W t
        go_simp))
    refine qaE ?_;intro S r;have l:=zH r;clear r;cases M
    . (have v:Hid (errE (elemsB q zs)=2):=by show _=_;unfold elemsB;rw[y.out rfl];rfl);go_wp2_with fail;go_ret;exact⟨qaG v.out.symm,l.out.1⟩
    . go_wp2_with fail;go_roundw;case rel=>exact⟨k+1,U0,gn,by rw[C.out,f.out];rfl,l.out⟩
      case measure=>exact mE
  . (have v:Hid (errE (elemsB q zs)=0):=by show _=_;have:=f.out;rw[List.take_of_length_le U0] at this;unfold elemsB;rw[this];rfl);go_wp2_with fail;go_ret;exact⟨qaG v.out.symm,i.out.1⟩
structure Box2 (w:World) (p m:Int) (Am:Option Addr) (n cm:Nat) (cols:Int) (A:Option Addr) (nz c:Nat) (W:World):Prop where
 below:Below w.heap.size w W
 size:w.heap.size+1<W.heap.size
 k0:W.heap[w.heap.size]?=some (.cells (Ci p m Am n cm).toArray 29 (0,0))
 k1:W.heap[w.heap.size+1]?=some (.cells (De cols A nz c).toArray 54 (0,0))
section
variable {w:World} {p m:Int} {Am:Option Addr} {n cm:Nat} {cols:Int} {A:Option Addr} {nz c:Nat} {W W':World}
theorem Box2.grow(h:Box2 w p m Am n cm cols A nz c W)(d:Below W.heap.size W W'):Box2 w p m Am n cm cols A nz c W':=by have b:=h.size;exact⟨h.below.trans (d.mono U0),Nat.lt_of_lt_of_le b d.size,(d.block _ U0).trans h.k0,(d.block _ U0).trans h.k1⟩
theorem Box2.range(h:Box2 w p m Am n cm cols A nz c W):W.rangeAt w.heap.size 0 (Ci p m Am n cm):=range_of_row h.k0
theorem Box2.range1(h:Box2 w p m Am n cm cols A nz c W):W.rangeAt (w.heap.size+1) 0 (De cols A nz c):=range_of_row h.k1
theorem Box2.c0(h:Box2 w p m Am n cm cols A nz c W):W.cell? (zA (w.heap.size+1) 0)=some (Y cols):=cell_of_row _ _ 0 _ _ _ h.k1
theorem Box2.c1(h:Box2 w p m Am n cm cols A nz c W):W.cell? (zA (w.heap.size+1) 1)=some (zL A nz c):=cell_of_row _ _ 1 _ _ _ h.k1
theorem box2_new(w:World)(p m:Int)(Am:Option Addr)(n cm:Nat)(cols:Int)(A:Option Addr)(nz c:Nat):Box2 w p m Am n cm cols A nz c
 ((w.alloc (Ce p m Am n cm)).alloc (Cp cols A nz c)):=by refine⟨(((Below.refl _ _).alloc (Nat.le_refl _) _).alloc U2 _),U2,(Below.heap_alloc _ _ _ U2).trans (heap_alloc_new _ _),?_⟩;have:=heap_alloc_new (w.alloc (Ce p m Am n cm)) (Cp cols A nz c);rw[show(w.alloc (Ce p m Am n cm)).heap.size=w.heap.size+1 by simp] at this;exact this
end
def SB2(w:World)(p m:Int)(Am:Option Addr)(n cm:Nat)(cols:Int)(A:Option Addr)(nz c:Nat)(wr W:World):Prop:=Box2 w p m Am n cm cols A nz c W/\Below wr.heap.size wr W
def RelK1(w:World)(p m:Int)(Am:Option Addr)(n cm:Nat)(cols:Int)(A:Option Addr)(zs:List (List Int))(c:Nat)(f:List Int->Bool)(v:Value)(wr:World):Prop:=
 ∃k:Nat,k<=zs.length/\v=Y k/\(zs.take k).all f=true/\Box2 w p m Am n cm cols A zs.length c wr
theorem rcheck_c(p m:Int)(mod:List Int)(Am:Option Addr)(cm:Nat)(cols:Int)(zs:List (List Int))(A:Option Addr)(c:Nat)(w:World)(hM:IntsAt w w.heap.size Am mod)(hl:mod.length<=9223372036854775807)(hA:RowsAt w w.heap.size A zs)(ah:zs.length<=9223372036854775807):
 zC 36 #[Ch p m Am mod.length cm,Cy cols A zs.length c] w fun e w'=>e=.returned (Y (errC p m mod cols zs))/\Below w.heap.size w w':=by
 have S:=zH (box2_new w p m Am mod.length cm cols A zs.length c);have HM:=zH hM;have HA:=zH hA;clear hM hA;go_enter Tryz.func36,Tryz.ntmps36;go_upto_region 1 with fail;generalize (w.alloc (Ce p m Am mod.length cm)).alloc (Cp cols A zs.length c)=L at *;have P:=zH S.out.range;have R:=zH (rfcheck_c p m mod Am cm L ((HM.out.keep S.out.below).more S.out.below.size) hl);cases hok:fieldOK p m mod
 . (have K:Hid (errC p m mod cols zs=1):=by show _=_;unfold errC;rw[if_neg (by rw[hok];simp)]);rw[hok] at R;have D:Hid (zC 18 #[Ch p m Am mod.length cm] L fun e w'=>e=.returned (Y 1)/\Below L.heap.size L w'):=R.out;clear hok R;go_wp2_with (refine wpList_load_mid rfl 29 (.tmp 2) rfl w.heap.size 0 rfl (Ci p m Am mod.length cm) _ P.out Tryz.underlying29 rfl fieldSize ?_);(with_reducible refine D.out.mono ?_);rintro e w1 ⟨rfl,hb1⟩;have g:=zH (S.out.grow hb1);clear hb1;go_wp2_with fail;go_ret;exact⟨qaG K.out.symm,g.out.below⟩
 . (have K : Hid (errC p m mod cols zs = checkZ (p.toNat ^ m.toNat) cols zs) := by show _ = _;unfold errC;rw [if_pos hok]);(have N:orderM p m=((p.toNat ^ m.toNat:Nat):Int):=by unfold fieldOK at hok;rw [Bool.and_eq_true] at hok;exact (shape_is hok.1).ord);rw [hok] at R;have D:Hid (zC 18 #[Ch p m Am mod.length cm] L fun e w'=>e=.returned (Y 0)/\Below L.heap.size L w'):=R.out;have V:=zH N;clear hok R N;generalize p.toNat ^ m.toNat=q at *;go_wp2_with (refine wpList_load_mid rfl 29 (.tmp 2) rfl w.heap.size 0 rfl (Ci p m Am mod.length cm) _ P.out Tryz.underlying29 rfl fieldSize ?_);(with_reducible refine D.out.mono ?_);rintro e w1 ⟨rfl,hb1⟩;have g:=zH (S.out.grow hb1);have M:=g.out.c0;have E:=g.out.c1;clear hb1 S P D;clear L;by_cases h1:cols<0
   . (have l:Hid (errC p m mod cols zs=3):=by show _=_;rw[K.out];exact qeC (.inl h1));go_wp2_with fail;go_ret;exact⟨qaG l.out.symm,g.out.below⟩
   . by_cases h2 : 256 < cols
     . (have l:Hid (errC p m mod cols zs=3):=by show _=_;rw[K.out];exact qeC (.inr (.inl h2)));go_wp2_with fail;go_ret;exact⟨qaG l.out.symm,g.out.below⟩
     . by_cases h3 : 256 < zs.length
       . (have l:Hid (errC p m mod cols zs=3):=by show _=_;rw[K.out];exact qeC (.inr (.inr h3)));go_wp2_with fail;go_ret;exact⟨qaG l.out.symm,g.out.below⟩
       . (have s : ¬ (cols < 0 \/ 256 < cols \/ 256 < zs.length) := by omega);(have Z:Hid (zs.all (fun r=>decide ((r.length:Int)=cols))=false->errC p m mod cols zs=3):=fun h=>by rw [K.out];unfold checkZ;rw [if_neg s,if_pos h]);(have ac:Hid (zs.all (fun r=>decide ((r.length:Int)=cols))=true->zs.all (elemsB q)=false->errC p m mod cols zs=2):=fun h h'=>by rw [K.out];unfold checkZ;rw [if_neg s,if_neg (by simp [h]),if_pos h']);(have ad:Hid (zs.all (fun r=>decide ((r.length:Int)=cols))=true->zs.all (elemsB q)=true->errC p m mod cols zs=0):=fun h h'=>by rw [K.out];unfold checkZ;rw [if_neg s,if_neg (by simp [h]),if_neg (by simp [h'])]);have T:Hid (RelK1 w p m Am mod.length cm cols A zs c (fun r=>decide ((r.length:Int)=cols)) (Y ((0:Nat):Int)) w1):=⟨0,Nat.zero_le _,rfl,U2,g.out⟩;clear s;go_wp2_with fail;clear M E;go_loopw [6] (fun v6 wr=>RelK1 w p m Am mod.length cm cols A zs c (fun r=>decide ((r.length:Int)=cols)) v6 wr) (fun v6 _=>zs.length-(intOf v6).toNat);case atStart=>exact T.out
         case round =>
          obtain⟨k,hk,rfl,j,J⟩:=hrel;have d:=zH j;have t:=zH J;have M:=J.c0;have E:=J.c1;clear j J T;by_cases f:k<zs.length
          . obtain ⟨b,o,C,H,rfl,hb,_,_⟩ := (HA.out.keep t.out.below).at_ f;have x:=zH (qbN (fun r:List Int=>decide ((r.length:Int)=cols)) zs [] k f);have u:=zH (qbL (fun r:List Int=>decide ((r.length:Int)=cols)) zs [] k f);(have y:Hid (∀ W,Box2 w p m Am mod.length cm cols (some (zA b o)) zs.length c W->∃ C H,W.cell? (zA b (o+k))=some (zL C (zs.getD k []).length H)):=fun W hW=>by obtain ⟨b',o',C,H,e,_,h,_⟩:=(HA.out.keep hW.below).at_ f;injection e with e;injection e with e1 e2;subst e1 e2;exact ⟨C,H,h⟩);have k0:(0:Int)<=(k:Int):=U0;have k1:(k:Int)<(zs.length:Int):=U0;obtain ⟨C,H,ag⟩:=y.out wr t.out;generalize (zs.getD k []).length=n at *;go_upto_region 9 with fail;clear M E;refine qaD (SDrew wr) U1 U1 ⟨1,rfl⟩ ?_;have M:=t.out.c0;have E:=t.out.c1
            repeat (apply qaJ rfl
                    . intro W z;obtain⟨n',rfl⟩:=z;go_simp;rfl
                    go_simp)
            refine qaE ?_;intro w2 I;obtain⟨n2,rfl⟩:=I;have i:=zH (t.out.grow (qaB (Below.refl _ _) n2));clear M E ag;by_cases B:(n:Int)=cols
            . (have ae : ((n : Int) != cols) = false:=by rw[B];simp);(have l:Hid ((zs.take (k+1)).all (fun r=>decide ((r.length:Int)=cols))=true):=by show _=_;rw[x.out,d.out,B];simp);clear B;go_wp2_with fail;go_roundw;case rel=>exact⟨k+1,U0,gn,l.out,i.out⟩
              case measure=>exact mE
            . (have ae:((n:Int) != cols)=true:=by rw[bne_iff_ne];exact B);have l:Hid (errC p m mod cols zs=3):=Z.out (u.out (by simp[B]));clear B;go_wp2_with fail;go_ret;exact⟨qaG l.out.symm,i.out.below⟩
          . (obtain rfl : k = zs.length := by omega);(have v:Hid (zs.all (fun r=>decide ((r.length:Int)=cols))=true):=by have:=d.out;rw [List.take_length] at this;exact this);have U:Hid (RelK1 w p m Am mod.length cm cols A zs c (elemsB q) (Y ((0:Nat):Int)) wr):=⟨0,Nat.zero_le _,rfl,U2,t.out⟩;clear d Z;go_wp2_with fail;clear M E;go_loopw [7] (fun v7 wr=>RelK1 w p m Am mod.length cm cols A zs c (elemsB q) v7 wr) (fun v7 _=>zs.length-(intOf v7).toNat);case atStart=>exact U.out
            case round =>
             obtain⟨k,hk,rfl,j,J⟩:=hrel;have d:=zH j;have i:=zH J;have M:=J.c0;have E:=J.c1;clear j J U;by_cases f:k<zs.length
             . obtain ⟨b,o,C,H,rfl,hb,aa,ab⟩ := (HA.out.keep i.out.below).at_ f;have x:=zH (qbN (elemsB q) zs [] k f);have u:=zH (qbL (elemsB q) zs [] k f);(have af:((zs.getD k []).length:Int)=cols:=by simpa using all_at _ zs [] k f v.out);have y:Hid (∀ W,Box2 w p m Am mod.length cm cols (some (zA b o)) zs.length c W->Below wr.heap.size wr W->W.cell? (zA b (o+k))=some (zL C (zs.getD k []).length H)):=fun W hW hbW=>(hbW.cell (p:=(zA b (o+k))) (by show b < _;have:=i.out.below.size;omega)).trans aa
               have O:Hid (∀W,Below wr.heap.size wr W->zC 86 #[Ch p m Am mod.length cm,zL C (zs.getD k []).length H] W fun e w'=>e=.returned (Y (errE (elemsB q (zs.getD k []))))/\Below W.heap.size W w'):=fun W hbW=>
                rentries_c p m Am mod.length cm q (zs.getD k []) C H W V.out ((ab.more i.out.below.size).keep hbW |>.more hbW.size) U0
               have k0:(0:Int)<=(k:Int):=U0;have k1:(k:Int)<(zs.length:Int):=U0;clear aa ab af;generalize zs.getD k []=r at *;generalize r.length=n at *;go_upto_region 14 with fail;clear M E;refine qaD (SB2 w p m Am mod.length cm cols (some (zA b o)) zs.length c wr) U1 U1 ⟨i.out.grow (Below.refl _ _).drew,(Below.refl _ _).drew⟩ ?_
               repeat (first
                | (refine keep_load_mid rfl 29 (.tmp 2) rfl w.heap.size 0 rfl (Ci p m Am mod.length cm) _ (fun W hW => hW.1.range) Tryz.underlying29 rfl fieldSize ?_
                   go_simp)
                | (apply qaJ rfl
                   . intro W z
                     have E:=z.1.c1
                     have yv:=y.out W z.1 z.2
                     go_simp
                     rfl
                   go_simp)
                | (apply qaO rfl
                   . intro W z
                     go_simp
                     exact⟨rfl,rfl⟩
                   . intro W z
                     exact(O.out W z.2).mono fun e w' ⟨Q,hb⟩=>⟨Q,z.1.grow hb,z.2.trans (hb.mono z.2.size)⟩
                   go_simp))
               refine qaE ?_;intro w2 I;have X:=zH I.1;clear I;cases B:elemsB q r
               . have l:Hid (errC p m mod cols zs=2):=ac.out v.out (u.out B);have Q:errE false=2:=rfl;rw[Q];clear B x u y O Q;go_wp2_with fail;go_ret;exact⟨qaG l.out.symm,X.out.below⟩
               . (have l : Hid ((zs.take (k + 1)).all (elemsB q) = true):=by show _ = _;rw[x.out,d.out,B];rfl);have Q:errE true=0:=rfl;rw[Q];clear B x u y O Q;go_wp2_with fail;go_roundw;case rel=>exact⟨k+1,U0,gn,l.out,X.out⟩
                 case measure=>exact mE
             . have l:Hid (errC p m mod cols zs=0):=ad.out v.out (by have:=d.out;rw[List.take_of_length_le U0] at this;exact this);go_wp2_with fail;go_ret;exact⟨qaG l.out.symm,i.out.below⟩
theorem PivAt.neR{w:World}{base B R h n:Nat}{v:Value}{piv:List Nat}{rows:List (List Nat)}{f:List (Nat × Nat)}(j:PivAt w base v piv n f)(i:GridAt w B R h rows f):v.ownBlock≠some R:=by
 intro e;rcases j.1.2 with⟨rfl,_⟩|⟨g,c,cur,rfl,_,b,_⟩
 . cases e
 . (have:g=R:=by simpa[Value.ownBlock] using e);subst this;obtain⟨c1,d⟩:=qdE i.out;rw[d] at b;injection b with b;injection b with _ ht;exact absurd ht dc
theorem GridAt.same{w:World}{B R g:Nat}{rows:List (List Nat)}{f:List (Nat × Nat)}(h:GridAt w B R g rows f){i:Nat}(_:i<rows.length):GridAt (w.setCell (zA R i) (hdr rows f i)) B R g rows f:=by
 refine ⟨h.len,?_,fun j hj=>(h.row j hj).far (p:=(zA R i)) (h.ne (h.row j hj)) _,h.nd⟩;have:=(World.ownsRow.stored h.out i (hdr rows f i)).1;have e:(hdrs rows f).set i (hdr rows f i)=hdrs rows f:=by
  apply List.ext_getElem
  . simp
  . intro j c d;rw[List.getElem_set];by_cases b:i=j
    . subst b;rw[if_pos rfl];simp[hdrs]
    . rw[if_neg b]
 rw[e] at this;exact this
def ES(w:World)(p m:Nat)(A:Option Addr)(n cA R cR:Nat)(rows:List (List Nat))(N:Nat)(v9:Value)(piv:List Nat)(bs:List (Nat × Nat))(wr:World):Prop:=
 SBoxF w p m A n cA wr/\GridAt wr (w.heap.size+1) R cR rows bs/\PivAt wr (w.heap.size+1) v9 piv N bs/\rows.length=N
section
variable {w:World} {p m:Nat} {A:Option Addr} {n cA R cR:Nat} {rows:List (List Nat)} {N:Nat} {v9:Value} {piv:List Nat} {bs:List (Nat × Nat)} {wr wx:World}
theorem ES.grow(h:ES w p m A n cA R cR rows N v9 piv bs wr)(g:Below wr.heap.size wr wx):ES w p m A n cA R cR rows N v9 piv bs wx:=by obtain⟨b,c,d,f⟩:=h;exact⟨b.grow g,c.grow g,d.grow g,f⟩
theorem ES.hd(h:ES w p m A n cA R cR rows N v9 piv bs wr){q b:Nat}(d:Grid q N b rows){i:Nat}(c:i<N):wr.cell? (zA R i)=some (zS (bk bs i) b (cp bs i)):=by have:=h.2.1.cell (i:=i) (by rw[h.2.2.2];exact c);rw[(d.row c).1] at this;exact this
theorem ES.en(h:ES w p m A n cA R cR rows N v9 piv bs wr){q d:Nat}(k:Grid q N d rows){i c:Nat}(f:i<N)(g:c<d):wr.cell? (zA (bk bs i) c)=some (Y ((at2 rows i c:Nat):Int)):=by have b:=h.2.1.row i (by rw[h.2.2.2];exact f);have:=b.cell (j:=c) (by rw[qaA,(k.row f).1];exact g);rw[qaC] at this;exact this
theorem ES.ints(h:ES w p m A n cA R cR rows N v9 piv bs wr){i:Nat}(c:i<N):IntsAt wr wr.heap.size (zO (bk bs i)) (nz (rows.getD i [])):=by have b:=h.2.1.row i (by rw[h.2.2.2];exact c);exact b.ints b.lt.2
theorem ES.swap(h:ES w p m A n cA R cR rows N v9 piv bs wr){i j:Nat}(r:i<N)(s:j<N):∃ bs',ES w p m A n cA R cR (swapRows rows i j) N v9 piv bs' ((wr.setCell (zA R i) (hdr rows bs j)).setCell (zA R j) (hdr rows bs i)):=by
 obtain⟨o,f,d,l⟩:=h;have k:=f.lt.1;have c:=d.neR f;by_cases g:i=j
 . subst g;refine⟨bs,(o.wrote k _).wrote k _,?_,?_,by rw[swap_len,l]⟩
   . rw[swap_self rows i U0];exact(f.same U0).same U0
   . exact(d.grown (grown_set wr (zA R i) _) c d.2).grown (grown_set _ (zA R i) _) c d.2
 . have q:=bk_swap (n:=N) (by rw[f.len,l]) r s (fun b=>v9.ownBlock≠some b) d.2;refine⟨SwapBs bs i j,(o.wrote k _).wrote k _,f.swap U0 U0 g,?_,by rw[swap_len,l]⟩;exact(d.grown (grown_set wr (zA R i) _) c d.2).grown (grown_set _ (zA R j) _) c q
theorem ES.put(h:ES w p m A n cA R cR rows N v9 piv bs wr)(u:Below wr.heap.size wr wx){i:Nat}(v:i<N){g c:Nat}{r:List Nat}(t:Row wx wr.heap.size g c (nz r)):ES w p m A n cA R cR (rows.set i r) N v9 piv (bs.set i (g,c)) (wx.setCell (zA R i) (zS g r.length c)):=by have s:=h.grow u;obtain⟨l,d,f,k⟩:=s;have q:w.heap.size+1<=wr.heap.size:=h.1.2.1;have o:=t.lt.1;refine⟨l.wrote d.lt.1 _,d.put U0 (t.base (B':=w.heap.size+1) U0) (fun j hj=>by have:=(h.2.1.row j hj).lt.2;omega),?_,by rw[List.length_set,k]⟩;refine f.grown (grown_set wx (zA R i) _) (f.neR d) (bk_set (n:=N) (by rw[d.len,k]) v (fun b=>v9.ownBlock≠some b) ?_ f.2);intro e;have:=(h.2.2.1.1.lt g e).2;omega
end
theorem ES.push{w:World}{p m:Nat}{A:Option Addr}{n cA R cR:Nat}{rows:List (List Nat)}{N:Nat}{v9:Value}{piv:List Nat}{bs:List (Nat × Nat)}{wr H:World}(h:ES w p m A n cA R cR rows N v9 piv bs wr){c:Nat}{v':Value}{o:Obj}(E:H.ownsRow (w.heap.size+1) 3 1 v' (piv.length+1) ((nz piv).map (Value.int .i64)++[Y (c:Int)]))(D:(wr.alloc o).grownBy H v9.ownBlock)(I:v'.ownBlock=v9.ownBlock\/v'.ownBlock=some (wr.heap.size+1)):∃(VA':Option Addr)(Vk':Nat),v'=zL VA' (piv++[c]).length Vk'/\ES w p m A n cA R cR rows N (zL VA' (piv++[c]).length Vk') (piv++[c]) bs H:=by
 have B:=h.grow ((Below.refl _ _).alloc (Nat.le_refl _) o);have d:∀g,v9.ownBlock=some g->w.heap.size+1<=g:=fun g e=>(h.2.2.1.1.lt g e).1;obtain⟨b,u,l,z⟩:=B;have s:=l.neR u;have q:Below w.heap.size (wr.alloc o) H:=⟨D.os,D.tape,D.output,D.size,fun k hk=>D.block k (by have:=b.2.1;omega) (fun e=>by have:=d k e.symm;omega)⟩;have C:SBoxF w p m A n cA H:=⟨b.1.trans q,Nat.lt_of_lt_of_le b.2.1 D.size,(D.block w.heap.size b.2.1 (fun e=>by have:=d _ e.symm;omega)).trans b.2.2⟩;have r:GridAt H (w.heap.size+1) R cR rows bs:=u.kept D s (fun i hi=>l.2 i U0);have f:(piv++[c]).length=piv.length+1:=U2;have y:(nz (piv++[c])).map (Value.int .i64)=(nz piv).map (Value.int .i64)++[Y (c:Int)]:=by simp[nz]
 obtain⟨v,x,rfl,_⟩:=own_slice' E;refine⟨v,x,by rw[f],C,r,⟨by rw[f,y];exact E,fun j hj=>?_⟩,z⟩;rw[f];rcases I with e|e
 . rw[e];exact l.2 j hj
 . rw[e];intro t;injection t with t;have:=(h.2.1.row j (by rw[h.2.2.2];exact hj)).lt.2;omega
theorem hdr_eq{q N b:Nat}{rows:List (List Nat)}(c:Grid q N b rows)(bs:List (Nat × Nat)){i:Nat}(d:i<N):hdr rows bs i=zS (bk bs i) b (cp bs i):=by unfold hdr;rw[(c.row d).1]
end Go.Proofs.YtndipkplnkfoeaaGreat
