/- Parts of the proof. -/
import Derived.Test.YtflejelbdlelpaaGreatR16
import Derived.Test.YtflejelbdlelpaaGreatR14
set_option maxRecDepth 100000
set_option maxHeartbeats 8000000
namespace Go.Proofs.YtflejelbdlelpaaGreat
open Go.RowKit Pln Go.Proofs.Tryz
def RelIn(w:Wo)(p m:Nat)(A:OA)(n c:Nat)(mul:Nat->Nat->Nat)(x:Nat)(v5:Value)(wr:Wo):Prop:=
 ∃y:Nat,1<=y/\y<=p^m/\v5=Y (y:Int)/\refInv mul (p^m) x=invGo mul x (p^m-y) y/\SBoxF w p m A n c wr
theorem rinv_c(p m:Nat)(md:LN)(A:OA)(n c x:Nat)(w:Wo)(S:Small p m)(T:md.length=m)(U:∀ d∈md,d<p)(X:2<=m->n=m/\zI w A (nz md))(V:x<p ^ m):
 zC 84 #[C4 p m A n c,Y x] w fun e w'=>e=.returned (Y ((refInv (refMul p m md) (p^m) x:Nat):Int))/\zB w w':=by
 have L:=zH (qbK w p m A n c);have K:zK (∀W:Wo,zC 15 #[C4 p m A n c] W fun e w'=>e=.returned (Y ((p^m:Nat):Int))/\zB W w'):=fun W=>by have:=rorder_c p m A n c W;rw[qbX S.p1 S.p2 S.m1 S.m2,if_neg (by have:=S.q;omega)] at this;exact this
 have D:zK (∀(y:Nat)(W:Wo),y<p^m->zB w W->zC 88 #[C4 p m A n c,Y x,Y y] W fun e w'=>e=.returned (Y ((refMul p m md x y:Nat):Int))/\zB W w'):=fun y W hy hW=>
  rmul_c p m md A n c x y W S T U (fun h=>⟨(X h).1,((X h).2.keep hW).more hW.size⟩) V hy
 have Q:=S.q;have H:1<=p^m:=Nat.pow_pos (by have:=S.p1;omega);clear S T U X V;generalize refMul p m md=mul at *;go_enter func84,ntmps84;go_upto_region 1 with fail;generalize w.alloc (C2 p m A n c)=M at *;have t:zK (RelIn w p m A n c mul x (zN 1) M):=⟨1,Nat.le_refl _,H,rfl,rfl,L.o⟩;have s:zK (∀v wr,RelIn w p m A n c mul x v wr=∃y:Nat,1<=y/\y<=p^m/\v=Y (y:Int)/\refInv mul (p^m) x=invGo mul x (p^m-y) y/\SBoxF w p m A n c wr):=fun _ _=>rfl;generalize B:p^m=q at *;have r:=zH B;clear B;go_wp2;go_loopw [5] (fun v5 wr=>RelIn w p m A n c mul x v5 wr) (fun v5 _=>q-(intOf v5).toNat);case atStart=>exact t.o
 case round =>
  rw[s.o] at hrel;obtain⟨y,N,O,rfl,j,V⟩:=hrel;have f:=zH j;have k:=zH V;clear j V t;have b:=zH k.o.range;go_wp2_with (refine wpList_load_mid rfl 24 (.tmp 2) rfl w.heap.size 0 rfl (C5 p m A n c) _ b.o underlying24 rfl fieldSize ?_);(with_reducible refine(K.o wr).mono ?_);rintro e P ⟨rfl,hb1⟩;have i:=zH (k.o.grow hb1);clear hb1 k b;by_cases E:y<q
  . have b := zH i.o.range;have J:=zH (D.o y P E i.o.1);(have g:zK (invGo mul x (q-y) y=if mul x y=1 then y else invGo mul x (q-(y+1)) (y+1)):=by show _=_;rw [show q-y=(q-(y+1))+1 by omega];rfl);generalize mul x y=z at *;go_wp2_with (refine wpList_load_mid rfl 24 (.tmp 2) rfl w.heap.size 0 rfl (C5 p m A n c) _ b.o underlying24 rfl fieldSize ?_);go_fit J.o;rintro e R ⟨rfl,hb2⟩;have u:=zH (i.o.grow hb2);clear hb2;by_cases C:z=1
    . (have l:zK (refInv mul q x=y):=by show _=_;rw[f.o,g.o,if_pos C]);(have I:((z:Int)==1)=true:=by rw[C];rfl);clear C g;go_wp2;go_ret;exact⟨qaG (by rw[r.o,l.o]),u.o.1⟩
    . (have l : zK (refInv mul q x = invGo mul x (q - (y + 1)) (y + 1)):=by show _ = _;rw[f.o,g.o,if_neg C]);(have I:((z:Int)==1)=false:=by rw[beq_eq_false_iff_ne];omega);clear C g;go_wp2;go_roundw;case rel=>rw[s.o];exact⟨y+1,U0,U0,U3,l.o,u.o⟩
      case measure=>simp[intOf];omega
  . (obtain rfl:y=q:=by omega);(have l:zK (refInv mul y x=0):=by show _=_;rw[f.o,Nat.sub_self];rfl);go_wp2;go_ret;exact⟨qaG (by rw[r.o,l.o];rfl),i.o.1⟩
structure RFld (p m:Nat) (md:LN) (A:OA) (n:Nat) (B:Nat) (W:Wo):Prop where
 small:Small p m
 len:md.length=m
 lt:∀d∈md,d<p
 mod:2<=m->n=m/\IntsAt W B A (nz md)
section
variable {p m:Nat} {md:LN} {A:OA} {n c B:Nat} {W W':Wo}
theorem RFld.keep(h:RFld p m md A n B W)(b:Below B W W'):RFld p m md A n B W':=⟨h.small,h.len,h.lt,fun h2=>⟨(h.mod h2).1,(h.mod h2).2.keep b⟩⟩
theorem RFld.more{B':Nat}(h:RFld p m md A n B W)(b:B<=B'):RFld p m md A n B' W:=⟨h.small,h.len,h.lt,fun h2=>⟨(h.mod h2).1,(h.mod h2).2.more b⟩⟩
theorem RFld.mul(h:RFld p m md A n W.heap.size W){x y:Nat}(b:x<p^m)(d:y<p^m)(c:Nat):zC 88 #[C4 p m A n c,Y x,Y y] W fun e w'=>e=.returned (Y (((refOps p m md).mul x y:Nat):Int))/\zB W w':=
 rmul_c p m md A n c x y W h.small h.len h.lt h.mod b d
theorem RFld.add(h:RFld p m md A n B W){x y:Nat}(b:x<p^m)(d:y<p^m)(c:Nat):zC 87 #[C4 p m A n c,Y x,Y y] W fun e w'=>e=.returned (Y (((refOps p m md).add x y:Nat):Int))/\zB W w':=
 radd_c p m A n c x y W h.small b d
theorem RFld.neg(h:RFld p m md A n B W){x:Nat}(b:x<p^m)(c:Nat):zC 38 #[C4 p m A n c,Y x] W fun e w'=>e=.returned (Y (((refOps p m md).neg x:Nat):Int))/\zB W w':=
 rneg_c p m A n c x W h.small b
theorem RFld.inv(h:RFld p m md A n W.heap.size W){x:Nat}(b:x<p^m)(c:Nat):zC 84 #[C4 p m A n c,Y x] W fun e w'=>e=.returned (Y (((refOps p m md).inv x:Nat):Int))/\zB W w':=
 rinv_c p m md A n c x W h.small h.len h.lt h.mod b
theorem RFld.mul_lt(h:RFld p m md A n B W)(x y:Nat):(refOps p m md).mul x y<p^m:=by show refMul p m md x y<p^m;rw[refMul_eq (by have:=h.small.p1;omega) h.small.m1 h.len];exact(qaV (by have:=h.small.p1;omega) h.small.m1 md).lt x y
end
def fK(r:LN)(k:Nat):LN:=r.take k++List.replicate (r.length-k) 0
theorem fK_len(r:LN)(k:Nat)(b:k<=r.length):(fK r k).length=r.length:=by simp[fK];omega
theorem fK_set(r:LN)(k:Nat)(b:k<r.length):(fK r k).set k (r.getD k 0)=fK r (k+1):=by
 unfold fK;have h:(r.take k).length=k:=by rw[List.length_take];omega
 rw[List.set_append_right _ _ U0,h,Nat.sub_self,show r.length-k=(r.length-(k+1))+1 by omega,List.replicate_succ,List.set_cons_zero,List.take_succ_eq_append_getElem b,List.append_assoc];simp[List.getD,b]
theorem fK_end(r:LN):fK r r.length=r:=by unfold fK;rw[List.take_length,Nat.sub_self,List.replicate_zero,List.append_nil]
def NRow(w:Wo)(p m:Int)(A:OA)(n c go:Nat)(r:LN)(k:Nat)(Av:OA)(v:LN)(Au:OA)(u:LN)(wr:Wo):Prop:=
 SBoxF w p m A n c wr/\Row wr (w.heap.size+1) go r.length (nz (fK r k))/\IntsAt wr w.heap.size Av (nz v)/\IntsAt wr w.heap.size Au (nz u)
theorem NRow.grow{w:Wo}{p m:Int}{A:OA}{n c o:Nat}{r:LN}{k:Nat}{l:OA}{v:LN}{j:OA}{u:LN}{wr q:Wo}(h:NRow w p m A n c o r k l v j u wr)(i:zB wr q):NRow w p m A n c o r k l v j u q:=by obtain⟨b,d,f,g⟩:=h;exact⟨b.grow i,d.below i d.lt.2,f.keep (i.mono (Nat.le_of_lt b.2.1)),g.keep (i.mono (Nat.le_of_lt b.2.1))⟩
theorem NRow.set{w:Wo}{p m:Int}{A:OA}{n c l:Nat}{r:LN}{k:Nat}{q:OA}{v:LN}{o:OA}{u:LN}{wr:Wo}(h:NRow w p m A n c l r k q v o u wr)(s:k<r.length):NRow w p m A n c l r (k+1) q v o u (wr.setCell (zA l k) (Y ((r.getD k 0:Nat):Int))):=by obtain⟨g,d,i,j⟩:=h;have b:=d.lt.1;have f:Below w.heap.size wr (wr.setCell (zA l k) (Y ((r.getD k 0:Nat):Int))):=zV.setCell (p:=(zA l k)) (by show w.heap.size<=l;omega) _;refine⟨g.wrote b _,?_,i.keep f,j.keep f⟩;rw[<- fK_set r k s,<- qbC];exact d.set k _
def RelNR(w:Wo)(p m:Int)(A:OA)(n c go:Nat)(r:LN)(Av:OA)(v:LN)(Au:OA)(u:LN)(v8:Value)(wr:Wo):Prop:=
 ∃k:Nat,k<=r.length/\v8=Y (k:Int)/\NRow w p m A n c go r k Av v Au u wr
theorem rscale_c(p m:Nat)(md:LN)(A:OA)(n c a:Nat)(v:LN)(Av:OA)(cv:Nat)(w:Wo)(hR:RFld p m md A n w.heap.size w)(ha:a<p ^ m)(hv:∀ x∈v,x<p ^ m)(hA:zI w Av (nz v))(hl:v.length<=1000):
 zC 83 #[C4 p m A n c,Y a,zL Av v.length cv] w fun e w'=>(∃g,e=.returned (zS g v.length v.length)/\Row w' w.heap.size g v.length (nz (scaleRow (refOps p m md) a v)))/\zB w w':=by
 have HX:=zH (qbK w p m A n c);have HA:=zH (hA.keep HX.o.1);have U:zK (∀(x:Nat)(W:Wo),x<p^m->zB w W->zC 88 #[C4 p m A n c,Y a,Y x] W fun e w'=>e=.returned (Y (((refOps p m md).mul a x:Nat):Int))/\zB W w'):=fun x W hx hW=>((hR.keep hW).more hW.size).mul ha hx c;have L:(scaleRow (refOps p m md) a v).length=v.length:=by simp[scaleRow]
 have V:zK (∀k,k<v.length->(scaleRow (refOps p m md) a v).getD k 0=(refOps p m md).mul a (v.getD k 0)):=fun k y=>by
  have e1:v[k]?=some (v.getD k 0):=by simp[List.getD,y]
  unfold scaleRow;rw[List.getD_eq_getElem?_getD,List.getElem?_map,e1];rfl
 have HV:zK (∀k,k<v.length->v.getD k 0<p^m):=fun k y=>by
  have:v.getD k 0=v[k]:=by simp[List.getD,y]
  rw[this];exact hv _ (List.getElem_mem y)
 obtain⟨i0,hi,N,O,P⟩:=qaF infoInt;have HI:=zH hi;have H:=zH N;have I:=zH O;have B:=zH (show i0.bytes*v.length<=281474976710656 by rw[P];omega);have C:=zH (show v.length<=maxLen by unfold maxLen;omega);have d:=zH L;clear hi N O P hR hA hv L ha;generalize scaleRow (refOps p m md) a v=r at *;generalize (refOps p m md).mul a=f at *;go_enter func83,ntmps83;go_upto_region 1 with fail;have t:w.heap.size+1<=(w.alloc (C2 p m A n c)).heap.size:=U2;generalize w.alloc (C2 p m A n c)=W0 at *;go_wp2_with (refine wpList_make_full W0 rfl (.tmp 10) (.tmp 10) 22 rfl (w.heap.size+1) 3 i0 (Y 0) 1 underlying22 HI.o H.o I.o .i64 .i64 v.length v.length v.length rfl rfl rfl rfl B.o C.o t ?_;intro w1 s J);have u:=qaL J;have K:=Row.of_make s;have D:zK (RelNR w p m A n c W0.heap.size r Av v none [] (Y ((0:Nat):Int)) w1):=⟨0,Nat.zero_le _,rfl,HX.o.grow u,by rw[d.o];unfold fK;rw[List.take_zero,List.nil_append,d.o];exact K,HA.o.keep (u.mono U0),fun h=>by simp[nz] at h⟩;clear s J u K t HX HA HI H I B C;generalize W0.heap.size=l at *;go_wp2;go_loopw [8] (fun v8 wr=>RelNR w p m A n c l r Av v none [] v8 wr) (fun v8 _=>v.length-(intOf v8).toNat);case atStart=>exact D.o
 case round =>
  obtain⟨k,y,rfl,hn⟩:=hrel;have Q:=zH hn;clear hn D;rw[d.o] at y;by_cases i:k<v.length
  . obtain ⟨b,o,rfl,ab,hc⟩ := Q.o.2.2.1.at_ (k := k) (by rw [qaA];exact i);have T:=zH (V.o k i);have M:=HV.o k i;have k0:(0:Int)<=(k:Int):=U0;have k1:(k:Int)<(v.length:Int):=U0;(have S:zK (∀ W,NRow w p m A n c l r k (some (zA b o)) v none [] W->zC 88 #[C4 p m A n c,Y a,Y ((v.getD k 0:Nat):Int)] W fun e w'=>e=.returned (Y ((r.getD k 0:Nat):Int))/\NRow w p m A n c l r k (some (zA b o)) v none [] w'):=fun W hW=>by have:=U.o (v.getD k 0) W M hW.1.1;rw [<- T.o] at this;exact this.mono fun e w' ⟨he,hb⟩=>⟨he,hW.grow hb⟩);(have aa:zK (∀ W,NRow w p m A n c l r k (some (zA b o)) v none [] W->W.cell? (zA b (o+k))=some (Y ((v.getD k 0:Nat):Int))):=fun W hW=>by obtain ⟨b',o',e,_,h⟩:=hW.2.2.1.at_ (k:=k) (by rw [qaA];exact i);injection e with e;injection e with e1 e2;subst e1 e2;rw [qaC] at h;exact h);have E:zK (∀ wr,NRow w p m A n c l r k (some (zA b o)) v none [] wr->NRow w p m A n c l r (k+1) (some (zA b o)) v none [] (wr.setCell (zA l k) (Y ((r.getD k 0:Nat):Int)))):=fun wr h=>h.set (by rw [d.o];exact i);clear hc M;generalize r.getD k 0=z at *;generalize v.getD k 0=xv at *;go_upto_region 5 with fail;refine qaI 10 (NRow w p m A n c l r k (some (zA b o)) v none []) U1 U1 (Q.o.grow zV.drew) ?_;simp only [List.take_succ_cons,List.take_zero,List.drop_succ_cons,List.drop_zero]
    repeat (first
     | (refine qeP rfl 24 (.tmp 3) rfl w.heap.size 0 rfl (C5 p m A n c) _ (fun W hW => hW.1.range) underlying24 rfl fieldSize ?_
        go_simp)
     | (apply qaJ rfl
        . intro W R
          have yv:=aa.o W R
          go_simp
          rfl
        go_simp)
     | (apply qaO rfl
        . intro W R
          go_simp
          exact⟨rfl,rfl⟩
        . intro W R
          exact S.o W R
        go_simp))
    refine qaE ?_;intro w2 q;have Z:=zH q;have f0:=q.2.1.frozen k;have c0:=q.2.1.cell (j:=k) (by rw[qaA,fK_len r k (by rw[d.o];omega),d.o];exact i);clear q;go_wp2;go_roundw;case rel=>exact⟨k+1,by rw[d.o];omega,U3,E.o _ Z.o⟩
    case measure=>simp[intOf];omega
  . (obtain rfl:k=v.length:=by omega);(have X:zK (Row wr w.heap.size l v.length (nz r)):=by have:=Q.o.2.1;rw[<- d.o,fK_end] at this;rw[<- d.o];exact this.base (by have:=this.lt;omega));go_wp2;go_ret;exact⟨⟨l,rfl,X.o⟩,Q.o.1.1⟩
def NRowL(w:Wo)(p m:Int)(A:OA)(n c go N:Nat)(L:LN)(Av:OA)(v:LN)(Au:OA)(u:LN)(wr:Wo):Prop:=
 SBoxF w p m A n c wr/\Row wr (w.heap.size+1) go N (nz L)/\IntsAt wr w.heap.size Av (nz v)/\IntsAt wr w.heap.size Au (nz u)
section
variable {w:Wo} {p m:Int} {A:OA} {n c go N:Nat} {L:LN} {Av:OA} {v:LN} {Au:OA} {u:LN} {wr wx:Wo}
theorem NRowL.grow(h:NRowL w p m A n c go N L Av v Au u wr)(i:zB wr wx):NRowL w p m A n c go N L Av v Au u wx:=by obtain⟨b,d,f,g⟩:=h;exact⟨b.grow i,d.below i d.lt.2,f.keep (i.mono (Nat.le_of_lt b.2.1)),g.keep (i.mono (Nat.le_of_lt b.2.1))⟩
theorem NRowL.set(h:NRowL w p m A n c go N L Av v Au u wr)(k x:Nat):NRowL w p m A n c go N (L.set k x) Av v Au u (wr.setCell (zA go k) (Y (x:Int))):=by obtain⟨g,d,i,j⟩:=h;have b:=d.lt.1;have f:Below w.heap.size wr (wr.setCell (zA go k) (Y (x:Int))):=zV.setCell (p:=(zA go k)) (by show w.heap.size<=go;omega) _;refine⟨g.wrote b _,?_,i.keep f,j.keep f⟩;rw[<- qbC];exact d.set k _
theorem NRowL.cv(h:NRowL w p m A n c go N L Av v Au u wr){k:Nat}(d:k<v.length):∃b o,Av=some (zA b o)/\wr.cell? (zA b (o+k))=some (Y ((v.getD k 0:Nat):Int)):=by obtain⟨b,o,e,_,h⟩:=h.2.2.1.at_ (k:=k) (by rw[qaA];exact d);rw[qaC] at h;exact⟨b,o,e,h⟩
theorem NRowL.cu(h:NRowL w p m A n c go N L Av v Au u wr){k:Nat}(d:k<u.length):∃b o,Au=some (zA b o)/\wr.cell? (zA b (o+k))=some (Y ((u.getD k 0:Nat):Int)):=by obtain⟨b,o,e,_,h⟩:=h.2.2.2.at_ (k:=k) (by rw[qaA];exact d);rw[qaC] at h;exact⟨b,o,e,h⟩
end
theorem NRowL.cv'{w:Wo}{p m:Int}{A:OA}{n c go N:Nat}{L:LN}{v:LN}{Au:OA}{u:LN}{wr:Wo}{b o:Nat}(h:NRowL w p m A n c go N L (some (zA b o)) v Au u wr){k:Nat}(i:k<v.length):wr.cell? (zA b (o+k))=some (Y ((v.getD k 0:Nat):Int)):=by obtain⟨f,g,e,d⟩:=h.cv i;injection e with e;injection e with e1 e2;subst e1 e2;exact d
theorem NRowL.cu'{w:Wo}{p m:Int}{A:OA}{n c go N:Nat}{L:LN}{v:LN}{Av:OA}{u:LN}{wr:Wo}{b o:Nat}(h:NRowL w p m A n c go N L Av v (some (zA b o)) u wr){k:Nat}(i:k<u.length):wr.cell? (zA b (o+k))=some (Y ((u.getD k 0:Nat):Int)):=by obtain⟨f,g,e,d⟩:=h.cu i;injection e with e;injection e with e1 e2;subst e1 e2;exact d
def RelAT(w:Wo)(p m:Int)(A:OA)(n c go N:Nat)(r:LN)(Av:OA)(v:LN)(Au:OA)(u:LN)(v10:Value)(wr:Wo):Prop:=
 ∃k:Nat,k<=N/\v10=Y (k:Int)/\NRowL w p m A n c go N (fK r k) Av v Au u wr
theorem raddto_c(p m:Nat)(md:LN)(A:OA)(n c a:Nat)(v u:LN)(Av Au:OA)(cv cu:Nat)(w:Wo)(hR:RFld p m md A n w.heap.size w)(ha:a<p ^ m)(hv:∀ x∈v,x<p ^ m)(hu:∀ x∈u,x<p ^ m)(ax:v.length=u.length)(hA:zI w Av (nz v))(hU:zI w Au (nz u))(hl:v.length<=1000):
 zC 39 #[C4 p m A n c,zL Av v.length cv,Y a,zL Au v.length cu] w fun e w'=>(∃g,e=.returned (zS g v.length v.length)/\Row w' w.heap.size g v.length (nz (addRow (refOps p m md) v a u)))/\zB w w':=by
 have HX:=zH (qbK w p m A n c);have HA:=zH (hA.keep HX.o.1);have U:=zH (hU.keep HX.o.1);have aq:zK (∀(x:Nat)(W:Wo),x<p^m->zB w W->zC 88 #[C4 p m A n c,Y a,Y x] W fun e w'=>e=.returned (Y (((refOps p m md).mul a x:Nat):Int))/\zB W w'):=fun x W hx hW=>((hR.keep hW).more hW.size).mul ha hx c;have al:zK (∀(x y:Nat)(W:Wo),x<p^m->y<p^m->zB w W->zC 87 #[C4 p m A n c,Y x,Y y] W fun e w'=>e=.returned (Y (((refOps p m md).add x y:Nat):Int))/\zB W w'):=fun x y W hx hy hW=>(hR.keep hW).add hx hy c;have ap:=zH<|fun x=>hR.mul_lt a x
 have ae:(addRow (refOps p m md) v a u).length=v.length:=qbU _ _ _ _ ax;have ar:zK (∀k,k<v.length->(addRow (refOps p m md) v a u).getD k 0=if u.getD k 0=0 then v.getD k 0 else(refOps p m md).add (v.getD k 0) ((refOps p m md).mul a (u.getD k 0))):=fun k P=>by
  have e1:v[k]?=some (v.getD k 0):=by simp[List.getD,P]
  have e2:u[k]?=some (u.getD k 0):=by simp[List.getD,show k<u.length by omega]
  unfold addRow;rw[List.getD_eq_getElem?_getD,List.getElem?_zipWith,e1,e2];rfl
 have HV:zK (∀k,k<v.length->v.getD k 0<p^m):=fun k P=>by
  have:v.getD k 0=v[k]:=by simp[List.getD,P]
  rw[this];exact hv _ (List.getElem_mem P)
 have HU:zK (∀k,k<v.length->u.getD k 0<p^m):=fun k P=>by
  have ac:k<u.length:=U0;have:u.getD k 0=u[k]:=by simp[List.getD,ac]
  rw[this];exact hu _ (List.getElem_mem ac)
 obtain⟨i0,hi,ah,ai,aj⟩:=qaF infoInt;have HI:=zH hi;have V:=zH ah;have X:=zH ai;have Q:=zH (show i0.bytes*v.length<=281474976710656 by rw[aj];omega);have R:=zH (show v.length<=maxLen by unfold maxLen;omega);have d:=zH ae;have E:=zH ax;clear hi ah ai aj hR hA hU hv hu ae ha ax;generalize addRow (refOps p m md) v a u=r at *;generalize refOps p m md=O at *;generalize p^m=q at *;go_enter func39,ntmps39;go_upto_region 1 with fail;have J:w.heap.size+1<=(w.alloc (C2 p m A n c)).heap.size:=U2;generalize w.alloc (C2 p m A n c)=W0 at *;go_wp2_with (refine wpList_make_full W0 rfl (.tmp 12) (.tmp 12) 22 rfl (w.heap.size+1) 3 i0 (Y 0) 1 underlying22 HI.o V.o X.o .i64 .i64 v.length v.length v.length rfl rfl rfl rfl Q.o R.o J ?_;intro w1 I ab);have D:=qaL ab;have ad:=Row.of_make I;have T:zK (RelAT w p m A n c W0.heap.size v.length r Av v Au u (Y ((0:Nat):Int)) w1):=⟨0,Nat.zero_le _,rfl,HX.o.grow D,by unfold fK;rw[List.take_zero,List.nil_append,d.o];exact ad,HA.o.keep (D.mono U0),U.o.keep (D.mono U0)⟩;clear I ab D ad J HX HA U HI V X Q R;generalize W0.heap.size=h at *;go_wp2;go_loopw [10] (fun v10 wr=>RelAT w p m A n c h v.length r Av v Au u v10 wr) (fun v10 _=>v.length-(intOf v10).toNat);case atStart=>exact T.o
 case round =>
  obtain⟨k,P,rfl,hn⟩:=hrel;have B:=zH hn;clear hn T;by_cases f:k<v.length
  . obtain ⟨b,o,rfl,aa⟩ := B.o.cv f;obtain ⟨l,s,rfl,M⟩:=B.o.cu (k:=k) (by rw [<- E.o];exact f);have i:=zH (ar.o k f);have ag:=HV.o k f;have af:=HU.o k f;have k0:(0:Int)<=(k:Int):=U0;have k1:(k:Int)<(v.length:Int):=U0;have f0:=B.o.2.1.frozen k;have c0:=B.o.2.1.cell (j:=k) (by rw [qaA,fK_len r k (by rw [d.o];omega),d.o];exact f);have H:=zH (fK_set r k (by rw [d.o];exact f));have K:=zH (B.o.set k (v.getD k 0));have t:zK (∀ W,NRowL w p m A n c h v.length ((fK r k).set k (v.getD k 0)) (some (zA b o)) v (some (zA l s)) u W->W.cell? (zA b (o+k))=some (Y ((v.getD k 0:Nat):Int))/\W.cell? (zA l (s+k))=some (Y ((u.getD k 0:Nat):Int))):=fun W hW=>⟨hW.cv' f,hW.cu' (by rw [<- E.o];exact f)⟩;by_cases N:u.getD k 0=0
    . rw[N] at M;rw[if_pos N] at i;rw[<- i.o,H.o] at K;have yu:=(t.o _ (B.o.set k (v.getD k 0))).2;rw[N] at yu;rw[<- i.o] at yu aa;clear t N M;generalize r.getD k 0=z at *;go_wp2;go_roundw;case rel=>exact⟨k+1,U0,U3,K.o⟩
      case measure=>simp[intOf];omega
    . (have aw : (((u.getD k 0 : Nat) : Int) != 0) = true := by rw [bne_iff_ne];omega);rw [if_neg N] at i;have yu:=(t.o _ (B.o.set k (v.getD k 0))).2;(have S:zK (∀ W,NRowL w p m A n c h v.length ((fK r k).set k (v.getD k 0)) (some (zA b o)) v (some (zA l s)) u W->NRowL w p m A n c h v.length (fK r (k+1)) (some (zA b o)) v (some (zA l s)) u (W.setCell (zA h k) (Y ((r.getD k 0:Nat):Int)))):=fun W hW=>by have:=hW.set k (r.getD k 0);rw [List.set_set,H.o] at this;exact this)
      have ao:zK (∀W,NRowL w p m A n c h v.length ((fK r k).set k (v.getD k 0)) (some (zA b o)) v (some (zA l s)) u W->zC 88 #[C4 p m A n c,Y a,Y ((u.getD k 0:Nat):Int)] W fun e w'=>e=.returned (Y ((O.mul a (u.getD k 0):Nat):Int))/\NRowL w p m A n c h v.length ((fK r k).set k (v.getD k 0)) (some (zA b o)) v (some (zA l s)) u w'):=fun W hW=>
       (aq.o (u.getD k 0) W af hW.1.1).mono fun e w' ⟨he,hb⟩=>⟨he,hW.grow hb⟩
      (have ak:zK (∀W,NRowL w p m A n c h v.length ((fK r k).set k (v.getD k 0)) (some (zA b o)) v (some (zA l s)) u W->zC 87 #[C4 p m A n c,Y ((v.getD k 0:Nat):Int),Y ((O.mul a (u.getD k 0):Nat):Int)] W fun e w'=>e=.returned (Y ((r.getD k 0:Nat):Int))/\NRowL w p m A n c h v.length ((fK r k).set k (v.getD k 0)) (some (zA b o)) v (some (zA l s)) u w'):=fun W hW=>by have:=al.o (v.getD k 0) (O.mul a (u.getD k 0)) W ag (ap.o _) hW.1.1;rw[<- i.o] at this;exact this.mono fun e w' ⟨he,hb⟩=>⟨he,hW.grow hb⟩);have an:zK (∀W,NRowL w p m A n c h v.length ((fK r k).set k (v.getD k 0)) (some (zA b o)) v (some (zA l s)) u W->∃x,W.cell? (zA h k)=some x):=fun W hW=>⟨_,hW.2.1.cell (j:=k) (by rw[qaA,List.length_set,fK_len r k (by rw[d.o];omega),d.o];exact f)⟩;clear N ag af i;generalize O.mul a (u.getD k 0)=mu at *;generalize (fK r k).set k (v.getD k 0)=L at *;generalize r.getD k 0=z at *;generalize v.getD k 0=xv at *;generalize u.getD k 0=xu at *;go_upto_region 7 with fail;generalize wr.setCell (zA h k) (Y (xv:Int))=ws at *;clear aa M c0 f0 yu;refine qaI 16 (NRowL w p m A n c h v.length L (some (zA b o)) v (some (zA l s)) u) U1 U1 (K.o.grow zV.drew) ?_;simp only[List.take_succ_cons,List.take_zero,List.drop_succ_cons,List.drop_zero]
      repeat (first
       | (refine qeP rfl 24 (.tmp 4) rfl w.heap.size 0 rfl (C5 p m A n c) _ (fun W hW => hW.1.range) underlying24 rfl fieldSize ?_
          go_simp)
       | (apply qaJ rfl
          . intro W Z
            obtain⟨yv,yu⟩:=t.o W Z
            go_simp
            rfl
          go_simp)
       | (apply qaO rfl
          . intro W Z
            go_simp
            exact⟨rfl,rfl⟩
          . intro W Z
            first
             |exact ao.o W Z
             |exact ak.o W Z
          go_simp))
      refine qaE ?_;intro w2 C;have av:=zH C;have f0:=C.2.1.frozen k;obtain⟨x0,c0⟩:=an.o w2 C;clear C;go_wp2;go_roundw;case rel=>exact⟨k+1,U0,U3,S.o _ av.o⟩
      case measure=>simp[intOf];omega
  . (obtain rfl:k=v.length:=by omega);(have au:zK (Row wr w.heap.size h v.length (nz r)):=by have:=B.o.2.1;(have e:fK r v.length=r:=by rw[<- d.o,fK_end]);rw[e] at this;exact this.base (by have:=this.lt;omega));go_wp2;go_ret;exact⟨⟨h,rfl,au.o⟩,B.o.1.1⟩
def Nd(bs:List (Nat × Nat))(k:Nat):Prop:=∀i j,i<k->j<k->i≠j->bk bs i≠bk bs j
theorem Nd.step{p:List (Nat × Nat)}{k g c:Nat}(h:Nd p k)(r:p.length=k)(q:∀ i,i<k->bk p i≠g):Nd (p++[(g,c)]) (k+1):=by
 have b:∀i,i<k->bk (p++[(g,c)]) i=bk p i:=fun i n=>by unfold bk;rw[getD_snoc_lt U0]
 have d:bk (p++[(g,c)]) k=g:=by unfold bk;have:=qeO p (g,c) (0,0);rw[r] at this;rw[this]
 intro i j n o f;by_cases l:i=k
 . subst l;rw[d,b j U0];exact fun e=>q j U0 e.symm
 . rw[b i U0];by_cases m:j=k
   . subst m;rw[d];exact q i U0
   . rw[b j U0];exact h i j U0 U0 f
theorem LGrid.grid{w:Wo}{B R c:Nat}{rows:LL}{b:List (Nat × Nat)}(h:LGrid w B (zS R rows.length c) rows b rows.length)(d:Nd b rows.length):GridAt w B R c rows b:=
 ⟨h.len,h.out,h.row,d⟩
def RelCp(w:Wo)(rows:LL)(v3 v4:Value)(wr:Wo):Prop:=
 ∃(k:Nat)(bs:List (Nat × Nat)),v4=Y k/\LGrid wr w.heap.size v3 rows bs k/\Nd bs k/\zB w wr
theorem rcopy_nil(A:OA)(c:Nat)(w:Wo):zC 82 #[zL A 0 c] w fun e w'=>e=.returned (zL none 0 0)/\w=w':=by
 go_enter func82,ntmps82;go_wp2;go_loop [3,4] (fun v3 v4=>v4=Y 0/\v3=zL none 0 0) (fun _ _=>0);case atStart=>exact⟨rfl,rfl⟩
 case round=>obtain⟨rfl,rfl⟩:=hrel;go_wp2;go_ret;exact⟨rfl,rfl⟩
theorem rcopy_c(rows:LL)(A:OA)(c:Nat)(w:Wo)(hA:zR w A (nzs rows))(hr:∀ r∈rows,0<r.length/\r.length<=1000000)(hl:rows.length<=1000000)(ax:0<rows.length):
 zC 82 #[zL A rows.length c] w fun e w'=>(∃R cR bs,e=.returned (zS R rows.length cR)/\GridAt w' w.heap.size R cR rows bs)/\zB w w':=by
 obtain⟨i0,h,S,T,U⟩:=qaF infoInts;obtain⟨i1,gi,H,I,J⟩:=qaF infoInt;have HI:=zH h;have ak:=zH S;have al:=zH T;have an:=zH U;have GI:=zH gi;have aa:=zH H;have ab:=zH I;have ac:=zH J;have HA:=zH hA;have ai:zK (∀k,k<rows.length->0<(rows.getD k []).length/\(rows.getD k []).length<=1000000):=fun k hk=>by
  have:rows.getD k []=rows[k]:=by simp[List.getD,hk]
  rw[this];exact hr _ (List.getElem_mem hk)
 clear h S T U gi H I J hA hr;go_enter func82,ntmps82;go_wp2;go_loopw [3,4] (fun v3 v4 wr=>RelCp w rows v3 v4 wr) (fun _ v4 _=>rows.length-(intOf v4).toNat);case atStart=>exact⟨0,[],rfl,⟨rfl,Nat.zero_le _,World.ownsRow_nil _ _ _ _,fun i h=>U0,fun i h=>U0⟩,fun i j h=>U0,Below.refl _ _⟩
 case round =>
  obtain⟨k,bs,rfl,q,O,hb⟩:=hrel;obtain⟨VA,X,rfl,K⟩:=own_slice' q.out;have f:=zH q;have B:=zH O;have W:=zH hb;have aj:=zH K;have av:=q.le;clear q hb O K;by_cases s:k<rows.length
  . obtain⟨b,o,Ai,ci,rfl,ar,Z,h⟩:=(HA.o.keep W.o).at_ (i:=k) (by rw[nzs_len];exact s);rw[nzs_getD] at Z h;rw[qaA] at Z;obtain⟨Q,aw⟩:=ai.o k s;obtain⟨b2,o2,rfl,L,_⟩:=h.at_ (k:=0) (by rw[qaA];exact Q);have y:=W.o.size;have ag:zK ((wr.alloc (.cells #[] 3)).ownsRow wr.heap.size 3 1 (zS wr.heap.size 0 0) 0 []):=World.ownsRow_made wr #[] 0 zn ml rfl;have C:zK (∀(j:Nat)(u:Value),((nz (rows.getD k [])).map (Value.int .i64))[j]?=some u->(wr.alloc (.cells #[] 3)).cell? ((⟨b2,o2,none⟩:Addr).add j)=some u):=(h.keep (zV.alloc y _)).news;(have aq:zK ((wr.alloc (.cells #[] 3)).cell? (zA b (o+k))=some (zL (some (zA b2 o2)) (rows.getD k []).length ci)):=by show _=_;rw[World.cell?_alloc_lt _ _ _ (by show b < _;omega)];exact Z);have k0:(0:Int)<=(k:Int):=U0;have k1:(k:Int)<(rows.length:Int):=U0;have au:b<wr.heap.size:=U0;have D:=zH (qaA (rows.getD k []));clear h L;generalize P:(rows.getD k []).length=n at *;have ae:=zH P;clear P;go_wp2_with (at_builtin;refine wpList_append_lies _ rfl (.tmp 12) (.tmp 16) 22 rfl wr.heap.size 3 i1 _ 1 8 underlying22 GI.out aa.out ab.out ac.out rfl dc (zS wr.heap.size 0 0) 0 [] rfl ag.o (zA b2 o2) n ci ((nz (rows.getD k [])).map (Value.int .i64)) rfl ?a0 C.o ?a2 Q ?a3 ?a4 ?a5 _ rfl ?_);case a0=>rw[List.length_map,D.o,Nat.mul_one]
    case a2=>intro u hu;obtain⟨z,_,rfl⟩:=List.mem_map.1 hu;rfl
    case a3=>unfold maxLen;omega
    case a4=>omega
    case a5=>simp
    intro g E V x N p M;(have d:=zH<|(zV.alloc zn _).grown N U2 (fun j hj=>by simp[Value.ownBlock] at hj;omega));(have v:zK (Row V wr.heap.size g E (nz (rows.getD k []))):=by show V.ownsRow _ _ _ _ _ _;rw[D.o,show rows.getD k []=rows[k] by simp[List.getD,s]];exact x);have ap:=d.o.size;clear x N p M Z;(have ah:zK ((V.alloc (.cells #[zS g n E] 22)).ownsRow w.heap.size 22 1 (zL VA k X) k ((List.range k).map (hdr rows bs))):=by have ao:=f.o.out.kept (row:=none) ⟨d.o.os,d.o.tape,d.o.output,d.o.size,fun j hj _=>d.o.block j hj⟩ (by cases (Value.slice VA k X).ownBlock<;>simp);exact World.ownsRow.alloc ao _);go_wp2_with (at_builtin;refine wpList_append_own_at _ rfl (.tmp 11) (.tmp 18) 25 rfl w.heap.size 22 i0 _ 1 24 underlying25 HI.o ak.o al.o an.o rfl dc (zL VA k X) k ((List.range k).map (hdr rows bs)) rfl ah.o (zA V.heap.size 0) 1 1 [zS g n E] rfl rfl ?c1 ?c2 ?c3 ?c4 ?c5 ?_);case c1=>exact World.news_of_block (cs:=#[zS g n E]) (t:=22) (fr:=(0,0)) (heap_alloc_new V _)
    case c2=>intro u hu;simp at hu;subst hu;rfl
    case c3=>unfold maxLen;omega
    case c4=>omega
    case c5=>simp;omega
    intro v' w3 m l _ p;(have HX:=zH<|f.o.step s y d.o v.o (by rw[ae.o];exact m) l (by simpa using p));have af:zK (Nd (bs++[(g,E)]) (k+1)):=B.o.step f.o.len (fun i h=>by have:=(f.o.row i h).lt.2;have:=v.o.lt.1;omega);(have ad:=zH<|((W.o.trans (d.o.mono y)).alloc U0 _).grown l so (fun j hj=>(f.o.out.lt j hj).1));clear m l p;go_wp2;go_roundw;case rel=>exact⟨k+1,_,U3,HX.o,af.o,ad.o⟩
    case measure=>simp[intOf];omega
  . (obtain rfl:k=rows.length:=by omega);obtain⟨R,rfl⟩:=aj.o ax;have HG:=zH (f.o.grid B.o);go_wp2;go_ret;exact⟨⟨R,X,bs,rfl,HG.o⟩,W.o⟩
def RelEn(w:Wo)(p m:Int)(A:OA)(n c:Nat)(q:Nat)(zs:LI)(v5:Value)(wr:Wo):Prop:=
 ∃k:Nat,k<=zs.length/\v5=Y k/\(zs.take k).all (inB q)=true/\SBoxF w p m A n c wr
theorem rentries_c(p m:Int)(A:OA)(n c:Nat)(q:Nat)(zs:LI)(U:OA)(Z:Nat)(w:Wo)(X:orderM p m=(q:Int))(V:zI w U zs)(hl:zs.length<=9223372036854775807):
 zC 80 #[C4 p m A n c,zL U zs.length Z] w fun e w'=>e=.returned (Y (errE (elemsB q zs)))/\zB w w':=by
 have K:=zH (qbK w p m A n c);have E:=zH V;have B:zK (∀(x:Int)(W:Wo),zC 142 #[C4 p m A n c,Y x] W fun e w'=>e=.returned (.bool (inB q x))/\zB W w'):=fun x W=>by have:=ris_c p m A n c x W;rw[X] at this;exact this
 clear V X;go_enter func80,ntmps80;go_upto_region 1 with fail;generalize w.alloc (C2 p m A n c)=L at *;have j:zK (RelEn w p m A n c q zs (Y ((0:Nat):Int)) L):=⟨0,Nat.zero_le _,rfl,U2,K.o⟩;go_wp2;go_loopw [5] (fun v5 wr=>RelEn w p m A n c q zs v5 wr) (fun v5 _=>zs.length-(intOf v5).toNat);case atStart=>exact j.o
 case round =>
  obtain⟨k,O,rfl,g,I⟩:=hrel;have f:=zH g;have i:=zH I;clear g I j;by_cases d:k<zs.length
  . obtain ⟨b,o,rfl,H,_⟩ := (E.o.keep i.o.1).at_ d;have C:=zH (qbN (inB q) zs 0 k d);have y:=zH (qbL (inB q) zs 0 k d);(have D:zK (∀ W,SBoxF w p m A n c W->W.cell? (zA b (o+k))=some (Y (zs.getD k 0))):=fun W hW=>by obtain ⟨N,R,e,_,h⟩:=(E.o.keep hW.1).at_ d;injection e with e;injection e with e1 e2;subst e1 e2;exact h);have P:(0:Int)<=(k:Int):=U0;have Q:(k:Int)<(zs.length:Int):=U0;generalize zs.getD k 0=z at *;have u:zK (∀ W,SBoxF w p m A n c W->zC 142 #[C4 p m A n c,Y z] W fun e w'=>e=.returned (.bool (inB q z))/\SBoxF w p m A n c w'):=fun W hW=>(B.o z W).mono fun e w' ⟨he,H⟩=>⟨he,hW.grow H⟩;generalize s:inB q z=M at *;have J:=zH s;clear s;go_upto_region 4 with fail;refine qaD (SBoxF w p m A n c) U1 U1 (i.o.grow zV.drew) ?_
    repeat (first
     | (refine qeP rfl 24 (.tmp 2) rfl w.heap.size 0 rfl (C5 p m A n c) _ (fun W hW => hW.range) underlying24 rfl fieldSize ?_
        go_simp)
     | (apply qaJ rfl
        . intro W t
          have T:=D.o W t
          go_simp
          rfl
        go_simp)
     | (apply qaO rfl
        . intro W t
          go_simp
          exact⟨rfl,rfl⟩
        . intro W t
          exact u.o W t
        go_simp))
    refine qaE ?_;intro S r;have l:=zH r;clear r;cases M
    . (have v:zK (errE (elemsB q zs)=2):=by show _=_;unfold elemsB;rw[y.o rfl];rfl);go_wp2;go_ret;exact⟨qaG v.o.symm,l.o.1⟩
    . go_wp2;go_roundw;case rel=>exact⟨k+1,U0,U3,by rw[C.o,f.o];rfl,l.o⟩
      case measure=>simp[intOf];omega
  . (have v:zK (errE (elemsB q zs)=0):=by show _=_;have:=f.o;rw[List.take_of_length_le U0] at this;unfold elemsB;rw[this];rfl);go_wp2;go_ret;exact⟨qaG v.o.symm,i.o.1⟩
structure Box2 (w:Wo) (p m:Int) (Am:OA) (n cm:Nat) (cols:Int) (A:OA) (nz c:Nat) (W:Wo):Prop where
 below:zB w W
 size:w.heap.size+1<W.heap.size
 k0:W.heap[w.heap.size]?=some (.cells (C5 p m Am n cm).toArray 24 (0,0))
 k1:W.heap[w.heap.size+1]?=some (.cells [Y cols,zL A nz c].toArray 60 (0,0))
section
variable {w:Wo} {p m:Int} {Am:OA} {n cm:Nat} {cols:Int} {A:OA} {nz c:Nat} {W W':Wo}
theorem Box2.grow(h:Box2 w p m Am n cm cols A nz c W)(d:zB W W'):Box2 w p m Am n cm cols A nz c W':=by have b:=h.size;exact⟨h.below.trans (d.mono U0),Nat.lt_of_lt_of_le b d.size,(d.block _ U0).trans h.k0,(d.block _ U0).trans h.k1⟩
theorem Box2.range(h:Box2 w p m Am n cm cols A nz c W):W.rangeAt w.heap.size 0 (C5 p m Am n cm):=qeL h.k0
theorem Box2.range1(h:Box2 w p m Am n cm cols A nz c W):W.rangeAt (w.heap.size+1) 0 [Y cols,zL A nz c]:=qeL h.k1
theorem Box2.c0(h:Box2 w p m Am n cm cols A nz c W):W.cell? (zA (w.heap.size+1) 0)=some (Y cols):=cell_of_row _ _ 0 _ _ _ h.k1
theorem Box2.c1(h:Box2 w p m Am n cm cols A nz c W):W.cell? (zA (w.heap.size+1) 1)=some (zL A nz c):=cell_of_row _ _ 1 _ _ _ h.k1
theorem box2_new(w:Wo)(p m:Int)(Am:OA)(n cm:Nat)(cols:Int)(A:OA)(nz c:Nat):Box2 w p m Am n cm cols A nz c
 ((w.alloc (C2 p m Am n cm)).alloc (C9 cols A nz c)):=by refine⟨((zV.alloc zn _).alloc U2 _),U2,(Below.heap_alloc _ _ _ U2).trans (heap_alloc_new _ _),?_⟩;have:=heap_alloc_new (w.alloc (C2 p m Am n cm)) (C9 cols A nz c);rw[show(w.alloc (C2 p m Am n cm)).heap.size=w.heap.size+1 by simp] at this;exact this
end
def SB2(w:Wo)(p m:Int)(Am:OA)(n cm:Nat)(cols:Int)(A:OA)(nz c:Nat)(wr W:Wo):Prop:=Box2 w p m Am n cm cols A nz c W/\zB wr W
def RelK1(w:Wo)(p m:Int)(Am:OA)(n cm:Nat)(cols:Int)(A:OA)(zs:List LI)(c:Nat)(f:LI->Bool)(v:Value)(wr:Wo):Prop:=
 ∃k:Nat,k<=zs.length/\v=Y k/\(zs.take k).all f=true/\Box2 w p m Am n cm cols A zs.length c wr
theorem rcheck_c(p m:Int)(mod:LI)(Am:OA)(cm:Nat)(cols:Int)(zs:List LI)(A:OA)(c:Nat)(w:Wo)(hM:zI w Am mod)(hl:mod.length<=9223372036854775807)(hA:zR w A zs)(ah:zs.length<=9223372036854775807):
 zC 35 #[C4 p m Am mod.length cm,Cp cols A zs.length c] w fun e w'=>e=.returned (Y (errC p m mod cols zs))/\zB w w':=by
 have S:=zH (box2_new w p m Am mod.length cm cols A zs.length c);have HM:=zH hM;have HA:=zH hA;clear hM hA;go_enter func35,ntmps35;go_upto_region 1 with fail;generalize (w.alloc (C2 p m Am mod.length cm)).alloc (C9 cols A zs.length c)=L at *;have P:=zH S.o.range;have R:=zH (rfcheck_c p m mod Am cm L ((HM.o.keep S.o.below).more S.o.below.size) hl);cases hok:fieldOK p m mod
 . (have K:zK (errC p m mod cols zs=1):=by show _=_;unfold errC;rw[if_neg (by rw[hok];simp)]);rw[hok] at R;have D:zK (zC 21 #[C4 p m Am mod.length cm] L fun e w'=>e=.returned (Y 1)/\zB L w'):=R.o;clear hok R;go_wp2_with (refine wpList_load_mid rfl 24 (.tmp 2) rfl w.heap.size 0 rfl (C5 p m Am mod.length cm) _ P.o underlying24 rfl fieldSize ?_);go_fit D.o;rintro e w1 ⟨rfl,hb1⟩;have g:=zH (S.o.grow hb1);clear hb1;go_wp2;go_ret;exact⟨qaG K.o.symm,g.o.below⟩
 . (have K : zK (errC p m mod cols zs = checkZ (p.toNat ^ m.toNat) cols zs) := by show _ = _;unfold errC;rw [if_pos hok]);(have N:orderM p m=((p.toNat ^ m.toNat:Nat):Int):=by unfold fieldOK at hok;rw [Bool.and_eq_true] at hok;exact (qeQ hok.1).ord);rw [hok] at R;have D:zK (zC 21 #[C4 p m Am mod.length cm] L fun e w'=>e=.returned (Y 0)/\zB L w'):=R.o;have V:=zH N;clear hok R N;generalize p.toNat ^ m.toNat=q at *;go_wp2_with (refine wpList_load_mid rfl 24 (.tmp 2) rfl w.heap.size 0 rfl (C5 p m Am mod.length cm) _ P.o underlying24 rfl fieldSize ?_);go_fit D.o;rintro e w1 ⟨rfl,hb1⟩;have g:=zH (S.o.grow hb1);have M:=g.o.c0;have E:=g.o.c1;clear hb1 S P D;clear L;by_cases h1:cols<0
   . (have l:zK (errC p m mod cols zs=3):=by show _=_;rw[K.o];exact qeC (.inl h1));go_wp2;go_ret;exact⟨qaG l.o.symm,g.o.below⟩
   . by_cases h2 : 256 < cols
     . (have l:zK (errC p m mod cols zs=3):=by show _=_;rw[K.o];exact qeC (.inr (.inl h2)));go_wp2;go_ret;exact⟨qaG l.o.symm,g.o.below⟩
     . by_cases h3 : 256 < zs.length
       . (have l:zK (errC p m mod cols zs=3):=by show _=_;rw[K.o];exact qeC (.inr (.inr h3)));go_wp2;go_ret;exact⟨qaG l.o.symm,g.o.below⟩
       . (have s : ¬ (cols < 0 \/ 256 < cols \/ 256 < zs.length) := by omega);(have Z:zK (zs.all (fun r=>decide ((r.length:Int)=cols))=false->errC p m mod cols zs=3):=fun h=>by rw [K.o];unfold checkZ;rw [if_neg s,if_pos h]);(have ac:zK (zs.all (fun r=>decide ((r.length:Int)=cols))=true->zs.all (elemsB q)=false->errC p m mod cols zs=2):=fun h h'=>by rw [K.o];unfold checkZ;rw [if_neg s,if_neg (by simp [h]),if_pos h']);(have ad:zK (zs.all (fun r=>decide ((r.length:Int)=cols))=true->zs.all (elemsB q)=true->errC p m mod cols zs=0):=fun h h'=>by rw [K.o];unfold checkZ;rw [if_neg s,if_neg (by simp [h]),if_neg (by simp [h'])]);have T:zK (RelK1 w p m Am mod.length cm cols A zs c (fun r=>decide ((r.length:Int)=cols)) (Y ((0:Nat):Int)) w1):=⟨0,Nat.zero_le _,rfl,U2,g.o⟩;clear s;go_wp2_with fail;clear M E;go_loopw [6] (fun v6 wr=>RelK1 w p m Am mod.length cm cols A zs c (fun r=>decide ((r.length:Int)=cols)) v6 wr) (fun v6 _=>zs.length-(intOf v6).toNat);case atStart=>exact T.o
         case round =>
          obtain⟨k,hk,rfl,j,J⟩:=hrel;have d:=zH j;have t:=zH J;have M:=J.c0;have E:=J.c1;clear j J T;by_cases f:k<zs.length
          . obtain ⟨b,o,C,H,rfl,hb,_,_⟩ := (HA.o.keep t.o.below).at_ f;have x:=zH (qbN (fun r:LI=>decide ((r.length:Int)=cols)) zs [] k f);have u:=zH (qbL (fun r:LI=>decide ((r.length:Int)=cols)) zs [] k f);(have y:zK (∀ W,Box2 w p m Am mod.length cm cols (some (zA b o)) zs.length c W->∃ C H,W.cell? (zA b (o+k))=some (zL C (zs.getD k []).length H)):=fun W hW=>by obtain ⟨b',o',C,H,e,_,h,_⟩:=(HA.o.keep hW.below).at_ f;injection e with e;injection e with e1 e2;subst e1 e2;exact ⟨C,H,h⟩);have k0:(0:Int)<=(k:Int):=U0;have k1:(k:Int)<(zs.length:Int):=U0;obtain ⟨C,H,ag⟩:=y.o wr t.o;generalize (zs.getD k []).length=n at *;go_upto_region 9 with fail;clear M E;refine qaD (SDrew wr) U1 U1 ⟨1,rfl⟩ ?_;have M:=t.o.c0;have E:=t.o.c1
            repeat (apply qaJ rfl
                    . intro W z;obtain⟨n',rfl⟩:=z;go_simp;rfl
                    go_simp)
            refine qaE ?_;intro w2 I;obtain⟨n2,rfl⟩:=I;have i:=zH (t.o.grow (qaB zV n2));clear M E ag;by_cases B:(n:Int)=cols
            . (have ae : ((n : Int) != cols) = false:=by rw[B];simp);(have l:zK ((zs.take (k+1)).all (fun r=>decide ((r.length:Int)=cols))=true):=by show _=_;rw[x.o,d.o,B];simp);clear B;go_wp2;go_roundw;case rel=>exact⟨k+1,U0,U3,l.o,i.o⟩
              case measure=>simp[intOf];omega
            . (have ae:((n:Int) != cols)=true:=by rw[bne_iff_ne];exact B);(have l:=zH<|Z.o (u.o (by simp[B])));clear B;go_wp2;go_ret;exact⟨qaG l.o.symm,i.o.below⟩
          . (obtain rfl : k = zs.length := by omega);(have v:zK (zs.all (fun r=>decide ((r.length:Int)=cols))=true):=by have:=d.o;rw [List.take_length] at this;exact this);have U:zK (RelK1 w p m Am mod.length cm cols A zs c (elemsB q) (Y ((0:Nat):Int)) wr):=⟨0,Nat.zero_le _,rfl,U2,t.o⟩;clear d Z;go_wp2_with fail;clear M E;go_loopw [7] (fun v7 wr=>RelK1 w p m Am mod.length cm cols A zs c (elemsB q) v7 wr) (fun v7 _=>zs.length-(intOf v7).toNat);case atStart=>exact U.o
            case round =>
             obtain⟨k,hk,rfl,j,J⟩:=hrel;have d:=zH j;have i:=zH J;have M:=J.c0;have E:=J.c1;clear j J U;by_cases f:k<zs.length
             . obtain ⟨b,o,C,H,rfl,hb,aa,ab⟩ := (HA.o.keep i.o.below).at_ f;have x:=zH (qbN (elemsB q) zs [] k f);have u:=zH (qbL (elemsB q) zs [] k f);(have af:((zs.getD k []).length:Int)=cols:=by simpa using all_at _ zs [] k f v.o);have y:zK (∀ W,Box2 w p m Am mod.length cm cols (some (zA b o)) zs.length c W->zB wr W->W.cell? (zA b (o+k))=some (zL C (zs.getD k []).length H)):=fun W hW hbW=>(hbW.cell (p:=(zA b (o+k))) (by show b < _;have:=i.o.below.size;omega)).trans aa
               have O:zK (∀W,zB wr W->zC 80 #[C4 p m Am mod.length cm,zL C (zs.getD k []).length H] W fun e w'=>e=.returned (Y (errE (elemsB q (zs.getD k []))))/\zB W w'):=fun W hbW=>
                rentries_c p m Am mod.length cm q (zs.getD k []) C H W V.o ((ab.more i.o.below.size).keep hbW |>.more hbW.size) U0
               have k0:(0:Int)<=(k:Int):=U0;have k1:(k:Int)<(zs.length:Int):=U0;clear aa ab af;generalize zs.getD k []=r at *;generalize r.length=n at *;go_upto_region 14 with fail;clear M E;refine qaD (SB2 w p m Am mod.length cm cols (some (zA b o)) zs.length c wr) U1 U1 ⟨i.o.grow zV.drew,zV.drew⟩ ?_
               repeat (first
                | (refine qeP rfl 24 (.tmp 2) rfl w.heap.size 0 rfl (C5 p m Am mod.length cm) _ (fun W hW => hW.1.range) underlying24 rfl fieldSize ?_
                   go_simp)
                | (apply qaJ rfl
                   . intro W z
                     have E:=z.1.c1
                     have yv:=y.o W z.1 z.2
                     go_simp
                     rfl
                   go_simp)
                | (apply qaO rfl
                   . intro W z
                     go_simp
                     exact⟨rfl,rfl⟩
                   . intro W z
                     exact(O.o W z.2).mono fun e w' ⟨Q,hb⟩=>⟨Q,z.1.grow hb,z.2.trans (hb.mono z.2.size)⟩
                   go_simp))
               refine qaE ?_;intro w2 I;have X:=zH I.1;clear I;cases B:elemsB q r
               . (have l:=zH<|ac.o v.o (u.o B));have Q:errE false=2:=rfl;rw[Q];clear B x u y O Q;go_wp2;go_ret;exact⟨qaG l.o.symm,X.o.below⟩
               . (have l : zK ((zs.take (k + 1)).all (elemsB q) = true):=by show _ = _;rw[x.o,d.o,B];rfl);have Q:errE true=0:=rfl;rw[Q];clear B x u y O Q;go_wp2;go_roundw;case rel=>exact⟨k+1,U0,U3,l.o,X.o⟩
                 case measure=>simp[intOf];omega
             . (have l:=zH<|ad.o v.o (by have:=d.o;rw[List.take_of_length_le U0] at this;exact this));go_wp2;go_ret;exact⟨qaG l.o.symm,i.o.below⟩
end Go.Proofs.YtflejelbdlelpaaGreat
namespace Go.Proofs.YtflejelbdlelpaaGreat
open Go.RowKit Pln
theorem PivAt.neR{w:Wo}{base B R f n:Nat}{v:Value}{piv:LN}{rows:LL}{d:List (Nat × Nat)}(i:PivAt w base v piv n d)(h:GridAt w B R f rows d):v.ownBlock≠some R:=by
 intro e;rcases i.1.2 with⟨rfl,_⟩|⟨g,cap,cur,rfl,_,b,_⟩
 . cases e
 . (have:g=R:=by simpa[Value.ownBlock] using e);subst this;obtain⟨c1,c⟩:=qdE h.out;rw[c] at b;injection b with b;injection b with _ ht;exact absurd ht dc
theorem GridAt.same{w:Wo}{B R g:Nat}{rows:LL}{f:List (Nat × Nat)}(h:GridAt w B R g rows f){i:Nat}(_:i<rows.length):GridAt (w.setCell (zA R i) (hdr rows f i)) B R g rows f:=by
 refine ⟨h.len,?_,fun j hj=>(h.row j hj).far (p:=(zA R i)) (h.ne (h.row j hj)) _,h.nd⟩;have:=(World.ownsRow.stored h.out i (hdr rows f i)).1;have e:(hdrs rows f).set i (hdr rows f i)=hdrs rows f:=by
  apply List.ext_getElem
  . simp
  . intro j c d;rw[List.getElem_set];by_cases b:i=j
    . subst b;rw[if_pos rfl];simp[hdrs]
    . rw[if_neg b]
 rw[e] at this;exact this
def ES(w:Wo)(p m:Nat)(A:OA)(n cA R cR:Nat)(rows:LL)(N:Nat)(v9:Value)(piv:LN)(bs:List (Nat × Nat))(wr:Wo):Prop:=
 SBoxF w p m A n cA wr/\GridAt wr (w.heap.size+1) R cR rows bs/\PivAt wr (w.heap.size+1) v9 piv N bs/\rows.length=N
section
variable {w:Wo} {p m:Nat} {A:OA} {n cA R cR:Nat} {rows:LL} {N:Nat} {v9:Value} {piv:LN} {bs:List (Nat × Nat)} {wr wx:Wo}
theorem ES.grow(h:ES w p m A n cA R cR rows N v9 piv bs wr)(g:zB wr wx):ES w p m A n cA R cR rows N v9 piv bs wx:=by obtain⟨b,c,d,f⟩:=h;exact⟨b.grow g,c.grow g,d.grow g,f⟩
theorem ES.hd(h:ES w p m A n cA R cR rows N v9 piv bs wr){q cols:Nat}(c:Grid q N cols rows){i:Nat}(b:i<N):wr.cell? (zA R i)=some (zS (bk bs i) cols (cp bs i)):=by have:=h.2.1.cell (i:=i) (by rw[h.2.2.2];exact b);rw[(c.row b).1] at this;exact this
theorem ES.en(h:ES w p m A n cA R cR rows N v9 piv bs wr){q cols:Nat}(g:Grid q N cols rows){i c:Nat}(d:i<N)(f:c<cols):wr.cell? (zA (bk bs i) c)=some (Y ((at2 rows i c:Nat):Int)):=by have b:=h.2.1.row i (by rw[h.2.2.2];exact d);have:=b.cell (j:=c) (by rw[qaA,(g.row d).1];exact f);rw[qaC] at this;exact this
theorem ES.ints(h:ES w p m A n cA R cR rows N v9 piv bs wr){i:Nat}(c:i<N):zI wr (zO (bk bs i)) (nz (rows.getD i [])):=by have b:=h.2.1.row i (by rw[h.2.2.2];exact c);exact b.ints b.lt.2
theorem ES.swap(h:ES w p m A n cA R cR rows N v9 piv bs wr){i j:Nat}(r:i<N)(s:j<N):∃ bs',ES w p m A n cA R cR (swapRows rows i j) N v9 piv bs' ((wr.setCell (zA R i) (hdr rows bs j)).setCell (zA R j) (hdr rows bs i)):=by
 obtain⟨o,f,d,l⟩:=h;have k:=f.lt.1;have c:=d.neR f;by_cases g:i=j
 . subst g;refine⟨bs,(o.wrote k _).wrote k _,?_,?_,by rw[swap_len,l]⟩
   . rw[swap_self rows i U0];exact(f.same U0).same U0
   . exact(d.grown (qeR wr (zA R i) _) c d.2).grown (qeR _ (zA R i) _) c d.2
 . have q:=bk_swap (n:=N) (by rw[f.len,l]) r s (fun b=>v9.ownBlock≠some b) d.2;refine⟨SwapBs bs i j,(o.wrote k _).wrote k _,f.swap U0 U0 g,?_,by rw[swap_len,l]⟩;exact(d.grown (qeR wr (zA R i) _) c d.2).grown (qeR _ (zA R j) _) c q
theorem ES.put(h:ES w p m A n cA R cR rows N v9 piv bs wr)(u:zB wr wx){i:Nat}(v:i<N){g c:Nat}{r:LN}(t:Row wx wr.heap.size g c (nz r)):ES w p m A n cA R cR (rows.set i r) N v9 piv (bs.set i (g,c)) (wx.setCell (zA R i) (zS g r.length c)):=by have s:=h.grow u;obtain⟨l,d,f,k⟩:=s;have q:w.heap.size+1<=wr.heap.size:=h.1.2.1;have o:=t.lt.1;refine⟨l.wrote d.lt.1 _,d.put U0 (t.base (B':=w.heap.size+1) U0) (fun j hj=>by have:=(h.2.1.row j hj).lt.2;omega),?_,by rw[List.length_set,k]⟩;refine f.grown (qeR wx (zA R i) _) (f.neR d) (bk_set (n:=N) (by rw[d.len,k]) v (fun b=>v9.ownBlock≠some b) ?_ f.2);intro e;have:=(h.2.2.1.1.lt g e).2;omega
end
theorem ES.push{w:Wo}{p m:Nat}{A:OA}{n cA R cR:Nat}{rows:LL}{N:Nat}{v9:Value}{piv:LN}{bs:List (Nat × Nat)}{wr H:Wo}(h:ES w p m A n cA R cR rows N v9 piv bs wr){c:Nat}{I:Value}{o:Obj}(E:H.ownsRow (w.heap.size+1) 3 1 I (piv.length+1) ((nz piv).map (Value.int .i64)++[Y (c:Int)]))(D:(wr.alloc o).grownBy H v9.ownBlock)(J:I.ownBlock=v9.ownBlock\/I.ownBlock=some (wr.heap.size+1)):∃(VA':OA)(Vk':Nat),I=zL VA' (piv++[c]).length Vk'/\ES w p m A n cA R cR rows N (zL VA' (piv++[c]).length Vk') (piv++[c]) bs H:=by
 have B:=h.grow (zV.alloc zn o);have d:=fun g e=>(h.2.2.1.1.lt g e).1;obtain⟨b,u,l,z⟩:=B;have s:=l.neR u;have q:Below w.heap.size (wr.alloc o) H:=⟨D.os,D.tape,D.output,D.size,fun k hk=>D.block k (by have:=b.2.1;omega) (fun e=>by have:=d k e.symm;omega)⟩;have C:SBoxF w p m A n cA H:=⟨b.1.trans q,Nat.lt_of_lt_of_le b.2.1 D.size,(D.block w.heap.size b.2.1 (fun e=>by have:=d _ e.symm;omega)).trans b.2.2⟩;have r:=u.kept D s (fun i hi=>l.2 i U0);have f:(piv++[c]).length=piv.length+1:=U2;have y:(nz (piv++[c])).map (Value.int .i64)=(nz piv).map (Value.int .i64)++[Y (c:Int)]:=by simp[nz]
 obtain⟨v,x,rfl,_⟩:=own_slice' E;refine⟨v,x,by rw[f],C,r,⟨by rw[f,y];exact E,fun j hj=>?_⟩,z⟩;rw[f];rcases J with e|e
 . rw[e];exact l.2 j hj
 . rw[e];intro t;injection t with t;have:=(h.2.1.row j (by rw[h.2.2.2];exact hj)).lt.2;omega
theorem hdr_eq{q N cols:Nat}{rows:LL}(b:Grid q N cols rows)(bs:List (Nat × Nat)){i:Nat}(c:i<N):hdr rows bs i=zS (bk bs i) cols (cp bs i):=by unfold hdr;rw[(b.row c).1]
end Go.Proofs.YtflejelbdlelpaaGreat
