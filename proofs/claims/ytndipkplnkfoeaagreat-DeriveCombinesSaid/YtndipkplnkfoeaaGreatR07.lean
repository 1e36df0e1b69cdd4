/- Parts of the proof. -/
import Derived.Test.YtndipkplnkfoeaaGreatR06
set_option maxRecDepth 100000
set_option maxHeartbeats 8000000
namespace Go.Proofs.YtndipkplnkfoeaaGreat
open Go.RowKit Pln
structure FormIs (d:StD):Prop where
 field:fieldOK d.p d.m d.mod=true
 n1:1<=d.n
 n2:d.n<=64
 rows:nzs (natR d.gen)=d.gen
 grid:Grid (d.p.toNat^d.m.toNat) (natR d.gen).length d.n.toNat (natR d.gen)
 len:d.gen.length<=256
 low1:1<=d.low
 low2:d.low<=d.n+1
theorem form_is{d:StD}(h:formZ d=0):FormIs d:=by
 unfold formZ at h;split at h
 . rename_i hz;exact absurd h hz
 . rename_i hz;have g:codeZ d.p d.m d.mod d.n d.gen=0:=Classical.byContradiction hz;obtain ⟨i,b,c⟩:=codeZ_n g;have j:1<=d.n/\d.n<=64:=by
    unfold lengthZ at b;split at b
    . cases b
    . omega
   have f:errC d.p d.m d.mod d.n d.gen=0:=by
    unfold spZ at c;split at c
    . rename_i he;exact absurd c he
    . rename_i he;exact Classical.byContradiction he
   unfold errC at f;rw[if_pos i] at f;obtain⟨k,l,q,r,o⟩:=check_grid f;split at h
   . cases h
   . rename_i hl;exact⟨i,j.1,j.2,k,l,o,U0,U0⟩
theorem premises_1(w:World):zC 16 #[Y 1] w fun e w'=>e=.returned (Y 0)/\w=w':=by go_enter Tryz.func16,Tryz.ntmps16;go_wp2_with fail;go_ret;exact⟨rfl,rfl⟩
theorem premises_15(w:World):zC 16 #[Y 15] w fun e w'=>e=.returned (Y 0)/\w=w':=by go_enter Tryz.func16,Tryz.ntmps16;go_wp2_with fail;go_ret;exact⟨rfl,rfl⟩
structure OB (w:World) (n:Int) (rows:List (List Nat)) (k:Nat) (v:Value) (bs:List (Nat × Nat)) (W:World):Prop where
 below:Below w.heap.size w W
 size:w.heap.size<W.heap.size
 box:W.heap[w.heap.size]?=some (.cells [Y n,v].toArray 54 (0,0))
 grid:LGrid W (w.heap.size+1) v rows bs k
section
variable {w:World} {n:Int} {rows:List (List Nat)} {k:Nat} {v:Value} {bs:List (Nat × Nat)} {W W':World}
theorem LGrid.grow{B:Nat}(h:LGrid W B v rows bs k)(b:Below W.heap.size W W'):LGrid W' B v rows bs k:=by refine⟨h.len,h.le,?_,fun i hi=>(h.row i hi).below b (h.row i hi).lt.2,h.apart⟩;exact h.out.kept (row:=none) ⟨b.os,b.tape,b.output,b.size,fun j hj _=>b.block j hj⟩ (by cases v.ownBlock<;>simp)
end
def MatPost(w:World)(n:Int)(rows:List (List Nat))(e:Ending)(w':World):Prop:=
 (∃(A':Option Addr)(c':Nat),e=.returned (.tuple #[Cy n A' rows.length c',Y 0])/\RowsUp w' w.heap.size A' (nzs rows))/\Below w.heap.size w w'
theorem madd2_c(a gb p m Bg B gv cv cu:Nat)(Au:Option Addr)(md l v u:List Nat)(w:World)(hF:FT p m md l)(hG:GFAt w Bg gb p m l (logL l (p ^ m)))(ac:Bg<=gv)(ha:a<p ^ m)(hv:∀ x∈v,x<p ^ m)(hu:∀ x∈u,x<p ^ m)(ab:Row w B gv cv (nz v))(ad:IntsAt w gv Au (nz u))(aa:v.length=u.length)(hl:v.length<=1000):
 zC 233 #[zP gb,zS gv v.length cv,Y a,zL Au v.length cu] w fun e w'=>e=.returned (.tuple #[])/\Row w' B gv cv (nz (addRow (opsT p m l) v a u))/\w.grownBy w' (some gv):=by
 have g:=ab.lt.2
 have P:Hid (∀x W,x<p^m->w.grownBy W (some gv)->zC 142 (Cn gb a x) W (Quiet (Y (((opsT p m l).mul a x:Nat):Int)) W)):=
  fun x W hx hb=>mul_c a x gb p m Bg md l W hF (hG.keep ((qbB hb (Nat.le_of_lt g)).mono ac)) ha hx
 have Q:Hid (∀x y W,x<p^m->y<p^m->w.grownBy W (some gv)->zC 143 (Cn gb x y) W (Quiet (Y (((opsT p m l).add x y:Nat):Int)) W)):=
  fun x y W hx hy hb=>add_c x y gb p m Bg l _ W hF.small (hG.keep ((qbB hb (Nat.le_of_lt g)).mono ac)) hx hy
 have E:Hid (∀x,x<p^m->(opsT p m l).mul a x<p^m):=fun x hx=>mulT_lt hF ha hx;have U:Hid (∀k,k<v.length->v.getD k 0<p^m):=fun k t=>by
  have:v.getD k 0=v[k]:=by simp[List.getD,t]
  rw[this];exact hv _ (List.getElem_mem t)
 have T:Hid (∀k,k<v.length->u.getD k 0<p^m):=fun k t=>by
  have A:k<u.length:=U0;have:u.getD k 0=u[k]:=by simp[List.getD,A]
  rw[this];exact hu _ (List.getElem_mem A)
 have I:=zH ad;have M:Hid (RelAd w B gv cv (opsT p m l) v a u (Y ((0:Nat):Int)) w):=⟨0,U0,rfl,by simpa[adK,addRow] using ab,World.grownBy.refl _ _⟩;have b:=zH aa;clear hF hG hv hu ab ad aa;generalize opsT p m l=O at *;generalize p^m=q at *;go_enter Tryz.func233,Tryz.ntmps233;go_wp2_with fail;go_loopw [12] (fun v12 wr=>RelAd w B gv cv O v a u v12 wr) (fun v12 _=>v.length-(intOf v12).toNat);case atStart=>exact M.out
 case round =>
  obtain⟨k,t,rfl,h,s⟩:=hrel;have j:=zH h;have i:=zH s;clear h s M;by_cases d:k<v.length
  . obtain ⟨Z,ou,rfl,V,N⟩ := (I.out.keep (qbB i.out (Nat.le_of_lt g))).at_ (k := k) (by rw [qaA,<- b.out];exact d);rw [qaC] at N;(have y1:wr.cell? (zA gv k)=some (Y ((v.getD k 0:Nat):Int)):=by rw [<- adK_at O v a u k b.out d,<- qaC];exact j.out.cell (by rw [qaA,adK_len O v a u k b.out t];exact d));have f1:=j.out.frozen k;have f:=zH (adK_set O v a u k b.out d);have c:=zH (adK_skip O v a u k b.out d);have C:=T.out k d;have K:=U.out k d;have k0:(0:Int)<=(k:Int):=U0;have k1:(k:Int)<(v.length:Int):=U0;by_cases o:u.getD k 0=0
    . have R:=zH (c.out o);rw[o] at N;clear f c o;go_wp2_with fail;go_roundw;case rel=>exact⟨k+1,U0,gn,by rw[R.out];exact j.out,i.out⟩
      case measure=>exact mE
    . rw [if_neg o] at f;clear c;generalize u.getD k 0=x at *;generalize v.getD k 0=y at *;(have X:((x:Int) != 0)=true:=by simpa using o);have L:¬ (x:Int)=0:=U0;(have S:Hid (∀ W,SDrew wr W->zC 142 (Cn gb a x) W fun e w'=>e=.returned (Y ((O.mul a x:Nat):Int))/\SDrew wr w'):=fun W ⟨n,hW⟩=>by subst hW;refine (P.out x _ C (grown_trans i.out (grown_drewN wr n _))).mono ?_;rintro e w' ⟨he,k,rfl⟩;exact ⟨he,n+k,U9⟩);have H:=E.out x C;(have D:Hid (∀ W,SDrew wr W->zC 143 (Cn gb y ((O.mul a x:Nat):Int)) W fun e w'=>e=.returned (Y ((O.add y (O.mul a x):Nat):Int))/\SDrew wr w'):=fun W ⟨n,hW⟩=>by subst hW;refine (Q.out y _ _ K H (grown_trans i.out (grown_drewN wr n _))).mono ?_;rintro e w' ⟨he,k,rfl⟩;exact ⟨he,n+k,U9⟩);clear L;go_upto_region 4 with fail;refine qaI 13 (SDrew wr) U1 U1 ⟨1,rfl⟩ ?_;simp only [List.take_succ_cons,List.take_zero,List.drop_succ_cons,List.drop_zero]
      repeat (first
       | (apply qaJ rfl
          . intro W r
            obtain⟨n,rfl⟩:=r
            go_simp
            rfl
          go_simp)
       | (apply qaO rfl
          . intro W r
            go_simp
            exact⟨rfl,rfl⟩
          . intro W r
            first
             |exact S.out W r
             |exact D.out W r
          go_simp))
      refine qaE ?_;intro w2 J;obtain⟨n,rfl⟩:=J;generalize O.add y (O.mul a x)=z at *;go_wp2_with fail;go_roundw;case rel=>refine⟨k+1,U0,gn,?_,grown_trans (grown_trans i.out (grown_drewN wr n _)) (grown_set _ (zA gv k) _)⟩;rw[<- f.out,<- qbC];exact Row.set (w:=wr.drewN n) j.out k _
      case measure=>exact mE
  . (obtain rfl:k=v.length:=by omega);go_wp2_with fail;go_end0;refine⟨rfl,?_,i.out⟩;rw[<- adK_end O v a u b.out];exact j.out
def vecM(O:Ops)(x:List Nat)(rows:List (List Nat))(cols:Nat):Nat->List Nat
 |0=>List.replicate cols 0
 |k+1=>if x.getD k 0=0 then vecM O x rows cols k else addRow O (vecM O x rows cols k) (x.getD k 0) (rows.getD k [])
theorem vecM_mem{q n c:Nat}{O:Ops}(E:OpsEq q O O){x:List Nat}{rows:List (List Nat)}(f:∀ k,k<n->x.getD k 0<q)(d:Grid q n c rows)(g:0<q):∀ k,k<=n->(vecM O x rows c k).length=c/\∀ y∈vecM O x rows c k,y<q
 |0,_=>⟨by simp[vecM],fun y hy=>by simp[vecM] at hy;omega⟩
 | k + 1,hk => by
   obtain⟨i1,i2⟩:=vecM_mem E f d g k U0
   unfold vecM
   split
   . exact⟨i1,i2⟩
   . have b:=d.row (i:=k) U0
     exact⟨by rw[qbU _ _ _ _ (by rw[i1,b.1]),i1],(qdB E (f k U0) i2 b.2).2⟩
def RelVec(w:World)(O:Ops)(x:List Nat)(rows:List (List Nat))(cols:Nat)(v16:Value)(wr:World):Prop:=
 ∃k:Nat,k<=x.length/\v16=Y k/\Row wr w.heap.size w.heap.size cols (nz (vecM O x rows cols k))/\Below w.heap.size w wr
theorem vec_c(gb Bg p m ag:Nat)(md l x:List Nat)(rows:List (List Nat))(Ax:Option Addr)(cx:Nat)(A:Option Addr)(c:Nat)(w:World)(hF:FT p m md l)(hG:GFAt w Bg gb p m l (logL l (p ^ m)))(ai:Bg<=w.heap.size)(hX:IntsAt w w.heap.size Ax (nz x))(hA:RowsAt w w.heap.size A (nzs rows))(aj:x.length=rows.length)(hx:∀ k,k<x.length->x.getD k 0<p ^ m)(ah:Grid (p ^ m) rows.length ag rows)(hc:ag<=256)(hn:rows.length<=256):
 zC 198 #[zP gb,zL Ax x.length cx,zL A rows.length c,Y ag] w fun e w'=>e=.returned (zS w.heap.size ag ag)/\Row w' w.heap.size w.heap.size ag (nz (vecM (opsT p m l) x rows ag x.length))/\Below w.heap.size w w':=by
 obtain⟨i0,R,M,N,P⟩:=qaF infoInt;have HI:=zH R;have ab:=zH M;have ac:=zH N;have U:=zH (show i0.bytes*ag<=281474976710656 by rw[P];omega);have V:=zH (show ag<=maxLen by unfold maxLen;omega);have L:0<p^m:=Nat.pow_pos (by have:=hF.small.p1;omega);have Z:=zH (vecM_mem (qdA hF) (x:=x) (fun k hk=>hx k U0) ah L);have D:Hid (∀k,k<x.length->(rows.getD k []).length=ag/\∀y∈rows.getD k [],y<p^m):=fun k hk=>ah.row (i:=k) U0;have HX:=zH hX;have HA:=zH hA;have aa:=zH hx;have S:Hid (∀(W:World)(a:Nat)(v u:List Nat)(Au:Option Addr)(cu:Nat),Below w.heap.size w W->a<p^m->(∀z∈v,z<p^m)->(∀z∈u,z<p^m)->Row W w.heap.size w.heap.size ag (nz v)->IntsAt W w.heap.size Au (nz u)->v.length=ag->u.length=ag->zC 233 #[zP gb,zS w.heap.size ag ag,Y (a:Int),zL Au ag cu] W fun e w'=>e=.returned (.tuple #[])/\Row w' w.heap.size w.heap.size ag (nz (addRow (opsT p m l) v a u))/\W.grownBy w' (some w.heap.size)):=fun W a v u Au cu hW ha hv hu hr R hvl hul=>by have:=madd2_c a gb p m Bg w.heap.size w.heap.size ag cu Au md l v u W hF (hG.keep (hW.mono ai)) ai ha hv hu hr R (by rw[hvl,hul]) U0;rw[hvl] at this;exact this
 have HK:Hid (∀k,vecM (opsT p m l) x rows ag (k+1)=if x.getD k 0=0 then vecM (opsT p m l) x rows ag k else addRow (opsT p m l) (vecM (opsT p m l) x rows ag k) (x.getD k 0) (rows.getD k [])):=fun k=>rfl;have E:Hid (∀W,Row W w.heap.size w.heap.size ag (nz (List.replicate ag 0))->Row W w.heap.size w.heap.size ag (nz (vecM (opsT p m l) x rows ag 0))):=fun W h=>h;clear R M N P hX hA hF hG hx ah L;generalize opsT p m l=O at *;generalize p^m=q at *;go_enter Tryz.func198,Tryz.ntmps198;go_wp2_with (refine wpList_make_full w rfl (.tmp 12) (.tmp 12) 23 rfl w.heap.size 3 i0 (Y 0) 1 Tryz.underlying23 HI.out ab.out ac.out .i64 .i64 ag ag ag rfl rfl rfl rfl U.out V.out (Nat.le_refl _) ?_;intro w1 j g);have HS:Hid (RelVec w O x rows ag (Y ((0:Nat):Int)) w1):=⟨0,U0,rfl,E.out _ (by have:=Row.of_make j;exact this),qaL g⟩;clear j g E;go_loopw [16] (fun v16 wr=>RelVec w O x rows ag v16 wr) (fun v16 _=>x.length-(intOf v16).toNat);case atStart=>exact HS.out
 case round =>
  obtain⟨k,hk,rfl,n,hb⟩:=hrel;have Q:=zH n;have t:=zH hb;clear n hb HS;by_cases f:k<x.length
  . obtain ⟨b,o,rfl,ae,K⟩ := (HX.out.keep t.out).at_ (k := k) (by rw [qaA];exact f);rw [qaC] at K;obtain ⟨ba,oa,Ai,ci,rfl,ad,J,r⟩:=(HA.out.keep t.out).at_ (i:=k) (by rw [nzs_len];omega);rw [nzs_getD] at J r;rw [qaA,(D.out k f).1] at J;have s:=aa.out k f;have d:=zH (HK.out k);have H:=zH (Z.out k U0);have C:=zH (D.out k f);have T:=zH r;have k0:(0:Int)<=(k:Int):=U0;have k1:(k:Int)<(x.length:Int):=U0;have k2:(k:Int)<(rows.length:Int):=U0;clear r;by_cases I:x.getD k 0=0
    . rw[if_pos I] at d;rw[I] at K;clear I s;go_wp2_with fail;go_roundw;case rel=>exact⟨k+1,U0,gn,by rw[d.out];exact Q.out,t.out⟩
      case measure=>exact mE
    . rw[if_neg I] at d;(have af:(((x.getD k 0:Nat):Int) != 0)=true:=by rw[bne_iff_ne];omega);have HC:=zH (S.out wr (x.getD k 0) _ _ Ai ci t.out s H.out.2 C.out.2 Q.out T.out H.out.1 C.out.1);clear I s;generalize x.getD k 0=a at *;go_wp2_with fail;(with_reducible refine HC.out.mono ?_);rintro e w2 ⟨rfl,hr2,hg2⟩;have X:=zH hr2;have B:Hid (Below w.heap.size w w2):=t.out.trans (qbB hg2 (Nat.le_of_lt Q.out.lt.2));clear hr2 hg2;go_wp2_with fail;go_roundw;case rel=>exact⟨k+1,U0,gn,by rw[d.out];exact X.out,B.out⟩
      case measure=>exact mE
  . (obtain rfl:k=x.length:=by omega);go_wp2_with fail;go_ret;exact⟨rfl,Q.out,t.out⟩
theorem natR_nzs(rows:List (List Nat)):natR (nzs rows)=rows:=by
 unfold natR nzs nz;rw[List.map_map];conv=>rhs;rw[<- List.map_id rows]
 apply List.map_congr_left;intro r _;show(r.map fun x:Nat=>(x:Int)).map Int.toNat=id r;rw[List.map_map];conv=>rhs;rw[id,<- List.map_id r]
 apply List.map_congr_left;intro x _;simp
theorem errC_grid{p m:Int}{mod:List Int}{j:Int}{rows:List (List Nat)}(h:errC p m mod j (nzs rows)=0):fieldOK p m mod=true/\checkZ (p.toNat^m.toNat) j (nzs rows)=0/\Grid (p.toNat^m.toNat) rows.length j.toNat rows/\0<=j/\j<=256/\rows.length<=256:=by
 obtain⟨b,f⟩:fieldOK p m mod=true/\checkZ (p.toNat^m.toNat) j (nzs rows)=0:=by
  unfold errC at h;split at h
  . exact⟨am,h⟩
  . simp at h
 obtain⟨_,c,g,i,d⟩:=check_grid f;rw[natR_nzs] at c;rw[nzs_len] at d;exact⟨b,f,c,g,i,d⟩
structure BoxH2 (w:World) (f a b r:Array Value) (W:World):Prop where
 below:Below w.heap.size w W
 size:w.heap.size+3<W.heap.size
 k1:W.heap[w.heap.size+1]?=some (.cells a 54 (0,0))
 k2:W.heap[w.heap.size+1+1]?=some (.cells b 54 (0,0))
 k3:W.heap[w.heap.size+1+1+1]?=some (.cells r 54 (0,0))
section
variable {w:World} {f a b r:Array Value} {W W':World}
theorem alloc_at{w:World}{n:Nat}(h:w.heap.size=n)(o:Obj):(w.alloc o).heap[n]?=some o:=by subst h;exact heap_alloc_new _ _
end
def LSt(w0 W:World):Prop:=Below w0.heap.size w0 W
end Go.Proofs.YtndipkplnkfoeaaGreat
