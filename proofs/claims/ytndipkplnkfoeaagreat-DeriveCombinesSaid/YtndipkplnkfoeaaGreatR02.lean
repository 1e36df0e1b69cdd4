/- Parts of the proof. -/
import Derived.Test.YtndipkplnkfoeaaGreatR01
set_option maxRecDepth 100000
set_option maxHeartbeats 8000000
namespace Go.Proofs.YtndipkplnkfoeaaGreat
open Go.RowKit Pln
def SwapBs(bs:List (Nat × Nat))(i j:Nat):List (Nat × Nat):=(bs.set i (bs.getD j (0,0))).set j (bs.getD i (0,0))
theorem GridAt.swap{w:World}{B R A:Nat}{rows:List (List Nat)}{x:List (Nat × Nat)}(h:GridAt w B R A rows x){i j:Nat}(y:i<rows.length)(z:j<rows.length)(C:i≠j):
 GridAt ((w.setCell (zA R i) (hdr rows x j)).setCell (zA R j) (hdr rows x i)) B R A (swapRows rows i j) (SwapBs x i j):=by
 have u:=h.len;have n:∀k,k<rows.length->(SwapBs x i j).getD k (0,0)=if k=j then x.getD i (0,0) else if k=i then x.getD j (0,0) else x.getD k (0,0):=fun k _=>by unfold SwapBs;rw[getD_set _ _ _ _ _ so,getD_set _ _ _ _ _ U0]
 have q:∀k,k<rows.length->(swapRows rows i j).getD k []=if k=j then rows.getD i [] else if k=i then rows.getD j [] else rows.getD k []:=fun k _=>by unfold swapRows;rw[getD_set _ _ _ _ _ so,getD_set _ _ _ _ _ U0]
 have d:(swapRows rows i j).length=rows.length:=by simp[swapRows]
 have s:hdrs (swapRows rows i j) (SwapBs x i j)=((hdrs rows x).set i (hdr rows x j)).set j (hdr rows x i):=by
  apply List.ext_getElem
  . simp[hdrs,d]
  . intro k t v;(have b:k<rows.length:=by simpa [hdrs,d] using t);rw [List.getElem_set,List.getElem_set];simp only [hdrs,List.getElem_map,List.getElem_range,hdr,bk,cp,n k b,q k b];by_cases f:k=j
    . subst f;simp
    . have l : ¬j = k:=fun e=>f e.symm;by_cases g:k=i
      . simp only[if_neg f,if_neg l,if_pos g,if_pos g.symm]
      . have o:¬i=k:=fun e=>g e.symm;simp only[if_neg f,if_neg l,if_neg g,if_neg o]
 have c:∀k,k<rows.length->Row ((w.setCell (zA R i) (hdr rows x j)).setCell (zA R j) (hdr rows x i)) B (bk x k) (cp x k) (nz (rows.getD k [])):=fun k b=>
  ((h.row k b).far (p:=(zA R i)) (h.ne (h.row k b)) _).far (p:=(zA R j)) (h.ne (h.row k b)) _
 refine⟨by simp[SwapBs,u,d],?_,fun k b=>?_,fun k k' b hk' hkk=>?_⟩
 . rw[s,d];exact(World.ownsRow.stored (World.ownsRow.stored h.out i _).1 j _).1
 . rw [d] at b;unfold bk cp;rw [n k b,q k b];by_cases f:k=j
   . rw[if_pos f,if_pos f];exact c i y
   . rw[if_neg f,if_neg f];by_cases g:k=i
     . rw[if_pos g,if_pos g];exact c j z
     . rw[if_neg g,if_neg g];exact c k b
 . rw [d] at b hk';have m:=h.nd;unfold bk at m ⊢;have r:∀ k,k<rows.length->(SwapBs x i j).getD k (0,0)=x.getD (if k=j then i else if k=i then j else k) (0,0):=fun k b=>by
    rw[n k b];split
    . rfl
    . split<;>rfl
   rw[r k b,r k' hk'];refine m _ _ ?_ ?_ ?_
   . split
     . exact y
     . split
       . exact z
       . exact b
   . split
     . exact y
     . split
       . exact z
       . exact hk'
   . (repeat' split);all_goals omega
theorem hdr_at{w:World}{B R c:Nat}{rows:List (List Nat)}{b:List (Nat × Nat)}(h:GridAt w B R c rows b){i:Nat}(d:i<rows.length):w.cell? (zA R i)=some (hdr rows b i):=h.cell d
theorem swap_c(B R K i j I J:Nat)(rows:List (List Nat))(E:List (Nat × Nat))(w:World)(H:GridAt w B R K rows E)(N:i<rows.length)(O:j<rows.length)(D:i≠j)(_:rows.length<=1000000)(Q:w.cell? (zA I 0)=some (Y i))(S:w.cell? (zA J 0)=some (Y j))(L:I≠R)(M:J≠R):
 zC 252 #[zS R rows.length K,zP J,zP I] w fun e w'=>e=.returned (.tuple #[])/\GridAt w' B R K (swapRows rows i j) (SwapBs E i j)/\w.grownBy w' (some R):=by have d:=zH (H.swap N O D);have b:Hid (w.grownBy ((w.setCell (zA R i) (hdr rows E j)).setCell (zA R j) (hdr rows E i)) (some R)):=grown_trans (grown_set w (zA R i) _) (grown_set _ (zA R j) _);have k:=hdr_at H N;have l:=hdr_at H O;have s:=H.frozen i;have t:=H.frozen j;have u:(0:Int)<=(i:Int):=U0;have v:(i:Int)<(rows.length:Int):=U0;have x:(0:Int)<=(j:Int):=U0;have y:(j:Int)<(rows.length:Int):=U0;have h:=zH D;clear H;obtain⟨q,z,c1,f⟩:∃A n c,hdr rows E i=zL A n c:=⟨_,_,_,rfl⟩;obtain⟨r,C,c2,g⟩:∃A n c,hdr rows E j=zL A n c:=⟨_,_,_,rfl⟩;rw[f,g] at d b;rw[f] at k;rw[g] at l;clear f g;go_enter Tryz.func252,Tryz.ntmps252;have p:j≠i:=fun e=>D e.symm;have m:R≠I:=fun e=>L e.symm;have o:R≠J:=fun e=>M e.symm;go_region;all_goals (go_end0;exact⟨rfl,d.out.drewN 1,grown_trans b.out (grown_drewN _ 1 _)⟩)
theorem scrow_c(B R cR i X bi W Z p m a:Nat)(md l:List Nat)(rows:List (List Nat))(Q:List (Nat × Nat))(w:World)(hF:FT p m md l)(hG:GFAt w w.heap.size Z p m l (logL l (p^m)))(S:GridAt w B R cR rows Q)(hi:i<rows.length)(_:rows.length<=1000000)(ha:a<p^m)(hv:∀x∈rows.getD i [],x<p^m)(aa:(rows.getD i []).length<=1000)(hB:B<=w.heap.size)(U:w.cell? (zA X 0)=some (zP Z))(V:w.cell? (zA bi 0)=some (Y a))(T:w.cell? (zA W 0)=some (Y i)):
 zC 253 #[zS R rows.length cR,zP X,zP bi,zP W] w fun e w'=>e=.returned (.tuple #[])/\GridAt w' B R cR (rows.set i (scaleRow (opsT p m l) a (rows.getD i []))) (Q.set i (w.heap.size,(rows.getD i []).length))/\w.grownBy w' (some R):=by
 have c:=S.row i hi;have q:=zH (scale_c a Z p m md l (rows.getD i []) (zO (bk Q i)) (cp Q i) w.drew hF (show GFAt w.drew w.drew.heap.size Z p m l (logL l (p^m)) from hG) ha hv (show IntsAt w.drew w.drew.heap.size (zO (bk Q i)) (nz (rows.getD i [])) from c.ints c.lt.2) aa);have E:=S.cell hi;have C:=zH S;have J:(0:Int)<=(i:Int):=U0;have K:(i:Int)<(rows.length:Int):=U0;have t:X<w.heap.size:=World.block_lt_of_cell? w _ U;have u:bi<w.heap.size:=World.block_lt_of_cell? w _ V;have s:W<w.heap.size:=World.block_lt_of_cell? w _ T;have f:=S.lt.2;have h:Hid (w.frozen? (zA R i)=false):=S.frozen i;have o:Hid ((scaleRow (opsT p m l) a (rows.getD i [])).length=(rows.getD i []).length):=by show _=_;simp[scaleRow]
 clear S c hF hG hv;generalize A:scaleRow (opsT p m l) a (rows.getD i [])=D at *;clear A;generalize (rows.getD i []).length=n at *;generalize bk Q i=I at *;generalize cp Q i=H at *;go_enter Tryz.func253,Tryz.ntmps253;have v:=h.out;go_region_law (go_simp;(with_reducible refine q.out.mono ?_);rintro e g ⟨rfl,hr1,hb1⟩;have L:=(hb1.cell (p:=(zA X 0)) t).trans U;have M:=(hb1.cell (p:=(zA bi 0)) u).trans V;have N:=(hb1.cell (p:=(zA W 0)) s).trans T;have O:=(hb1.cell (p:=(zA R i)) f).trans E;have P:=(hb1.frozen (p:=(zA R i)) f).trans v)
 all_goals
  have b:Below w.heap.size w g:=⟨hb1.os,hb1.tape,hb1.output,hb1.size,hb1.block⟩
  have z:Row g w.heap.size w.heap.size n (nz D):=hr1
  have d:=(C.out.grow b).put hi (r:=D) (z.base (B':=B) hB) (fun j hj=>by have:=(C.out.row j hj).lt.2;omega)
  rw[o.out] at d
  have y:w.grownBy (g.setCell (zA R i) (zS w.heap.size n n)) (some R):=grown_trans ⟨b.os,b.tape,b.output,b.size,fun k hk _=>b.block k hk⟩ (grown_set g (zA R i) _)
  go_end0
  exact⟨rfl,d,y⟩
theorem clrow_c(B R Z i t bg bi bx ba T V p m x:Nat)(md l:List Nat)(rows:List (List Nat))(Q:List (Nat × Nat))(w:World)(hF:FT p m md l)(hG:GFAt w V T p m l (logL l (p ^ m)))(aa:V<=B)(U:GridAt w B R Z rows Q)(X:i<rows.length)(ht:t<rows.length)(af:i≠t)(_:rows.length<=1000000)(hx:x<p ^ m)(hv:∀ y∈rows.getD i [],y<p ^ m)(hu:∀ y∈rows.getD t [],y<p ^ m)(S:(rows.getD i []).length=(rows.getD t []).length)(ag:(rows.getD i []).length<=1000)(ac:w.cell? (zA bg 0)=some (zP T))(ad:w.cell? (zA bi 0)=some (Y i))(ae:w.cell? (zA bx 0)=some (Y x))(ab:w.cell? (zA ba 0)=some (Y t)):
 zC 254 #[zS R rows.length Z,zP bg,zP bi,zP bx,zP ba] w fun e w'=>e=.returned (.tuple #[])/\GridAt w' B R Z (rows.set i (addRow (opsT p m l) (rows.getD i []) (negD p m x) (rows.getD t []))) Q/\w.grownBy w' (some (bk Q i)):=by
 have b:=U.row i X;have f:=U.row t ht;have q:Hid (∀W,SDrew w W->zC 132 (Db T x) W fun e w'=>e=.returned (Y ((negD p m x:Nat):Int))/\SDrew w w'):=fun W ⟨n,hW⟩=>by subst hW;refine(neg_c x T p m V l _ _ hF.small (show GFAt (w.drewN n) V T p m l (logL l (p^m)) from hG) hx).mono ?_;rintro e w' ⟨he,k,rfl⟩;exact⟨he,n+k,U9⟩
 have j:Hid (∀n,zC 233 #[zP T,zS (bk Q i) (rows.getD i []).length (cp Q i),Y ((negD p m x:Nat):Int),zS (bk Q t) (rows.getD t []).length (cp Q t)] (w.drewN n) fun e w'=>e=.returned (.tuple #[])/\Row w' B (bk Q i) (cp Q i) (nz (addRow (opsT p m l) (rows.getD i []) (negD p m x) (rows.getD t [])))/\(w.drewN n).grownBy w' (some (bk Q i))):=fun n=>by have h:=madd_c (negD p m x) T p m V B (bk Q i) (cp Q i) (bk Q t) (cp Q t) md l (rows.getD i []) (rows.getD t []) (w.drewN n) hF (show GFAt (w.drewN n) V T p m l (logL l (p^m)) from hG) (Nat.le_trans aa b.lt.1) (qdP (by have:=hF.small.p1;omega) m x) hv hu b f (fun e=>U.nd i t X ht af e.symm) S ag;rw[<- S];exact h
 have z:=zH U;have C:=U.cell X;have D:=U.cell ht;have H:(0:Int)<=(i:Int):=U0;have I:(i:Int)<(rows.length:Int):=U0;have M:(0:Int)<=(t:Int):=U0;have N:(t:Int)<(rows.length:Int):=U0;have o:Hid ((addRow (opsT p m l) (rows.getD i []) (negD p m x) (rows.getD t [])).length=(rows.getD i []).length):=qbU _ _ _ _ S;clear U b f hF hG hv hu S;generalize addRow (opsT p m l) (rows.getD i []) (negD p m x) (rows.getD t [])=E at *;generalize negD p m x=L at *;have A:Hid ((rows.getD i []).length=(rows.getD i []).length):=rfl;generalize d:(rows.getD i []).length=J at *;generalize v:(rows.getD t []).length=K at *;have r:=zH d;clear d v A;go_enter Tryz.func254,Tryz.ntmps254;refine qaI 12 (SDrew w) U1 U1 ⟨1,rfl⟩ ?_;simp only[List.take_succ_cons,List.take_zero,List.drop_succ_cons,List.drop_zero]
 repeat (first
  | (apply qaJ rfl
     . intro W g
       obtain⟨n,rfl⟩:=g
       go_simp
       rfl
     go_simp)
  | (apply qaO rfl
     . intro W g
       go_simp
       exact⟨rfl,rfl⟩
     . intro W g
       exact q.out W g
     go_simp))
 refine qaE ?_;intro O u;obtain⟨n,rfl⟩:=u;clear ac ad ae ab C D;go_wp2_with fail;(with_reducible refine(j.out n).mono ?_);rintro e P ⟨rfl,hr3,hg3⟩;have s:=zH hr3;have c:=zH hg3;clear hr3 hg3;go_wp2_with fail;go_end0;exact⟨rfl,(z.out.drewN n).turn X (by rw[o.out,r.out]) s.out c.out,grown_trans (grown_drewN w n _) c.out⟩
theorem each2_c(p q R n m b5 j g:Nat)(Q:World->Prop)(w:World)(r:w.cell? (zA b5 0)=some (zS R n m))(k:w.cell? (zA j 0)=some (zL none 0 0))(l:j≠g)(o:zC 252 #[zS R n m,zP p,zP q] w fun e w'=>e=.returned (.tuple #[])/\Q w'/\w.grownBy w' (some g)):
 zC 251 #[.func (.func 252) #[] #[zP p,zP q],zP b5,zP j] w fun e w'=>e=.returned (.tuple #[])/\Q w'/\w.grownBy w' (some g):=by have h:=zH o;have c:=zH k;have b:j<w.heap.size:=World.block_lt_of_cell? w _ k;clear o k;go_enter Tryz.func251,Tryz.ntmps251;go_wp2_with fail;(with_reducible refine h.out.mono ?_);rintro e i ⟨rfl,hq,hg⟩;have f:=zH hq;have d:=zH hg;have k:i.cell? (zA j 0)=some (zL none 0 0):=(hg.cell_far (zA j 0) b (fun e=>l (by injection e))).trans c.out;clear hq hg r;go_wp2_with fail;go_end0;exact⟨rfl,f.out,d.out⟩
theorem each3_c(p q r R n m b5 j g:Nat)(Q:World->Prop)(w:World)(s:w.cell? (zA b5 0)=some (zS R n m))(k:w.cell? (zA j 0)=some (zL none 0 0))(l:j≠g)(o:zC 253 #[zS R n m,zP p,zP q,zP r] w fun e w'=>e=.returned (.tuple #[])/\Q w'/\w.grownBy w' (some g)):
 zC 251 #[.func (.func 253) #[] #[zP p,zP q,zP r],zP b5,zP j] w fun e w'=>e=.returned (.tuple #[])/\Q w'/\w.grownBy w' (some g):=by have h:=zH o;have c:=zH k;have b:j<w.heap.size:=World.block_lt_of_cell? w _ k;clear o k;go_enter Tryz.func251,Tryz.ntmps251;go_wp2_with fail;(with_reducible refine h.out.mono ?_);rintro e i ⟨rfl,hq,hg⟩;have f:=zH hq;have d:=zH hg;have k:i.cell? (zA j 0)=some (zL none 0 0):=(hg.cell_far (zA j 0) b (fun e=>l (by injection e))).trans c.out;clear hq hg s;go_wp2_with fail;go_end0;exact⟨rfl,f.out,d.out⟩
theorem each4_c(p q r s R n m b5 j g:Nat)(Q:World->Prop)(w:World)(t:w.cell? (zA b5 0)=some (zS R n m))(k:w.cell? (zA j 0)=some (zL none 0 0))(l:j≠g)(o:zC 254 #[zS R n m,zP p,zP q,zP r,zP s] w fun e w'=>e=.returned (.tuple #[])/\Q w'/\w.grownBy w' (some g)):
 zC 251 #[.func (.func 254) #[] #[zP p,zP q,zP r,zP s],zP b5,zP j] w fun e w'=>e=.returned (.tuple #[])/\Q w'/\w.grownBy w' (some g):=by have h:=zH o;have c:=zH k;have b:j<w.heap.size:=World.block_lt_of_cell? w _ k;clear o k;go_enter Tryz.func251,Tryz.ntmps251;go_wp2_with fail;(with_reducible refine h.out.mono ?_);rintro e i ⟨rfl,hq,hg⟩;have f:=zH hq;have d:=zH hg;have k:i.cell? (zA j 0)=some (zL none 0 0):=(hg.cell_far (zA j 0) b (fun e=>l (by injection e))).trans c.out;clear hq hg t;go_wp2_with fail;go_end0;exact⟨rfl,f.out,d.out⟩
structure EI (w:World) (B R cR gb Bg p m:Nat) (l:List Nat) (rows:List (List Nat)) (bs:List (Nat × Nat)) (wr:World):Prop where
 grid:GridAt wr B R cR rows bs
 field:GFAt wr Bg gb p m l (logL l (p^m))
 b4:wr.cell? (zA w.heap.size 0)=some (zP gb)
 b5:wr.cell? (zA (w.heap.size+1) 0)=some (zS R rows.length cR)
 b7:wr.cell? (zA (w.heap.size+1+1) 0)=some (zL none 0 0)
 below:Below B w wr
 size:w.heap.size+3<=wr.heap.size
 out:R<w.heap.size
 apart:∀i,i<rows.length->bk bs i<w.heap.size\/w.heap.size+3<=bk bs i
def PivAt(w:World)(base:Nat)(v:Value)(piv:List Nat)(n:Nat)(bs:List (Nat × Nat)):Prop:=
 w.ownsRow base 3 1 v piv.length ((nz piv).map (Value.int .i64))/\∀i,i<n->v.ownBlock≠some (bk bs i)
section
variable {w:World} {B R cR gb Bg p m:Nat} {l:List Nat} {rows:List (List Nat)} {bs:List (Nat × Nat)} {wr wx:World}
theorem EI.grow(h:EI w B R cR gb Bg p m l rows bs wr)(f:B<=w.heap.size)(d:Bg<=B)(c:Below wr.heap.size wr wx):EI w B R cR gb Bg p m l rows bs wx:=by
 have b:=h.size
 refine⟨h.grid.grow c,h.field.keep (c.mono U0),(c.cell (p:=(zA w.heap.size 0)) (by show w.heap.size < _;omega)).trans h.b4,(c.cell (p:=(zA (w.heap.size+1) 0)) (by show w.heap.size+1 < _;omega)).trans h.b5,
  (c.cell (p:=(zA (w.heap.size+2) 0)) (by show w.heap.size+2 < _;omega)).trans h.b7,h.below.trans (c.mono U0),Nat.le_trans b c.size,h.out,h.apart⟩
theorem EI.wrote(h:EI w B R cR gb Bg p m l rows bs wr)(n:B<=w.heap.size)(j:Bg<=B){g:Nat}(k:w.heap.size+3<=g)(f:∀i,i<rows.length->bk bs i≠g)(u:Value):EI w B R cR gb Bg p m l rows bs (wr.setCell (zA g 0) u):=by
 have c:=h.size;have d:=h.out;have b:Below (w.heap.size+3) wr (wr.setCell (zA g 0) u):=(Below.refl _ _).setCell (p:=(zA g 0)) k u
 refine⟨h.grid.else_ (p:=(zA g 0)) (by show R≠g;omega) f u,h.field.keep (b.mono U0),(b.cell (p:=(zA w.heap.size 0)) (by show w.heap.size < _;omega)).trans h.b4,(b.cell (p:=(zA (w.heap.size+1) 0)) (by show w.heap.size+1 < _;omega)).trans h.b5,
  (b.cell (p:=(zA (w.heap.size+2) 0)) (by show w.heap.size+2 < _;omega)).trans h.b7,h.below.trans (b.mono U0),Nat.le_trans c U2,h.out,h.apart⟩
theorem EI.turned(h:EI w B R cR gb Bg p m l rows bs wr)(v:B<=w.heap.size)(q:Bg<=B){j:List (List Nat)}{n:List (Nat × Nat)}{g:Nat}(u:j.length=rows.length)(hd:GridAt wx B R cR j n)(o:wr.grownBy wx (some g))(s:B<=g)(t:g<w.heap.size\/w.heap.size+3<=g)(r:∀i,i<rows.length->bk n i<w.heap.size\/w.heap.size+3<=bk n i):EI w B R cR gb Bg p m l j n wx:=by have d:=h.size;have b:∀k,k<3->wx.cell? (zA (w.heap.size+k) 0)=wr.cell? (zA (w.heap.size+k) 0):=fun k hk=>o.cell_far (zA (w.heap.size+k) 0) (by show w.heap.size+k < _;omega) (fun e=>by injection e with e;have f:w.heap.size+k=g:=e;omega);have c:Below B wr wx:=⟨o.os,o.tape,o.output,o.size,fun k hk=>o.block k U0 (fun e=>by injection e with e;omega)⟩;exact⟨hd,h.field.keep (c.mono q),(b 0 U0).trans h.b4,by rw[u];exact(b 1 U0).trans h.b5,(b 2 U0).trans h.b7,h.below.trans c,Nat.le_trans d o.size,h.out,fun i hi=>r i U0⟩
end
theorem PivAt.grow{w w':World}{base n:Nat}{v:Value}{piv:List Nat}{bs:List (Nat × Nat)}(h:PivAt w base v piv n bs)(b:Below w.heap.size w w'):PivAt w' base v piv n bs:=by refine⟨h.1.kept (row:=none) ⟨b.os,b.tape,b.output,b.size,fun k hk _=>b.block k hk⟩ ?_,h.2⟩;cases hv:v.ownBlock<;>simp
theorem PivAt.grown{w w':World}{base n g:Nat}{v:Value}{piv:List Nat}{bs b:List (Nat × Nat)}(h:PivAt w base v piv n bs)(f:w.grownBy w' (some g))(c:v.ownBlock≠some g)(d:∀i,i<n->v.ownBlock≠some (bk b i)):PivAt w' base v piv n b:=
 ⟨h.1.kept f (.inr c),d⟩
section
variable {O:Ops}
theorem swap_len(rows:List (List Nat))(i j:Nat):(swapRows rows i j).length=rows.length:=by simp[swapRows]
theorem norm_len(rows:List (List Nat))(i c:Nat):(normRow O rows i c).length=rows.length:=by unfold normRow;split<;>simp
theorem clear_len(c t:Nat)(rows:List (List Nat)):∀ i,(clearGo O c t rows i).length=rows.length
 |0=>rfl
 |i + 1=>by
   unfold clearGo
   split
   . rw[List.length_set];exact clear_len c t rows i
   . exact clear_len c t rows i
theorem elStep_len(c:Nat)(s:ElS):(elStep O c s).rows.length=s.rows.length:=by
 unfold elStep;split
 . split
   . rfl
   . show(clearGo O c _ _ _).length=_;rw[clear_len,norm_len,swap_len]
 . rfl
theorem elGo_len(rows:List (List Nat)):∀c,(elGo O rows c).rows.length=rows.length
 |0=>rfl
 |c+1=>by unfold elGo;rw[elStep_len,elGo_len rows c]
theorem elGo_piv(rows:List (List Nat)):∀ c,(elGo O rows c).piv.length<=c/\(elGo O rows c).piv.length<=rows.length
 |0=>⟨Nat.zero_le _,Nat.zero_le _⟩
 | c + 1 => by
   have ih:=elGo_piv rows c
   have b:=elGo_len (O:=O) rows c
   unfold elGo elStep
   split
   . split
     . exact⟨U0,ih.2⟩
     . rename_i h1 h2
       show((elGo O rows c).piv++[c]).length<=_/\((elGo O rows c).piv++[c]).length<=_
       rw[List.length_append,List.length_singleton]
       omega
   . exact⟨U0,ih.2⟩
theorem elGo_full(rows:List (List Nat)){c:Nat}(h:(elGo O rows c).piv.length=rows.length):∀ k,elGo O rows (c+k)=elGo O rows c
 |0=>rfl
 |k + 1=>by
   have ih:=elGo_full rows h k
   show elStep O (c+k) (elGo O rows (c+k))=_
   rw[ih]
   unfold elStep
   rw[if_neg (by rw[h,elGo_len];omega)]
end
theorem qdA{p m:Nat}{md l:List Nat}(h:FT p m md l):OpsEq (p^m) (opsT p m l) (opsT p m l) where
 add x y _ _:=⟨rfl,qdR (by have:=h.small.p1;omega) m x y⟩
 mul x y hx hy:=⟨rfl,mulT_lt h hx hy⟩
 neg x _:=⟨rfl,qdP (by have:=h.small.p1;omega) m x⟩
 inv x hx h0:=⟨rfl,(h.tab.inv (qaV (by have:=h.small.p1;omega) h.small.m1 md) h0 hx).2.1⟩
def St(w:World)(B R cR gb Bg p m:Nat)(l:List Nat)(rows:List (List Nat))(n:Nat)(v12:Value)(piv:List Nat)(ba t:Nat)(wr:World):Prop:=
 ∃bs,wr.heap[ba]?=some (.cells #[Y (t:Int)] 3 (0,0))/\EI w B R cR gb Bg p m l rows bs wr/\PivAt wr (w.heap.size+3) v12 piv n bs/\(∀i,i<n->bk bs i≠ba)/\rows.length=n/\w.heap.size+3<=ba
theorem block_lt{w:World}{b:Nat}{o:Obj}(h:w.heap[b]?=some o):b<w.heap.size:=by
 rcases Nat.lt_or_ge b w.heap.size with h1|h1
 . exact h1
 . rw[Array.getElem?_eq_none h1] at h;cases h
theorem bk_swap{c:List (Nat × Nat)}{i j n:Nat}(g:c.length=n)(d:i<n)(f:j<n)(P:Nat->Prop)(h:∀ k,k<n->P (bk c k)):∀ k,k<n->P (bk (SwapBs c i j) k):=by
 intro k b;unfold bk SwapBs;rw[getD_set _ _ _ _ _ so,getD_set _ _ _ _ _ U0];split
 . exact h i d
 . split
   . exact h j f
   . exact h k b
theorem bk_set{d:List (Nat × Nat)}{i n g c:Nat}(l:d.length=n)(j:i<n)(P:Nat->Prop)(f:P g)(h:∀k,k<n->P (bk d k)):∀k,k<n->P (bk (d.set i (g,c)) k):=by
 intro k b;unfold bk;rw[getD_set _ _ _ _ _ U0];split
 . exact f
 . exact h k b
section
variable {w:World} {B R cR gb Bg p m:Nat} {l:List Nat} {rows:List (List Nat)} {n:Nat} {v12:Value} {piv:List Nat} {ba t:Nat} {wr wx:World}
theorem GridAt.kept{w w':World}{b:List (Nat × Nat)}{r:Option Nat}(h:GridAt w B R cR rows b)(c:w.grownBy w' r)(d:r≠some R)(f:∀i,i<rows.length->r≠some (bk b i)):GridAt w' B R cR rows b:=
 ⟨h.len,own_below h.out (c.block R h.lt.2 (fun e=>d e.symm)),fun i hi=>(h.row i hi).grown c (fun e=>f i hi e.symm),h.nd⟩
theorem EI.kept{q:List (Nat × Nat)}{r:Option Nat}(h:EI w B R cR gb Bg p m l rows q wr)(x:B<=w.heap.size)(s:Bg<=B)(o:wr.grownBy wx r)(u:∀g,r=some g->w.heap.size+3<=g)(v:∀i,i<rows.length->r≠some (bk q i)):EI w B R cR gb Bg p m l rows q wx:=by have f:=h.size;have d:=h.out;have b:∀k,k<3->wx.cell? (zA (w.heap.size+k) 0)=wr.cell? (zA (w.heap.size+k) 0):=fun k hk=>o.cell_far (zA (w.heap.size+k) 0) (by show w.heap.size+k < _;omega) (fun e=>by have j:w.heap.size+3<=w.heap.size+k:=u _ e.symm;omega);have c:Below B wr wx:=⟨o.os,o.tape,o.output,o.size,fun k hk=>o.block k U0 (fun e=>by have:=u _ e.symm;omega)⟩;exact⟨h.grid.kept o (fun e=>by have:=u _ e;omega) v,h.field.keep (c.mono s),(b 0 U0).trans h.b4,(b 1 U0).trans h.b5,(b 2 U0).trans h.b7,h.below.trans c,Nat.le_trans f o.size,d,h.apart⟩
theorem St.grow(h:St w B R cR gb Bg p m l rows n v12 piv ba t wr)(q:B<=w.heap.size)(k:Bg<=B)(o:Below wr.heap.size wr wx):St w B R cR gb Bg p m l rows n v12 piv ba t wx:=by obtain⟨c,b,d,f,g,i,j⟩:=h;exact⟨c,(o.block ba (block_lt b)).trans b,d.grow q k o,f.grow o,g,i,j⟩
theorem St.b4(h:St w B R cR gb Bg p m l rows n v12 piv ba t wr):wr.cell? (zA w.heap.size 0)=some (zP gb):=by obtain⟨_,_,h,_⟩:=h;exact h.b4
theorem St.b5(h:St w B R cR gb Bg p m l rows n v12 piv ba t wr):wr.cell? (zA (w.heap.size+1) 0)=some (zS R n cR):=by obtain⟨_,_,h,_,_,rfl,_⟩:=h;exact h.b5
theorem St.box(h:St w B R cR gb Bg p m l rows n v12 piv ba t wr):wr.cell? (zA ba 0)=some (Y t):=by obtain⟨_,h,_⟩:=h;exact cell_of_row _ _ 0 _ _ _ h
theorem St.field(h:St w B R cR gb Bg p m l rows n v12 piv ba t wr):GFAt wr Bg gb p m l (logL l (p^m)):=by obtain⟨_,_,h,_⟩:=h;exact h.field
theorem St.at_(h:St w B R cR gb Bg p m l rows n v12 piv ba t wr){q:Nat}(s:Grid (p^m) n q rows){i c:Nat}(u:i<n)(r:c<q):∃b cc,wr.cell? (zA R i)=some (zS b q cc)/\wr.cell? (zA b c)=some (Y ((at2 rows i c:Nat):Int)):=by obtain⟨k,_,h,_,_,o,_⟩:=h;have d:=h.grid.cell (i:=i) U0;have g:=h.grid.row i U0;have f:=(s.row u).1;rw[f] at d;refine⟨_,_,d,?_⟩;have:=g.cell (j:=c) (by rw[qaA,f];exact r);rw[qaC] at this;exact this
def RelD(w:World)(B R cR gb Bg p m:Nat)(l:List Nat)(rows:List (List Nat))(n:Nat)(v12:Value)(piv:List Nat)(ba t:Nat)(v10:Value)(wx:World):Prop:=
 ∃d:Nat,v10=Y (d:Int)/\d<p^m/\St w B R cR gb Bg p m l rows n v12 piv ba t wx
def RelV(w:World)(B R cR gb Bg p m:Nat)(l:List Nat)(rows:List (List Nat))(n:Nat)(v12:Value)(piv:List Nat)(ba t iv:Nat)(v16 v17:Value)(wx:World):Prop:=
 ∃bi:Nat,v16=zP bi/\v17=Y 0/\wx.cell? (zA bi 0)=some (Y (iv:Int))/\St w B R cR gb Bg p m l rows n v12 piv ba t wx
def RelCI(w:World)(B R cR gb Bg p m:Nat)(l:List Nat)(c:Nat)(rows2:List (List Nat))(n:Nat)(v12:Value)(piv:List Nat)(ba t:Nat)(v98:Value)(wx:World):Prop:=
 ∃i:Nat,i<=n/\v98=Y (i:Int)/\St w B R cR gb Bg p m l (clearGo (opsT p m l) c t rows2 i) n v12 piv ba t wx
theorem swap_st(h:St w B R cR gb Bg p m l rows n v12 piv ba t wr)(z:B<=w.heap.size)(u:Bg<=B){k r:Nat}(ht:t<n)(s:k<n)(y:t≠k)(A:n<=256)(x:wr.cell? (zA r 0)=some (Y k))(v:r≠R):
 zC 251 #[.func (.func 252) #[] #[zP r,zP ba],zP (w.heap.size+1),zP (w.heap.size+1+1)] wr fun e w'=>e=.returned (.tuple #[])/\St w B R cR gb Bg p m l (swapRows rows t k) n v12 piv ba t w':=by
 obtain⟨g,d,c,f,i,rfl,j⟩:=h;have o:=c.grid.lt;have q:=c.out
 refine(each2_c r ba R rows.length cR (w.heap.size+1) (w.heap.size+1+1) R (fun w'=>GridAt w' B R cR (swapRows rows t k) (SwapBs g t k)) wr c.b5 c.b7 U0
  (swap_c B R cR t k ba r rows g wr c.grid ht s y U0 (cell_of_row _ _ 0 _ _ _ d) x U0 v)).mono ?_
 rintro e w' ⟨he,hd,hg⟩;refine⟨he,SwapBs g t k,(hg.block ba (block_lt d) (fun e=>by injection e with e;omega)).trans d,c.turned z u (swap_len ..) hd hg o.1 (.inl q) (bk_swap c.grid.len ht s (fun b=>b<w.heap.size\/w.heap.size+3<=b) c.apart),f.grown hg (fun e=>by have:=(f.1.lt _ e).1;omega) (bk_swap c.grid.len ht s (fun b=>v12.ownBlock≠some b) f.2),bk_swap c.grid.len ht s (fun b=>b≠ba) i,swap_len ..,j⟩
theorem scale_st(h:St w B R cR gb Bg p m l rows n v12 piv ba t wr)(C:B<=w.heap.size)(y:Bg<=B){md:List Nat}{a x v:Nat}(hF:FT p m md l)(A:Grid (p^m) n v rows)(E:v<=256)(ht:t<n)(H:n<=256)(D:a<p^m)(z:wr.cell? (zA x 0)=some (Y a)):
 zC 251 #[.func (.func 253) #[] #[zP w.heap.size,zP x,zP ba],zP (w.heap.size+1),zP (w.heap.size+1+1)] wr fun e w'=>e=.returned (.tuple #[])/\St w B R cR gb Bg p m l (rows.set t (scaleRow (opsT p m l) a (rows.getD t []))) n v12 piv ba t w':=by
 obtain⟨g,f,c,d,i,rfl,j⟩:=h;have q:=c.grid.lt;have r:=c.out;have u:=c.size;have k:=block_lt f;obtain⟨s,o⟩:=A.row ht
 refine(each3_c w.heap.size x ba R rows.length cR (w.heap.size+1) (w.heap.size+1+1) R (fun w'=>GridAt w' B R cR (rows.set t (scaleRow (opsT p m l) a (rows.getD t []))) (g.set t (wr.heap.size,(rows.getD t []).length))) wr c.b5 c.b7 U0
  (scrow_c B R cR t w.heap.size x ba gb p m a md l rows g wr hF (c.field.more U0) c.grid ht U0 D o U0 U0 c.b4 z (cell_of_row _ _ 0 _ _ _ f))).mono ?_
 rintro e w' ⟨he,hd,hg⟩;refine⟨he,g.set t (wr.heap.size,(rows.getD t []).length),(hg.block ba k (fun e=>by injection e with e;omega)).trans f,c.turned C y U2 hd hg q.1 (.inl r) (bk_set c.grid.len ht (fun b=>b<w.heap.size\/w.heap.size+3<=b) (.inr u) c.apart),d.grown hg (fun e=>by have:=(d.1.lt _ e).1;omega) (bk_set c.grid.len ht (fun b=>v12.ownBlock≠some b) (fun e=>by have:=(d.1.lt _ e).2;omega) d.2),bk_set c.grid.len ht (fun b=>b≠ba) U0 i,U2,j⟩
theorem clear_st(h:St w B R cR gb Bg p m l rows n v12 piv ba t wr)(J:B<=w.heap.size)(A:Bg<=B){md:List Nat}{i x bi E y:Nat}(hF:FT p m md l)(D:Grid (p^m) n y rows)(L:y<=256)(ht:t<n)(z:i<n)(I:i≠t)(M:n<=256)(K:x<p^m)(H:wr.cell? (zA bi 0)=some (Y i))(C:wr.cell? (zA E 0)=some (Y x)):
 zC 251 #[.func (.func 254) #[] #[zP w.heap.size,zP bi,zP E,zP ba],zP (w.heap.size+1),zP (w.heap.size+1+1)] wr fun e w'=>e=.returned (.tuple #[])/\St w B R cR gb Bg p m l (rows.set i (addRow (opsT p m l) (rows.getD i []) (negD p m x) (rows.getD t []))) n v12 piv ba t w':=by
 obtain⟨g,c,b,d,f,rfl,k⟩:=h;have v:=b.size;have o:=block_lt c;have j:=b.apart i z;obtain⟨s,q⟩:=D.row z;obtain⟨u,r⟩:=D.row ht
 refine(each4_c w.heap.size bi E ba R rows.length cR (w.heap.size+1) (w.heap.size+1+1) (bk g i) (fun w'=>GridAt w' B R cR (rows.set i (addRow (opsT p m l) (rows.getD i []) (negD p m x) (rows.getD t []))) g) wr b.b5 b.b7 U0
  (clrow_c B R cR i t w.heap.size bi E ba gb Bg p m x md l rows g wr hF b.field A b.grid z ht I U0 K q r U0 U0 b.b4 H C (cell_of_row _ _ 0 _ _ _ c))).mono ?_
 rintro e w' ⟨he,hd,hg⟩;exact⟨he,g,(hg.block ba o (fun e=>f i z (by injection e with e;exact e.symm))).trans c,b.turned J A U2 hd hg (b.grid.row i z).lt.1 j b.apart,d.grown hg (d.2 i z) d.2,f,U2,k⟩
end
theorem col_facts{p m:Nat}{md l:List Nat}(hF:FT p m md l){n j c k:Nat}{s:ElS}(u:Grid (p^m) n j s.rows)(o:s.piv.length<n)(q:c<j)(v:k=findRow s.rows c (s.rows.length-s.piv.length) s.piv.length)(r:k<n):
 Grid (p^m) n j (swapRows s.rows s.piv.length k)/\at2 (swapRows s.rows s.piv.length k) s.piv.length c≠0/\Grid (p^m) n j (normRow (opsT p m l) (swapRows s.rows s.piv.length k) s.piv.length c)/\
 (∀i,i<=n->Grid (p^m) n j (clearGo (opsT p m l) c s.piv.length (normRow (opsT p m l) (swapRows s.rows s.piv.length k) s.piv.length c) i))/\
 elStep (opsT p m l) c s=⟨clearGo (opsT p m l) c s.piv.length (normRow (opsT p m l) (swapRows s.rows s.piv.length k) s.piv.length c) n,s.piv++[c]⟩:=by
 have b:=u.1;have g:=qdC u o r;have d:at2 s.rows k c≠0:=by have:=qcF s.rows c (s.rows.length-s.piv.length) s.piv.length U0;rw[<- v] at this;exact this
 have f:at2 (swapRows s.rows s.piv.length k) s.piv.length c≠0:=by unfold at2 at d ⊢;rw[swap_at U0 U0];exact d
 have h:=(norm_eq (qdA hF) g o q f).2;refine⟨g,f,h,fun i hi=>(qdJ (qdA hF) h q o i hi).2,?_⟩;unfold elStep;rw[if_pos U0,<- v,if_neg U0,b]
theorem inv_one{p m:Nat}{md l:List Nat}(hF:FT p m md l){x:Nat}(f:x<p^m)(g:x≠0):(opsT p m l).inv x<p^m/\(x=1 ↔ (opsT p m l).inv x=1):=by
 have H:=qaV (p:=p) (m:=m) (by have:=hF.small.p1;omega) hF.small.m1 md;obtain⟨b,c,_⟩:=hF.tab.inv H g f;refine⟨c,?_,?_⟩
 . intro h;subst h;rw[H.one _ c] at b;exact b
 . intro h;have d:invT l (logL l (p^m)) (p^m) x=1:=h;rw[d,H.comm,H.one _ f] at b;exact b
theorem swap_self(rows:List (List Nat))(i:Nat)(d:i<rows.length):swapRows rows i i=rows:=by
 unfold swapRows;apply List.ext_getElem
 . simp
 . intro j b c;rw[List.getElem_set,List.getElem_set];by_cases h:i=j
   . subst h;simp[List.getD,d]
   . rw[if_neg h,if_neg h]
theorem clear_stay{O:Ops}{c t i:Nat}{rows:List (List Nat)}(h:i=t\/at2 (clearGo O c t rows i) i c=0):clearGo O c t rows (i+1)=clearGo O c t rows i:=by show(if _ then _ else _)=_;rw[if_neg U0]
theorem clear_turn{O:Ops}{c t i:Nat}{rows:List (List Nat)}(b:i≠t)(d:at2 (clearGo O c t rows i) i c≠0):clearGo O c t rows (i+1)=(clearGo O c t rows i).set i (addRow O ((clearGo O c t rows i).getD i []) (O.neg (at2 (clearGo O c t rows i) i c)) ((clearGo O c t rows i).getD t [])):=by show(if _ then _ else _)=_;rw[if_pos ⟨b,d⟩]
end Go.Proofs.YtndipkplnkfoeaaGreat
