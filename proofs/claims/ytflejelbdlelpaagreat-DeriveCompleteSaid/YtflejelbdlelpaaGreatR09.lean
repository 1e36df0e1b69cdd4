/- Parts of the proof. -/
import Derived.Test.YtflejelbdlelpaaGreatR08
set_option maxRecDepth 100000
set_option maxHeartbeats 8000000
namespace Go.Proofs.YtflejelbdlelpaaGreat
open Go.RowKit Pln Go.Proofs.Tryz
theorem each2_c(q r R n m b5 j g:Nat)(Q:Wo->Prop)(w:Wo)(s:w.cell? (zA b5 0)=some (zS R n m))(k:w.cell? (zA j 0)=some (zL none 0 0))(l:j≠g)(p:zC 243 #[zS R n m,zP q,zP r] w fun e w'=>e=.returned (.tuple #[])/\Q w'/\w.grownBy w' (some g)):
 zC 242 #[.func (.func 243) #[] #[zP q,zP r],zP b5,zP j] w fun e w'=>e=.returned (.tuple #[])/\Q w'/\w.grownBy w' (some g):=by have h:=zH p;have c:=zH k;have b:j<w.heap.size:=World.block_lt_of_cell? w _ k;clear p k;go_enter func242,ntmps242;go_wp2_with fail;go_fit h.o;rintro e i ⟨rfl,hq,hg⟩;have f:=zH hq;have d:=zH hg;have k:=(hg.cell_far (zA j 0) b (fun e=>l (by injection e))).trans c.out;clear hq hg s;go_wp2_with fail;go_end0;exact⟨rfl,f.o,d.o⟩
theorem each3_c(q r s R n m b5 j g:Nat)(Q:Wo->Prop)(w:Wo)(t:w.cell? (zA b5 0)=some (zS R n m))(k:w.cell? (zA j 0)=some (zL none 0 0))(l:j≠g)(p:zC 244 #[zS R n m,zP q,zP r,zP s] w fun e w'=>e=.returned (.tuple #[])/\Q w'/\w.grownBy w' (some g)):
 zC 242 #[.func (.func 244) #[] #[zP q,zP r,zP s],zP b5,zP j] w fun e w'=>e=.returned (.tuple #[])/\Q w'/\w.grownBy w' (some g):=by have h:=zH p;have c:=zH k;have b:j<w.heap.size:=World.block_lt_of_cell? w _ k;clear p k;go_enter func242,ntmps242;go_wp2_with fail;go_fit h.o;rintro e i ⟨rfl,hq,hg⟩;have f:=zH hq;have d:=zH hg;have k:=(hg.cell_far (zA j 0) b (fun e=>l (by injection e))).trans c.out;clear hq hg t;go_wp2_with fail;go_end0;exact⟨rfl,f.o,d.o⟩
theorem each4_c(q r s t R n m b5 j g:Nat)(Q:Wo->Prop)(w:Wo)(u:w.cell? (zA b5 0)=some (zS R n m))(k:w.cell? (zA j 0)=some (zL none 0 0))(l:j≠g)(p:zC 245 #[zS R n m,zP q,zP r,zP s,zP t] w fun e w'=>e=.returned (.tuple #[])/\Q w'/\w.grownBy w' (some g)):
 zC 242 #[.func (.func 245) #[] #[zP q,zP r,zP s,zP t],zP b5,zP j] w fun e w'=>e=.returned (.tuple #[])/\Q w'/\w.grownBy w' (some g):=by have h:=zH p;have c:=zH k;have b:j<w.heap.size:=World.block_lt_of_cell? w _ k;clear p k;go_enter func242,ntmps242;go_wp2_with fail;go_fit h.o;rintro e i ⟨rfl,hq,hg⟩;have f:=zH hq;have d:=zH hg;have k:=(hg.cell_far (zA j 0) b (fun e=>l (by injection e))).trans c.out;clear hq hg u;go_wp2_with fail;go_end0;exact⟨rfl,f.o,d.o⟩
end Go.Proofs.YtflejelbdlelpaaGreat
namespace Go.Proofs.YtflejelbdlelpaaGreat
open Go.RowKit Pln
structure EI (w:Wo) (B R cR gb Bg p m:Nat) (l:LN) (rows:LL) (bs:List (Nat × Nat)) (wr:Wo):Prop where
 grid:GridAt wr B R cR rows bs
 field:GFAt wr Bg gb p m l (logL l (p^m))
 b4:wr.cell? (zA w.heap.size 0)=some (zP gb)
 b5:wr.cell? (zA (w.heap.size+1) 0)=some (zS R rows.length cR)
 b7:wr.cell? (zA (w.heap.size+1+1) 0)=some (zL none 0 0)
 below:Below B w wr
 size:w.heap.size+3<=wr.heap.size
 out:R<w.heap.size
 apart:∀i,i<rows.length->bk bs i<w.heap.size\/w.heap.size+3<=bk bs i
def PivAt(w:Wo)(base:Nat)(v:Value)(piv:LN)(n:Nat)(bs:List (Nat × Nat)):Prop:=
 w.ownsRow base 3 1 v piv.length ((nz piv).map (Value.int .i64))/\∀i,i<n->v.ownBlock≠some (bk bs i)
section
variable {w:Wo} {B R cR gb Bg p m:Nat} {l:LN} {rows:LL} {bs:List (Nat × Nat)} {wr wx:Wo}
theorem EI.grow(h:EI w B R cR gb Bg p m l rows bs wr)(f:B<=w.heap.size)(d:Bg<=B)(c:zB wr wx):EI w B R cR gb Bg p m l rows bs wx:=by
 have b:=h.size
 refine⟨h.grid.grow c,h.field.keep (c.mono U0),(c.cell (p:=(zA w.heap.size 0)) (by show w.heap.size < _;omega)).trans h.b4,(c.cell (p:=(zA (w.heap.size+1) 0)) (by show w.heap.size+1 < _;omega)).trans h.b5,
  (c.cell (p:=(zA (w.heap.size+2) 0)) (by show w.heap.size+2 < _;omega)).trans h.b7,h.below.trans (c.mono U0),Nat.le_trans b c.size,h.out,h.apart⟩
theorem EI.wrote(h:EI w B R cR gb Bg p m l rows bs wr)(n:B<=w.heap.size)(j:Bg<=B){g:Nat}(k:w.heap.size+3<=g)(f:∀i,i<rows.length->bk bs i≠g)(u:Value):EI w B R cR gb Bg p m l rows bs (wr.setCell (zA g 0) u):=by
 have c:=h.size;have d:=h.out;have b:Below (w.heap.size+3) wr (wr.setCell (zA g 0) u):=zV.setCell (p:=(zA g 0)) k u
 refine⟨h.grid.else_ (p:=(zA g 0)) (by show R≠g;omega) f u,h.field.keep (b.mono U0),(b.cell (p:=(zA w.heap.size 0)) (by show w.heap.size < _;omega)).trans h.b4,(b.cell (p:=(zA (w.heap.size+1) 0)) (by show w.heap.size+1 < _;omega)).trans h.b5,
  (b.cell (p:=(zA (w.heap.size+2) 0)) (by show w.heap.size+2 < _;omega)).trans h.b7,h.below.trans (b.mono U0),Nat.le_trans c U2,h.out,h.apart⟩
theorem EI.turned(h:EI w B R cR gb Bg p m l rows bs wr)(v:B<=w.heap.size)(q:Bg<=B){j:LL}{n:List (Nat × Nat)}{g:Nat}(u:j.length=rows.length)(hd:GridAt wx B R cR j n)(o:wr.grownBy wx (some g))(s:B<=g)(t:g<w.heap.size\/w.heap.size+3<=g)(r:∀i,i<rows.length->bk n i<w.heap.size\/w.heap.size+3<=bk n i):EI w B R cR gb Bg p m l j n wx:=by have d:=h.size;have b:∀k,k<3->wx.cell? (zA (w.heap.size+k) 0)=wr.cell? (zA (w.heap.size+k) 0):=fun k hk=>o.cell_far (zA (w.heap.size+k) 0) (by show w.heap.size+k < _;omega) (fun e=>by injection e with e;have f:w.heap.size+k=g:=e;omega);have c:Below B wr wx:=⟨o.os,o.tape,o.output,o.size,fun k hk=>o.block k U0 (fun e=>by injection e with e;omega)⟩;exact⟨hd,h.field.keep (c.mono q),(b 0 U0).trans h.b4,by rw[u];exact(b 1 U0).trans h.b5,(b 2 U0).trans h.b7,h.below.trans c,Nat.le_trans d o.size,h.out,fun i hi=>r i U0⟩
end
theorem PivAt.grow{w w':Wo}{base n:Nat}{v:Value}{piv:LN}{bs:List (Nat × Nat)}(h:PivAt w base v piv n bs)(b:zB w w'):PivAt w' base v piv n bs:=by refine⟨h.1.kept (row:=none) ⟨b.os,b.tape,b.output,b.size,fun k hk _=>b.block k hk⟩ ?_,h.2⟩;cases hv:v.ownBlock<;>simp
theorem PivAt.grown{w w':Wo}{base n g:Nat}{v:Value}{piv:LN}{bs b:List (Nat × Nat)}(h:PivAt w base v piv n bs)(f:w.grownBy w' (some g))(c:v.ownBlock≠some g)(d:∀i,i<n->v.ownBlock≠some (bk b i)):PivAt w' base v piv n b:=
 ⟨h.1.kept f (.inr c),d⟩
section
variable {O:Ops}
theorem swap_len(rows:LL)(i j:Nat):(swapRows rows i j).length=rows.length:=by simp[swapRows]
theorem norm_len(rows:LL)(i c:Nat):(normRow O rows i c).length=rows.length:=by unfold normRow;split<;>simp
theorem clear_len(c t:Nat)(rows:LL):∀ i,(clearGo O c t rows i).length=rows.length
 |0=>rfl
 |i + 1=>by
   unfold clearGo
   split
   . rw[List.length_set];exact clear_len c t rows i
   . exact clear_len c t rows i
theorem elStep_len(c:Nat)(s:ElS):(elStep O c s).rows.length=s.rows.length:=by
 unfold elStep;split
 . split
   . rfl
   . show(clearGo O c _ _ _).length=_;rw[clear_len,norm_len,swap_len]
 . rfl
theorem qfD(rows:LL):∀c,(elGo O rows c).rows.length=rows.length
 |0=>rfl
 |c+1=>by unfold elGo;rw[elStep_len,qfD rows c]
theorem qeN(rows:LL):∀ c,(elGo O rows c).piv.length<=c/\(elGo O rows c).piv.length<=rows.length
 |0=>⟨Nat.zero_le _,Nat.zero_le _⟩
 | c + 1 => by
   have ih:=qeN rows c
   have b:=qfD (O:=O) rows c
   unfold elGo elStep
   split
   . split
     . exact⟨U0,ih.2⟩
     . rename_i h1 h2
       show((elGo O rows c).piv++[c]).length<=_/\((elGo O rows c).piv++[c]).length<=_
       rw[List.length_append,List.length_singleton]
       omega
   . exact⟨U0,ih.2⟩
theorem elGo_full(rows:LL){c:Nat}(h:(elGo O rows c).piv.length=rows.length):∀ k,elGo O rows (c+k)=elGo O rows c
 |0=>rfl
 |k + 1=>by
   have ih:=elGo_full rows h k
   show elStep O (c+k) (elGo O rows (c+k))=_
   rw[ih]
   unfold elStep
   rw[if_neg (by rw[h,qfD];omega)]
end
theorem qdA{p m:Nat}{md l:LN}(h:FT p m md l):OpsEq (p^m) (opsT p m l) (opsT p m l) where
 add x y _ _:=⟨rfl,qdR (by have:=h.small.p1;omega) m x y⟩
 mul x y hx hy:=⟨rfl,mulT_lt h hx hy⟩
 neg x _:=⟨rfl,qdP (by have:=h.small.p1;omega) m x⟩
 inv x hx h0:=⟨rfl,(h.tab.inv (qaV (by have:=h.small.p1;omega) h.small.m1 md) h0 hx).2.1⟩
def St(w:Wo)(B R cR gb Bg p m:Nat)(l:LN)(rows:LL)(n:Nat)(v12:Value)(piv:LN)(ba t:Nat)(wr:Wo):Prop:=
 ∃bs,wr.heap[ba]?=some (.cells #[Y (t:Int)] 3 (0,0))/\EI w B R cR gb Bg p m l rows bs wr/\PivAt wr (w.heap.size+3) v12 piv n bs/\(∀i,i<n->bk bs i≠ba)/\rows.length=n/\w.heap.size+3<=ba
theorem block_lt{w:Wo}{b:Nat}{o:Obj}(h:w.heap[b]?=some o):b<w.heap.size:=by
 rcases Nat.lt_or_ge b w.heap.size with h1|h1
 . exact h1
 . rw[Array.getElem?_eq_none h1] at h;cases h
theorem bk_swap{c:List (Nat × Nat)}{i j n:Nat}(g:c.length=n)(d:i<n)(f:j<n)(P:Nat->Prop)(h:∀ k,k<n->P (bk c k)):∀ k,k<n->P (bk (SwapBs c i j) k):=by
 intro k b;unfold bk SwapBs;rw[qeW _ _ _ _ _ so,qeW _ _ _ _ _ U0];split
 . exact h i d
 . split
   . exact h j f
   . exact h k b
theorem bk_set{d:List (Nat × Nat)}{i n g c:Nat}(l:d.length=n)(j:i<n)(P:Nat->Prop)(f:P g)(h:∀k,k<n->P (bk d k)):∀k,k<n->P (bk (d.set i (g,c)) k):=by
 intro k b;unfold bk;rw[qeW _ _ _ _ _ U0];split
 . exact f
 . exact h k b
section
variable {w:Wo} {B R cR gb Bg p m:Nat} {l:LN} {rows:LL} {n:Nat} {v12:Value} {piv:LN} {ba t:Nat} {wr wx:Wo}
theorem GridAt.kept{w w':Wo}{b:List (Nat × Nat)}{r:Option Nat}(h:GridAt w B R cR rows b)(c:w.grownBy w' r)(d:r≠some R)(f:∀i,i<rows.length->r≠some (bk b i)):GridAt w' B R cR rows b:=
 ⟨h.len,qfL h.out (c.block R h.lt.2 (fun e=>d e.symm)),fun i hi=>(h.row i hi).grown c (fun e=>f i hi e.symm),h.nd⟩
theorem EI.kept{q:List (Nat × Nat)}{r:Option Nat}(h:EI w B R cR gb Bg p m l rows q wr)(x:B<=w.heap.size)(s:Bg<=B)(o:wr.grownBy wx r)(u:∀g,r=some g->w.heap.size+3<=g)(v:∀i,i<rows.length->r≠some (bk q i)):EI w B R cR gb Bg p m l rows q wx:=by have f:=h.size;have d:=h.out;have b:∀k,k<3->wx.cell? (zA (w.heap.size+k) 0)=wr.cell? (zA (w.heap.size+k) 0):=fun k hk=>o.cell_far (zA (w.heap.size+k) 0) (by show w.heap.size+k < _;omega) (fun e=>by have j:w.heap.size+3<=w.heap.size+k:=u _ e.symm;omega);have c:Below B wr wx:=⟨o.os,o.tape,o.output,o.size,fun k hk=>o.block k U0 (fun e=>by have:=u _ e.symm;omega)⟩;exact⟨h.grid.kept o (fun e=>by have:=u _ e;omega) v,h.field.keep (c.mono s),(b 0 U0).trans h.b4,(b 1 U0).trans h.b5,(b 2 U0).trans h.b7,h.below.trans c,Nat.le_trans f o.size,d,h.apart⟩
theorem St.grow(h:St w B R cR gb Bg p m l rows n v12 piv ba t wr)(q:B<=w.heap.size)(k:Bg<=B)(o:zB wr wx):St w B R cR gb Bg p m l rows n v12 piv ba t wx:=by obtain⟨c,b,d,f,g,i,j⟩:=h;exact⟨c,(o.block ba (block_lt b)).trans b,d.grow q k o,f.grow o,g,i,j⟩
theorem St.b4(h:St w B R cR gb Bg p m l rows n v12 piv ba t wr):wr.cell? (zA w.heap.size 0)=some (zP gb):=by obtain⟨_,_,h,_⟩:=h;exact h.b4
theorem St.b5(h:St w B R cR gb Bg p m l rows n v12 piv ba t wr):wr.cell? (zA (w.heap.size+1) 0)=some (zS R n cR):=by obtain⟨_,_,h,_,_,rfl,_⟩:=h;exact h.b5
theorem St.box(h:St w B R cR gb Bg p m l rows n v12 piv ba t wr):wr.cell? (zA ba 0)=some (Y t):=by obtain⟨_,h,_⟩:=h;exact cell_of_row _ _ 0 _ _ _ h
theorem St.field(h:St w B R cR gb Bg p m l rows n v12 piv ba t wr):GFAt wr Bg gb p m l (logL l (p^m)):=by obtain⟨_,_,h,_⟩:=h;exact h.field
theorem St.at_(h:St w B R cR gb Bg p m l rows n v12 piv ba t wr){cols:Nat}(r:Grid (p^m) n cols rows){i c:Nat}(s:i<n)(q:c<cols):∃b cc,wr.cell? (zA R i)=some (zS b cols cc)/\wr.cell? (zA b c)=some (Y ((at2 rows i c:Nat):Int)):=by obtain⟨k,_,h,_,_,o,_⟩:=h;have d:=h.grid.cell (i:=i) U0;have g:=h.grid.row i U0;have f:=(r.row s).1;rw[f] at d;refine⟨_,_,d,?_⟩;have:=g.cell (j:=c) (by rw[qaA,f];exact q);rw[qaC] at this;exact this
def RelD(w:Wo)(B R cR gb Bg p m:Nat)(l:LN)(rows:LL)(n:Nat)(v12:Value)(piv:LN)(ba t:Nat)(v10:Value)(wx:Wo):Prop:=
 ∃d:Nat,v10=Y (d:Int)/\d<p^m/\St w B R cR gb Bg p m l rows n v12 piv ba t wx
def RelV(w:Wo)(B R cR gb Bg p m:Nat)(l:LN)(rows:LL)(n:Nat)(v12:Value)(piv:LN)(ba t iv:Nat)(v16 v17:Value)(wx:Wo):Prop:=
 ∃bi:Nat,v16=zP bi/\v17=Y 0/\wx.cell? (zA bi 0)=some (Y (iv:Int))/\St w B R cR gb Bg p m l rows n v12 piv ba t wx
def RelCI(w:Wo)(B R cR gb Bg p m:Nat)(l:LN)(c:Nat)(rows2:LL)(n:Nat)(v12:Value)(piv:LN)(ba t:Nat)(v98:Value)(wx:Wo):Prop:=
 ∃i:Nat,i<=n/\v98=Y (i:Int)/\St w B R cR gb Bg p m l (clearGo (opsT p m l) c t rows2 i) n v12 piv ba t wx
theorem swap_st(h:St w B R cR gb Bg p m l rows n v12 piv ba t wr)(A:B<=w.heap.size)(v:Bg<=B){k r:Nat}(u:t<n)(s:k<n)(z:t≠k)(C:n<=256)(y:wr.cell? (zA r 0)=some (Y k))(x:r≠R):
 zC 242 #[.func (.func 243) #[] #[zP r,zP ba],zP (w.heap.size+1),zP (w.heap.size+1+1)] wr fun e w'=>e=.returned (.tuple #[])/\St w B R cR gb Bg p m l (swapRows rows t k) n v12 piv ba t w':=by
 obtain⟨g,d,c,f,i,rfl,j⟩:=h;have o:=c.grid.lt;have q:=c.out
 refine(each2_c r ba R rows.length cR (w.heap.size+1) (w.heap.size+1+1) R (fun w'=>GridAt w' B R cR (swapRows rows t k) (SwapBs g t k)) wr c.b5 c.b7 U0
  (swap_c B R cR t k ba r rows g wr c.grid u s z U0 (cell_of_row _ _ 0 _ _ _ d) y U0 x)).mono ?_
 rintro e w' ⟨he,hd,hg⟩;refine⟨he,SwapBs g t k,(hg.block ba (block_lt d) (fun e=>by injection e with e;omega)).trans d,c.turned A v (swap_len ..) hd hg o.1 (.inl q) (bk_swap c.grid.len u s (fun b=>b<w.heap.size\/w.heap.size+3<=b) c.apart),f.grown hg (fun e=>by have:=(f.1.lt _ e).1;omega) (bk_swap c.grid.len u s (fun b=>v12.ownBlock≠some b) f.2),bk_swap c.grid.len u s (fun b=>b≠ba) i,swap_len ..,j⟩
theorem scale_st(h:St w B R cR gb Bg p m l rows n v12 piv ba t wr)(C:B<=w.heap.size)(y:Bg<=B){md:LN}{a x cols:Nat}(D:FT p m md l)(A:Grid (p^m) n cols rows)(H:cols<=256)(v:t<n)(I:n<=256)(E:a<p^m)(z:wr.cell? (zA x 0)=some (Y a)):
 zC 242 #[.func (.func 244) #[] #[zP w.heap.size,zP x,zP ba],zP (w.heap.size+1),zP (w.heap.size+1+1)] wr fun e w'=>e=.returned (.tuple #[])/\St w B R cR gb Bg p m l (rows.set t (scaleRow (opsT p m l) a (rows.getD t []))) n v12 piv ba t w':=by
 obtain⟨g,f,c,d,i,rfl,j⟩:=h;have q:=c.grid.lt;have r:=c.out;have u:=c.size;have k:=block_lt f;obtain⟨s,o⟩:=A.row v
 refine(each3_c w.heap.size x ba R rows.length cR (w.heap.size+1) (w.heap.size+1+1) R (fun w'=>GridAt w' B R cR (rows.set t (scaleRow (opsT p m l) a (rows.getD t []))) (g.set t (wr.heap.size,(rows.getD t []).length))) wr c.b5 c.b7 U0
  (scrow_c B R cR t w.heap.size x ba gb p m a md l rows g wr D (c.field.more U0) c.grid v U0 E o U0 U0 c.b4 z (cell_of_row _ _ 0 _ _ _ f))).mono ?_
 rintro e w' ⟨he,hd,hg⟩;refine⟨he,g.set t (wr.heap.size,(rows.getD t []).length),(hg.block ba k (fun e=>by injection e with e;omega)).trans f,c.turned C y U2 hd hg q.1 (.inl r) (bk_set c.grid.len v (fun b=>b<w.heap.size\/w.heap.size+3<=b) (.inr u) c.apart),d.grown hg (fun e=>by have:=(d.1.lt _ e).1;omega) (bk_set c.grid.len v (fun b=>v12.ownBlock≠some b) (fun e=>by have:=(d.1.lt _ e).2;omega) d.2),bk_set c.grid.len v (fun b=>b≠ba) U0 i,U2,j⟩
theorem clear_st(h:St w B R cR gb Bg p m l rows n v12 piv ba t wr)(J:B<=w.heap.size)(z:Bg<=B){md:LN}{i x bi D cols:Nat}(K:FT p m md l)(C:Grid (p^m) n cols rows)(M:cols<=256)(I:t<n)(y:i<n)(H:i≠t)(N:n<=256)(L:x<p^m)(E:wr.cell? (zA bi 0)=some (Y i))(A:wr.cell? (zA D 0)=some (Y x)):
 zC 242 #[.func (.func 245) #[] #[zP w.heap.size,zP bi,zP D,zP ba],zP (w.heap.size+1),zP (w.heap.size+1+1)] wr fun e w'=>e=.returned (.tuple #[])/\St w B R cR gb Bg p m l (rows.set i (addRow (opsT p m l) (rows.getD i []) (negD p m x) (rows.getD t []))) n v12 piv ba t w':=by
 obtain⟨g,c,b,d,f,rfl,k⟩:=h;have v:=b.size;have o:=block_lt c;have j:=b.apart i y;obtain⟨s,q⟩:=C.row y;obtain⟨u,r⟩:=C.row I
 refine(each4_c w.heap.size bi D ba R rows.length cR (w.heap.size+1) (w.heap.size+1+1) (bk g i) (fun w'=>GridAt w' B R cR (rows.set i (addRow (opsT p m l) (rows.getD i []) (negD p m x) (rows.getD t []))) g) wr b.b5 b.b7 U0
  (clrow_c B R cR i t w.heap.size bi D ba gb Bg p m x md l rows g wr K b.field z b.grid y I H U0 L q r U0 U0 b.b4 E A (cell_of_row _ _ 0 _ _ _ c))).mono ?_
 rintro e w' ⟨he,hd,hg⟩;exact⟨he,g,(hg.block ba o (fun e=>f i y (by injection e with e;exact e.symm))).trans c,b.turned J z U2 hd hg (b.grid.row i y).lt.1 j b.apart,d.grown hg (d.2 i y) d.2,f,U2,k⟩
end
theorem col_facts{p m:Nat}{md l:LN}(r:FT p m md l){n cols c k:Nat}{s:ElS}(u:Grid (p^m) n cols s.rows)(j:s.piv.length<n)(o:c<cols)(v:k=findRow s.rows c (s.rows.length-s.piv.length) s.piv.length)(q:k<n):
 Grid (p^m) n cols (swapRows s.rows s.piv.length k)/\at2 (swapRows s.rows s.piv.length k) s.piv.length c≠0/\Grid (p^m) n cols (normRow (opsT p m l) (swapRows s.rows s.piv.length k) s.piv.length c)/\
 (∀i,i<=n->Grid (p^m) n cols (clearGo (opsT p m l) c s.piv.length (normRow (opsT p m l) (swapRows s.rows s.piv.length k) s.piv.length c) i))/\
 elStep (opsT p m l) c s=⟨clearGo (opsT p m l) c s.piv.length (normRow (opsT p m l) (swapRows s.rows s.piv.length k) s.piv.length c) n,s.piv++[c]⟩:=by
 have b:=u.1;have g:=qdC u j q;have d:at2 s.rows k c≠0:=by have:=qcF s.rows c (s.rows.length-s.piv.length) s.piv.length U0;rw[<- v] at this;exact this
 have f:at2 (swapRows s.rows s.piv.length k) s.piv.length c≠0:=by unfold at2 at d ⊢;rw[qfT U0 U0];exact d
 have h:=(qfW (qdA r) g j o f).2;refine⟨g,f,h,fun i hi=>(qdJ (qdA r) h o j i hi).2,?_⟩;unfold elStep;rw[if_pos U0,<- v,if_neg U0,b]
theorem inv_one{p m:Nat}{md l:LN}(f:FT p m md l){x:Nat}(g:x<p^m)(i:x≠0):(opsT p m l).inv x<p^m/\(x=1 ↔ (opsT p m l).inv x=1):=by
 have H:=qaV (p:=p) (m:=m) (by have:=f.small.p1;omega) f.small.m1 md;obtain⟨b,c,_⟩:=f.tab.inv H i g;refine⟨c,?_,?_⟩
 . intro h;subst h;rw[H.one _ c] at b;exact b
 . intro h;have d:invT l (logL l (p^m)) (p^m) x=1:=h;rw[d,H.comm,H.one _ g] at b;exact b
theorem swap_self(rows:LL)(i:Nat)(d:i<rows.length):swapRows rows i i=rows:=by
 unfold swapRows;apply List.ext_getElem
 . simp
 . intro j b c;rw[List.getElem_set,List.getElem_set];by_cases h:i=j
   . subst h;simp[List.getD,d]
   . rw[if_neg h,if_neg h]
theorem clear_stay{O:Ops}{c t i:Nat}{rows:LL}(h:i=t\/at2 (clearGo O c t rows i) i c=0):clearGo O c t rows (i+1)=clearGo O c t rows i:=by show(if _ then _ else _)=_;rw[if_neg U0]
theorem clear_turn{O:Ops}{c t i:Nat}{rows:LL}(b:i≠t)(d:at2 (clearGo O c t rows i) i c≠0):clearGo O c t rows (i+1)=(clearGo O c t rows i).set i (addRow O ((clearGo O c t rows i).getD i []) (O.neg (at2 (clearGo O c t rows i) i c)) ((clearGo O c t rows i).getD t [])):=by show(if _ then _ else _)=_;rw[if_pos ⟨b,d⟩]
end Go.Proofs.YtflejelbdlelpaaGreat
