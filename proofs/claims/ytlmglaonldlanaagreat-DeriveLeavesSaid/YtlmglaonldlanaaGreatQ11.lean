/-
 matrix.eliminate: a step done to the rows (there are no other rows). matrix.eliminate: what its rounds keep. matrix.eliminate: its steps, as its rounds keep them.
-/
import Derived.Test.YtlmglaonldlanaaGreatQ10
namespace Go.Proofs.YtlmglaonldlanaaGreat
open Go.RowKit Pln
set_option maxHeartbeats 1000000 in
set_option maxRecDepth 100000 in
theorem each2_c (p0 p1 R n cR b5 b7 g:Nat) (Q:World->Prop) (w:World) (h5:w.cell? ⟨b5,0,none⟩=some (.slice (some ⟨R,0,none⟩) n cR)) (h7:w.cell? ⟨b7,0,none⟩=some (.slice none 0 0)) (hne:b7≠g)
 (hs:Calls Tryz.prog 252 #[.slice (some ⟨R,0,none⟩) n cR,.pointer (some ⟨p0,0,none⟩),.pointer (some ⟨p1,0,none⟩)] w fun e w'=>e=.returned (.tuple #[])/\Q w'/\w.grownBy w' (some g)) :
 Calls Tryz.prog 251 #[.func (.func 252) #[] #[.pointer (some ⟨p0,0,none⟩),.pointer (some ⟨p1,0,none⟩)],.pointer (some ⟨b5,0,none⟩),.pointer (some ⟨b7,0,none⟩)] w fun e w'=>e=.returned (.tuple #[])/\Q w'/\w.grownBy w' (some g):=by
 have HS:=Lib.hid hs
 have H7:=Lib.hid h7
 have hlt:b7<w.heap.size:=World.block_lt_of_cell? w _ h7
 clear hs h7
 go_enter Tryz.func251,Tryz.ntmps251
 go_wp2_with fail
 (with_reducible refine HS.out.mono ?_)
 rintro e w1 ⟨rfl,hq,hg⟩
 have HQ:=Lib.hid hq
 have HG:=Lib.hid hg
 have h7:w1.cell? ⟨b7,0,none⟩=some (.slice none 0 0):=(hg.cell_far ⟨b7,0,none⟩ hlt (fun e=>hne (by injection e))).trans H7.out
 clear hq hg h5
 go_wp2_with fail
 go_end0
 exact ⟨rfl,HQ.out,HG.out⟩
set_option maxHeartbeats 1000000 in
set_option maxRecDepth 100000 in
theorem each3_c (p0 p1 p2 R n cR b5 b7 g:Nat) (Q:World->Prop) (w:World) (h5:w.cell? ⟨b5,0,none⟩=some (.slice (some ⟨R,0,none⟩) n cR)) (h7:w.cell? ⟨b7,0,none⟩=some (.slice none 0 0)) (hne:b7≠g)
 (hs:Calls Tryz.prog 253 #[.slice (some ⟨R,0,none⟩) n cR,.pointer (some ⟨p0,0,none⟩),.pointer (some ⟨p1,0,none⟩),.pointer (some ⟨p2,0,none⟩)] w fun e w'=>e=.returned (.tuple #[])/\Q w'/\w.grownBy w' (some g)) :
 Calls Tryz.prog 251 #[.func (.func 253) #[] #[.pointer (some ⟨p0,0,none⟩),.pointer (some ⟨p1,0,none⟩),.pointer (some ⟨p2,0,none⟩)],.pointer (some ⟨b5,0,none⟩),.pointer (some ⟨b7,0,none⟩)] w fun e w'=>e=.returned (.tuple #[])/\Q w'/\w.grownBy w' (some g):=by
 have HS:=Lib.hid hs
 have H7:=Lib.hid h7
 have hlt:b7<w.heap.size:=World.block_lt_of_cell? w _ h7
 clear hs h7
 go_enter Tryz.func251,Tryz.ntmps251
 go_wp2_with fail
 (with_reducible refine HS.out.mono ?_)
 rintro e w1 ⟨rfl,hq,hg⟩
 have HQ:=Lib.hid hq
 have HG:=Lib.hid hg
 have h7:w1.cell? ⟨b7,0,none⟩=some (.slice none 0 0):=(hg.cell_far ⟨b7,0,none⟩ hlt (fun e=>hne (by injection e))).trans H7.out
 clear hq hg h5
 go_wp2_with fail
 go_end0
 exact ⟨rfl,HQ.out,HG.out⟩
set_option maxHeartbeats 1000000 in
set_option maxRecDepth 100000 in
theorem each4_c (p0 p1 p2 p3 R n cR b5 b7 g:Nat) (Q:World->Prop) (w:World) (h5:w.cell? ⟨b5,0,none⟩=some (.slice (some ⟨R,0,none⟩) n cR)) (h7:w.cell? ⟨b7,0,none⟩=some (.slice none 0 0)) (hne:b7≠g)
 (hs:Calls Tryz.prog 254 #[.slice (some ⟨R,0,none⟩) n cR,.pointer (some ⟨p0,0,none⟩),.pointer (some ⟨p1,0,none⟩),.pointer (some ⟨p2,0,none⟩),.pointer (some ⟨p3,0,none⟩)] w fun e w'=>e=.returned (.tuple #[])/\Q w'/\w.grownBy w' (some g)) :
 Calls Tryz.prog 251 #[.func (.func 254) #[] #[.pointer (some ⟨p0,0,none⟩),.pointer (some ⟨p1,0,none⟩),.pointer (some ⟨p2,0,none⟩),.pointer (some ⟨p3,0,none⟩)],.pointer (some ⟨b5,0,none⟩),.pointer (some ⟨b7,0,none⟩)] w fun e w'=>e=.returned (.tuple #[])/\Q w'/\w.grownBy w' (some g):=by
 have HS:=Lib.hid hs
 have H7:=Lib.hid h7
 have hlt:b7<w.heap.size:=World.block_lt_of_cell? w _ h7
 clear hs h7
 go_enter Tryz.func251,Tryz.ntmps251
 go_wp2_with fail
 (with_reducible refine HS.out.mono ?_)
 rintro e w1 ⟨rfl,hq,hg⟩
 have HQ:=Lib.hid hq
 have HG:=Lib.hid hg
 have h7:w1.cell? ⟨b7,0,none⟩=some (.slice none 0 0):=(hg.cell_far ⟨b7,0,none⟩ hlt (fun e=>hne (by injection e))).trans H7.out
 clear hq hg h5
 go_wp2_with fail
 go_end0
 exact ⟨rfl,HQ.out,HG.out⟩
end Go.Proofs.YtlmglaonldlanaaGreat
namespace Go.Proofs.YtlmglaonldlanaaGreat
open Go.RowKit Pln
structure EI (w:World) (B R cR gb Bg p m:Nat) (l:List Nat) (rows:List (List Nat)) (bs:List (Nat × Nat)) (wr:World):Prop where
 grid:GridAt wr B R cR rows bs
 field:GFAt wr Bg gb p m l (logL l (p ^ m))
 b4:wr.cell? ⟨w.heap.size,0,none⟩=some (.pointer (some ⟨gb,0,none⟩))
 b5:wr.cell? ⟨w.heap.size+1,0,none⟩=some (.slice (some ⟨R,0,none⟩) rows.length cR)
 b7:wr.cell? ⟨w.heap.size+1+1,0,none⟩=some (.slice none 0 0)
 below:Below B w wr
 size:w.heap.size+3<=wr.heap.size
 out:R<w.heap.size
 apart:∀ i,i<rows.length->bk bs i<w.heap.size\/w.heap.size+3<=bk bs i
def PivAt (w:World) (base:Nat) (v:Value) (piv:List Nat) (n:Nat) (bs:List (Nat × Nat)):Prop :=
 w.ownsRow base 3 1 v piv.length ((nz piv).map (Value.int .i64))/\∀ i,i<n->v.ownBlock≠some (bk bs i)
section
variable {w:World} {B R cR gb Bg p m:Nat} {l:List Nat} {rows:List (List Nat)} {bs:List (Nat × Nat)} {wr wx:World}
theorem EI.grow (h:EI w B R cR gb Bg p m l rows bs wr) (hB:B<=w.heap.size) (hBg:Bg<=B) (hb:Below wr.heap.size wr wx):EI w B R cR gb Bg p m l rows bs wx:=by
 have hs:=h.size
 refine ⟨h.grid.grow hb,h.field.keep (hb.mono (by omega)),(hb.cell (p:=⟨w.heap.size,0,none⟩) (by show w.heap.size < _;omega)).trans h.b4,(hb.cell (p:=⟨w.heap.size+1,0,none⟩) (by show w.heap.size+1 < _;omega)).trans h.b5,
  (hb.cell (p:=⟨w.heap.size+2,0,none⟩) (by show w.heap.size+2 < _;omega)).trans h.b7,h.below.trans (hb.mono (by omega)),Nat.le_trans hs hb.size,h.out,h.apart⟩
theorem EI.wrote (h:EI w B R cR gb Bg p m l rows bs wr) (hB:B<=w.heap.size) (hBg:Bg<=B) {g:Nat} (hg:w.heap.size+3<=g) (hap:∀ i,i<rows.length->bk bs i≠g) (u:Value):EI w B R cR gb Bg p m l rows bs (wr.setCell ⟨g,0,none⟩ u):=by
 have hs:=h.size
 have ho:=h.out
 have hb:Below (w.heap.size+3) wr (wr.setCell ⟨g,0,none⟩ u):=(Below.refl _ _).setCell (p:=⟨g,0,none⟩) hg u
 refine ⟨h.grid.else_ (p:=⟨g,0,none⟩) (by show R≠g;omega) hap u,h.field.keep (hb.mono (by omega)),(hb.cell (p:=⟨w.heap.size,0,none⟩) (by show w.heap.size < _;omega)).trans h.b4,(hb.cell (p:=⟨w.heap.size+1,0,none⟩) (by show w.heap.size+1 < _;omega)).trans h.b5,
  (hb.cell (p:=⟨w.heap.size+2,0,none⟩) (by show w.heap.size+2 < _;omega)).trans h.b7,h.below.trans (hb.mono (by omega)),Nat.le_trans hs (by simp),h.out,h.apart⟩
theorem EI.turned (h:EI w B R cR gb Bg p m l rows bs wr) (hB:B<=w.heap.size) (hBg:Bg<=B) {rows':List (List Nat)} {bs':List (Nat × Nat)} {g:Nat} (hl:rows'.length=rows.length) (hd:GridAt wx B R cR rows' bs') (hg:wr.grownBy wx (some g)) (hgB:B<=g) (hgb:g<w.heap.size\/w.heap.size+3<=g)
 (hap:∀ i,i<rows.length->bk bs' i<w.heap.size\/w.heap.size+3<=bk bs' i):EI w B R cR gb Bg p m l rows' bs' wx:=by
 have hs:=h.size
 have hcell:∀ k,k<3->wx.cell? ⟨w.heap.size+k,0,none⟩=wr.cell? ⟨w.heap.size+k,0,none⟩:=fun k hk=>hg.cell_far ⟨w.heap.size+k,0,none⟩ (by show w.heap.size+k < _;omega) (fun e=>by injection e with e;have e':w.heap.size+k=g:=e;omega)
 have hb:Below B wr wx:=⟨hg.os,hg.tape,hg.output,hg.size,fun k hk=>hg.block k (by omega) (fun e=>by injection e with e;omega)⟩
 exact ⟨hd,h.field.keep (hb.mono hBg),(hcell 0 (by omega)).trans h.b4,by rw [hl];exact (hcell 1 (by omega)).trans h.b5,(hcell 2 (by omega)).trans h.b7,h.below.trans hb,Nat.le_trans hs hg.size,h.out,fun i hi=>hap i (by omega)⟩
end
theorem PivAt.grow {w w':World} {base n:Nat} {v:Value} {piv:List Nat} {bs:List (Nat × Nat)} (h:PivAt w base v piv n bs) (hb:Below w.heap.size w w'):PivAt w' base v piv n bs:=by
 refine ⟨h.1.kept (row:=none) ⟨hb.os,hb.tape,hb.output,hb.size,fun k hk _=>hb.block k hk⟩ ?_,h.2⟩
 cases hv:v.ownBlock <;> simp
theorem PivAt.grown {w w':World} {base n g:Nat} {v:Value} {piv:List Nat} {bs bs':List (Nat × Nat)} (h:PivAt w base v piv n bs) (hg:w.grownBy w' (some g)) (hne:v.ownBlock≠some g) (hb:∀ i,i<n->v.ownBlock≠some (bk bs' i)):PivAt w' base v piv n bs' :=
 ⟨h.1.kept hg (.inr hne),hb⟩
section
variable {O:Ops}
theorem swap_len (rows:List (List Nat)) (i j:Nat):(swapRows rows i j).length=rows.length:=by simp [swapRows]
theorem norm_len (rows:List (List Nat)) (i c:Nat):(normRow O rows i c).length=rows.length:=by unfold normRow;split <;> simp
theorem clear_len (c t:Nat) (rows:List (List Nat)):∀ i,(clearGo O c t rows i).length=rows.length
 | 0=>rfl
 | i + 1 => by
   unfold clearGo
   split
   . rw [List.length_set];exact clear_len c t rows i
   . exact clear_len c t rows i
theorem elStep_len (c:Nat) (s:ElS):(elStep O c s).rows.length=s.rows.length:=by
 unfold elStep
 split
 . split
   . rfl
   . show (clearGo O c _ _ _).length = _
     rw [clear_len,norm_len,swap_len]
 . rfl
theorem qcW (rows:List (List Nat)):∀ c,(elGo O rows c).rows.length=rows.length
 | 0=>rfl
 | c+1=>by unfold elGo;rw [elStep_len,qcW rows c]
theorem qbW (rows:List (List Nat)):∀ c,(elGo O rows c).piv.length<=c/\(elGo O rows c).piv.length<=rows.length
 | 0=>⟨Nat.zero_le _,Nat.zero_le _⟩
 | c + 1 => by
   have ih:=qbW rows c
   have hl:=qcW (O:=O) rows c
   unfold elGo elStep
   split
   . split
     . exact ⟨by omega,ih.2⟩
     . rename_i h1 h2
       show ((elGo O rows c).piv++[c]).length<=_/\((elGo O rows c).piv++[c]).length<=_
       rw [List.length_append,List.length_singleton]
       omega
   . exact ⟨by omega,ih.2⟩
theorem elGo_full (rows:List (List Nat)) {c:Nat} (h:(elGo O rows c).piv.length=rows.length):∀ k,elGo O rows (c+k)=elGo O rows c
 | 0=>rfl
 | k + 1 => by
   have ih:=elGo_full rows h k
   show elStep O (c+k) (elGo O rows (c+k))=_
   rw [ih]
   unfold elStep
   rw [if_neg (by rw [h,qcW];omega)]
end
theorem qeA {p m:Nat} {md l:List Nat} (h:FT p m md l):OpsEq (p ^ m) (opsT p m l) (opsT p m l) where
 add x y _ _:=⟨rfl,qeO (by have:=h.small.p1;omega) m x y⟩
 mul x y hx hy:=⟨rfl,qcZ h hx hy⟩
 neg x _:=⟨rfl,qfN (by have:=h.small.p1;omega) m x⟩
 inv x hx h0:=⟨rfl,(h.tab.inv (qaU (by have:=h.small.p1;omega) h.small.m1 md) h0 hx).2.1⟩
end Go.Proofs.YtlmglaonldlanaaGreat
namespace Go.Proofs.YtlmglaonldlanaaGreat
open Go.RowKit Pln
def St (w:World) (B R cR gb Bg p m:Nat) (l:List Nat) (rows:List (List Nat)) (n:Nat) (v12:Value) (piv:List Nat) (ba t:Nat) (wr:World):Prop :=
 ∃ bs,wr.heap[ba]?=some (.cells #[.int .i64 (t:Int)] 3 (0,0))/\EI w B R cR gb Bg p m l rows bs wr/\PivAt wr (w.heap.size+3) v12 piv n bs/\(∀ i,i<n->bk bs i≠ba)/\rows.length=n/\w.heap.size+3<=ba
theorem qbE {w:World} {b:Nat} {o:Obj} (h:w.heap[b]?=some o):b<w.heap.size:=by
 rcases Nat.lt_or_ge b w.heap.size with h1 | h1
 . exact h1
 . rw [Array.getElem?_eq_none h1] at h
   cases h
theorem bk_swap {bs:List (Nat × Nat)} {i j n:Nat} (hl:bs.length=n) (hi:i<n) (hj:j<n) (P:Nat->Prop) (h:∀ k,k<n->P (bk bs k)):∀ k,k<n->P (bk (SwapBs bs i j) k):=by
 intro k hk
 unfold bk SwapBs
 rw [qbU _ _ _ _ _ (by simp;omega),qbU _ _ _ _ _ (by omega)]
 split
 . exact h i hi
 . split
   . exact h j hj
   . exact h k hk
theorem bk_set {bs:List (Nat × Nat)} {i n g c:Nat} (hl:bs.length=n) (hi:i<n) (P:Nat->Prop) (hg:P g) (h:∀ k,k<n->P (bk bs k)):∀ k,k<n->P (bk (bs.set i (g,c)) k):=by
 intro k hk
 unfold bk
 rw [qbU _ _ _ _ _ (by omega)]
 split
 . exact hg
 . exact h k hk
section
variable {w:World} {B R cR gb Bg p m:Nat} {l:List Nat} {rows:List (List Nat)} {n:Nat} {v12:Value} {piv:List Nat} {ba t:Nat} {wr wx:World}
theorem GridAt.kept {w w':World} {bs:List (Nat × Nat)} {r:Option Nat} (h:GridAt w B R cR rows bs) (hg:w.grownBy w' r) (hR:r≠some R) (hr:∀ i,i<rows.length->r≠some (bk bs i)):GridAt w' B R cR rows bs :=
 ⟨h.len,qdY h.out (hg.block R h.lt.2 (fun e=>hR e.symm)),fun i hi=>(h.row i hi).grown hg (fun e=>hr i hi e.symm),h.nd⟩
theorem EI.kept {bs:List (Nat × Nat)} {r:Option Nat} (h:EI w B R cR gb Bg p m l rows bs wr) (hB:B<=w.heap.size) (hBg:Bg<=B) (hg:wr.grownBy wx r) (hr:∀ g,r=some g->w.heap.size+3<=g) (ha:∀ i,i<rows.length->r≠some (bk bs i)):EI w B R cR gb Bg p m l rows bs wx:=by
 have hs:=h.size
 have ho:=h.out
 have hcell:∀ k,k<3->wx.cell? ⟨w.heap.size+k,0,none⟩=wr.cell? ⟨w.heap.size+k,0,none⟩:=fun k hk=>hg.cell_far ⟨w.heap.size+k,0,none⟩ (by show w.heap.size+k < _;omega) (fun e=>by have e':w.heap.size+3<=w.heap.size+k:=hr _ e.symm;omega)
 have hb:Below B wr wx:=⟨hg.os,hg.tape,hg.output,hg.size,fun k hk=>hg.block k (by omega) (fun e=>by have:=hr _ e.symm;omega)⟩
 exact ⟨h.grid.kept hg (fun e=>by have:=hr _ e;omega) ha,h.field.keep (hb.mono hBg),(hcell 0 (by omega)).trans h.b4,(hcell 1 (by omega)).trans h.b5,(hcell 2 (by omega)).trans h.b7,h.below.trans hb,Nat.le_trans hs hg.size,ho,h.apart⟩
theorem St.grow (h:St w B R cR gb Bg p m l rows n v12 piv ba t wr) (hB:B<=w.heap.size) (hBg:Bg<=B) (hb:Below wr.heap.size wr wx):St w B R cR gb Bg p m l rows n v12 piv ba t wx:=by
 obtain ⟨bs,h1,h2,h3,h4,h5,h6⟩:=h
 exact ⟨bs,(hb.block ba (qbE h1)).trans h1,h2.grow hB hBg hb,h3.grow hb,h4,h5,h6⟩
theorem St.b4 (h:St w B R cR gb Bg p m l rows n v12 piv ba t wr):wr.cell? ⟨w.heap.size,0,none⟩=some (.pointer (some ⟨gb,0,none⟩)):=by
 obtain ⟨_,_,h,_⟩:=h
 exact h.b4
theorem St.b5 (h:St w B R cR gb Bg p m l rows n v12 piv ba t wr):wr.cell? ⟨w.heap.size+1,0,none⟩=some (.slice (some ⟨R,0,none⟩) n cR):=by
 obtain ⟨_,_,h,_,_,rfl,_⟩:=h
 exact h.b5
theorem St.box (h:St w B R cR gb Bg p m l rows n v12 piv ba t wr):wr.cell? ⟨ba,0,none⟩=some (.int .i64 t):=by
 obtain ⟨_,h,_⟩:=h
 exact cell_of_row _ _ 0 _ _ _ h
theorem St.field (h:St w B R cR gb Bg p m l rows n v12 piv ba t wr):GFAt wr Bg gb p m l (logL l (p ^ m)):=by
 obtain ⟨_,_,h,_⟩:=h
 exact h.field
theorem St.at_ (h:St w B R cR gb Bg p m l rows n v12 piv ba t wr) {cols:Nat} (hg:Grid (p ^ m) n cols rows) {i c:Nat} (hi:i<n) (hc:c<cols):∃ b cc,wr.cell? ⟨R,i,none⟩=some (.slice (some ⟨b,0,none⟩) cols cc)/\wr.cell? ⟨b,c,none⟩=some (.int .i64 ((at2 rows i c:Nat):Int)):=by
 obtain ⟨bs,_,h,_,_,hl,_⟩:=h
 have h1:=h.grid.cell (i:=i) (by omega)
 have h2:=h.grid.row i (by omega)
 have h3:=(hg.row hi).1
 rw [h3] at h1
 refine ⟨_,_,h1,?_⟩
 have:=h2.cell (j:=c) (by rw [qaB,h3];exact hc)
 rw [qaF] at this
 exact this
def RelD (w:World) (B R cR gb Bg p m:Nat) (l:List Nat) (rows:List (List Nat)) (n:Nat) (v12:Value) (piv:List Nat) (ba t:Nat) (v10:Value) (wx:World):Prop :=
 ∃ d:Nat,v10=.int .i64 (d:Int)/\d<p ^ m/\St w B R cR gb Bg p m l rows n v12 piv ba t wx
def RelV (w:World) (B R cR gb Bg p m:Nat) (l:List Nat) (rows:List (List Nat)) (n:Nat) (v12:Value) (piv:List Nat) (ba t iv:Nat) (v16 v17:Value) (wx:World):Prop :=
 ∃ bi:Nat,v16=.pointer (some ⟨bi,0,none⟩)/\v17=.int .i64 0/\wx.cell? ⟨bi,0,none⟩=some (.int .i64 (iv:Int))/\St w B R cR gb Bg p m l rows n v12 piv ba t wx
def RelCI (w:World) (B R cR gb Bg p m:Nat) (l:List Nat) (c:Nat) (rows2:List (List Nat)) (n:Nat) (v12:Value) (piv:List Nat) (ba t:Nat) (v98:Value) (wx:World):Prop :=
 ∃ i:Nat,i<=n/\v98=.int .i64 (i:Int)/\St w B R cR gb Bg p m l (clearGo (opsT p m l) c t rows2 i) n v12 piv ba t wx
theorem swap_st (h:St w B R cR gb Bg p m l rows n v12 piv ba t wr) (hB:B<=w.heap.size) (hBg:Bg<=B) {k b1:Nat} (ht:t<n) (hk:k<n) (hne:t≠k) (hn:n<=256) (hbk:wr.cell? ⟨b1,0,none⟩=some (.int .i64 k)) (hb1:b1≠R) :
 Calls Tryz.prog 251 #[.func (.func 252) #[] #[.pointer (some ⟨b1,0,none⟩),.pointer (some ⟨ba,0,none⟩)],.pointer (some ⟨w.heap.size+1,0,none⟩),.pointer (some ⟨w.heap.size+1+1,0,none⟩)] wr fun e w'=>e=.returned (.tuple #[])/\St w B R cR gb Bg p m l (swapRows rows t k) n v12 piv ba t w':=by
 obtain ⟨bs,hbx,hei,hpv,hap,rfl,hba⟩:=h
 have hR:=hei.grid.lt
 have ho:=hei.out
 refine (each2_c b1 ba R rows.length cR (w.heap.size+1) (w.heap.size+1+1) R (fun w'=>GridAt w' B R cR (swapRows rows t k) (SwapBs bs t k)) wr hei.b5 hei.b7 (by omega)
  (swap_c B R cR t k ba b1 rows bs wr hei.grid ht hk hne (by omega) (cell_of_row _ _ 0 _ _ _ hbx) hbk (by omega) hb1)).mono ?_
 rintro e w' ⟨he,hd,hg⟩
 refine ⟨he,SwapBs bs t k,(hg.block ba (qbE hbx) (fun e=>by injection e with e;omega)).trans hbx,hei.turned hB hBg (swap_len ..) hd hg hR.1 (.inl ho) (bk_swap hei.grid.len ht hk (fun b=>b<w.heap.size\/w.heap.size+3<=b) hei.apart),hpv.grown hg (fun e=>by have:=(hpv.1.lt _ e).1;omega) (bk_swap hei.grid.len ht hk (fun b=>v12.ownBlock≠some b) hpv.2),bk_swap hei.grid.len ht hk (fun b=>b≠ba) hap,swap_len ..,hba⟩
theorem scale_st (h:St w B R cR gb Bg p m l rows n v12 piv ba t wr) (hB:B<=w.heap.size) (hBg:Bg<=B) {md:List Nat} {a b1 cols:Nat} (hF:FT p m md l) (hgr:Grid (p ^ m) n cols rows) (hc:cols<=256) (ht:t<n) (hn:n<=256) (ha:a<p ^ m) (hbi:wr.cell? ⟨b1,0,none⟩=some (.int .i64 a)) :
 Calls Tryz.prog 251 #[.func (.func 253) #[] #[.pointer (some ⟨w.heap.size,0,none⟩),.pointer (some ⟨b1,0,none⟩),.pointer (some ⟨ba,0,none⟩)],.pointer (some ⟨w.heap.size+1,0,none⟩),.pointer (some ⟨w.heap.size+1+1,0,none⟩)] wr fun e w'=>e=.returned (.tuple #[])/\St w B R cR gb Bg p m l (rows.set t (scaleRow (opsT p m l) a (rows.getD t []))) n v12 piv ba t w':=by
 obtain ⟨bs,hbx,hei,hpv,hap,rfl,hba⟩:=h
 have hR:=hei.grid.lt
 have ho:=hei.out
 have hs:=hei.size
 have hbl:=qbE hbx
 obtain ⟨hr1,hr2⟩:=hgr.row ht
 refine (each3_c w.heap.size b1 ba R rows.length cR (w.heap.size+1) (w.heap.size+1+1) R (fun w'=>GridAt w' B R cR (rows.set t (scaleRow (opsT p m l) a (rows.getD t []))) (bs.set t (wr.heap.size,(rows.getD t []).length))) wr hei.b5 hei.b7 (by omega)
  (scrow_c B R cR t w.heap.size b1 ba gb p m a md l rows bs wr hF (hei.field.more (by omega)) hei.grid ht (by omega) ha hr2 (by omega) (by omega) hei.b4 hbi (cell_of_row _ _ 0 _ _ _ hbx))).mono ?_
 rintro e w' ⟨he,hd,hg⟩
 refine ⟨he,bs.set t (wr.heap.size,(rows.getD t []).length),(hg.block ba hbl (fun e=>by injection e with e;omega)).trans hbx,hei.turned hB hBg (by simp) hd hg hR.1 (.inl ho) (bk_set hei.grid.len ht (fun b=>b<w.heap.size\/w.heap.size+3<=b) (.inr hs) hei.apart),hpv.grown hg (fun e=>by have:=(hpv.1.lt _ e).1;omega) (bk_set hei.grid.len ht (fun b=>v12.ownBlock≠some b) (fun e=>by have:=(hpv.1.lt _ e).2;omega) hpv.2),bk_set hei.grid.len ht (fun b=>b≠ba) (by omega) hap,by simp,hba⟩
theorem clear_st (h:St w B R cR gb Bg p m l rows n v12 piv ba t wr) (hB:B<=w.heap.size) (hBg:Bg<=B) {md:List Nat} {i x bi bx cols:Nat} (hF:FT p m md l) (hgr:Grid (p ^ m) n cols rows) (hc:cols<=256) (ht:t<n) (hi:i<n) (hit:i≠t) (hn:n<=256) (hx:x<p ^ m) (hbi:wr.cell? ⟨bi,0,none⟩=some (.int .i64 i)) (hbx':wr.cell? ⟨bx,0,none⟩=some (.int .i64 x)) :
 Calls Tryz.prog 251 #[.func (.func 254) #[] #[.pointer (some ⟨w.heap.size,0,none⟩),.pointer (some ⟨bi,0,none⟩),.pointer (some ⟨bx,0,none⟩),.pointer (some ⟨ba,0,none⟩)],.pointer (some ⟨w.heap.size+1,0,none⟩),.pointer (some ⟨w.heap.size+1+1,0,none⟩)] wr fun e w'=>e=.returned (.tuple #[])/\St w B R cR gb Bg p m l (rows.set i (addRow (opsT p m l) (rows.getD i []) (negD p m x) (rows.getD t []))) n v12 piv ba t w':=by
 obtain ⟨bs,hbx,hei,hpv,hap,rfl,hba⟩:=h
 have hs:=hei.size
 have hbl:=qbE hbx
 have hai:=hei.apart i hi
 obtain ⟨hr1,hr2⟩:=hgr.row hi
 obtain ⟨hr3,hr4⟩:=hgr.row ht
 refine (each4_c w.heap.size bi bx ba R rows.length cR (w.heap.size+1) (w.heap.size+1+1) (bk bs i) (fun w'=>GridAt w' B R cR (rows.set i (addRow (opsT p m l) (rows.getD i []) (negD p m x) (rows.getD t []))) bs) wr hei.b5 hei.b7 (by omega)
  (clrow_c B R cR i t w.heap.size bi bx ba gb Bg p m x md l rows bs wr hF hei.field hBg hei.grid hi ht hit (by omega) hx hr2 hr4 (by omega) (by omega) hei.b4 hbi hbx' (cell_of_row _ _ 0 _ _ _ hbx))).mono ?_
 rintro e w' ⟨he,hd,hg⟩
 exact ⟨he,bs,(hg.block ba hbl (fun e=>hap i hi (by injection e with e;exact e.symm))).trans hbx,hei.turned hB hBg (by simp) hd hg (hei.grid.row i hi).lt.1 hai hei.apart,hpv.grown hg (hpv.2 i hi) hpv.2,hap,by simp,hba⟩
end
theorem col_facts {p m:Nat} {md l:List Nat} (hF:FT p m md l) {n cols c k:Nat} {s:ElS} (hG:Grid (p ^ m) n cols s.rows) (hpn:s.piv.length<n) (hlt:c<cols) (hk:k=findRow s.rows c (s.rows.length-s.piv.length) s.piv.length) (hk2:k<n) :
 Grid (p ^ m) n cols (swapRows s.rows s.piv.length k)/\at2 (swapRows s.rows s.piv.length k) s.piv.length c≠0/\Grid (p ^ m) n cols (normRow (opsT p m l) (swapRows s.rows s.piv.length k) s.piv.length c) /\
 (∀ i,i<=n->Grid (p ^ m) n cols (clearGo (opsT p m l) c s.piv.length (normRow (opsT p m l) (swapRows s.rows s.piv.length k) s.piv.length c) i)) /\
 elStep (opsT p m l) c s=⟨clearGo (opsT p m l) c s.piv.length (normRow (opsT p m l) (swapRows s.rows s.piv.length k) s.piv.length c) n,s.piv++[c]⟩:=by
 have hln:=hG.1
 have g1:=swap_grid hG hpn hk2
 have e0:at2 s.rows k c≠0:=by
  have:=qeB s.rows c (s.rows.length-s.piv.length) s.piv.length (by omega)
  rw [<- hk] at this
  exact this
 have e1:at2 (swapRows s.rows s.piv.length k) s.piv.length c≠0:=by
  unfold at2 at e0 ⊢
  rw [swap_at (by omega) (by omega)]
  exact e0
 have g2:=(norm_eq (qeA hF) g1 hpn hlt e1).2
 refine ⟨g1,e1,g2,fun i hi=>(qfA (qeA hF) g2 hlt hpn i hi).2,?_⟩
 unfold elStep
 rw [if_pos (by omega),<- hk,if_neg (by omega),hln]
theorem inv_one {p m:Nat} {md l:List Nat} (hF:FT p m md l) {x:Nat} (hx:x<p ^ m) (h0:x≠0):(opsT p m l).inv x<p ^ m/\(x=1 ↔ (opsT p m l).inv x=1):=by
 have H:=qaU (p:=p) (m:=m) (by have:=hF.small.p1;omega) hF.small.m1 md
 obtain ⟨h1,h2,_⟩:=hF.tab.inv H h0 hx
 refine ⟨h2,?_,?_⟩
 . intro h
   subst h
   rw [H.one _ h2] at h1
   exact h1
 . intro h
   have h3:invT l (logL l (p ^ m)) (p ^ m) x=1:=h
   rw [h3,H.comm,H.one _ hx] at h1
   exact h1
theorem swap_self (rows:List (List Nat)) (i:Nat) (hi:i<rows.length):swapRows rows i i=rows:=by
 unfold swapRows
 apply List.ext_getElem
 . simp
 . intro j h1 h2
   rw [List.getElem_set,List.getElem_set]
   by_cases h:i=j
   . subst h;simp [List.getD,hi]
   . rw [if_neg h,if_neg h]
theorem clear_stay {O:Ops} {c t i:Nat} {rows:List (List Nat)} (h:i=t\/at2 (clearGo O c t rows i) i c=0):clearGo O c t rows (i+1)=clearGo O c t rows i:=by
 show (if _ then _ else _)=_
 rw [if_neg (by omega)]
theorem clear_turn {O:Ops} {c t i:Nat} {rows:List (List Nat)} (h1:i≠t) (h2:at2 (clearGo O c t rows i) i c≠0):clearGo O c t rows (i+1)=(clearGo O c t rows i).set i (addRow O ((clearGo O c t rows i).getD i []) (O.neg (at2 (clearGo O c t rows i) i c)) ((clearGo O c t rows i).getD t [])):=by
 show (if _ then _ else _)=_
 rw [if_pos ⟨h1,h2⟩]
end Go.Proofs.YtlmglaonldlanaaGreat
