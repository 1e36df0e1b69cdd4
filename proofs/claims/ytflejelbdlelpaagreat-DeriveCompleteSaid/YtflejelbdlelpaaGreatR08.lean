/- Parts of the proof. -/
import Derived.Test.YtflejelbdlelpaaGreatR07
set_option maxRecDepth 100000
set_option maxHeartbeats 8000000
namespace Go.Proofs.YtflejelbdlelpaaGreat
open Go.RowKit Pln Go.Proofs.Tryz
def SwapBs(bs:List (Nat × Nat))(i j:Nat):List (Nat × Nat):=(bs.set i (bs.getD j (0,0))).set j (bs.getD i (0,0))
theorem GridAt.swap{w:Wo}{B R A:Nat}{rows:LL}{x:List (Nat × Nat)}(h:GridAt w B R A rows x){i j:Nat}(y:i<rows.length)(z:j<rows.length)(C:i≠j):
 GridAt ((w.setCell (zA R i) (hdr rows x j)).setCell (zA R j) (hdr rows x i)) B R A (swapRows rows i j) (SwapBs x i j):=by
 have u:=h.len;have n:∀k,k<rows.length->(SwapBs x i j).getD k (0,0)=if k=j then x.getD i (0,0) else if k=i then x.getD j (0,0) else x.getD k (0,0):=fun k _=>by unfold SwapBs;rw[qeW _ _ _ _ _ so,qeW _ _ _ _ _ U0]
 have q:∀k,k<rows.length->(swapRows rows i j).getD k []=if k=j then rows.getD i [] else if k=i then rows.getD j [] else rows.getD k []:=fun k _=>by unfold swapRows;rw[qeW _ _ _ _ _ so,qeW _ _ _ _ _ U0]
 have d:(swapRows rows i j).length=rows.length:=by simp[swapRows]
 have s:hdrs (swapRows rows i j) (SwapBs x i j)=((hdrs rows x).set i (hdr rows x j)).set j (hdr rows x i):=by
  apply List.ext_getElem
  . simp[hdrs,d]
  . intro k t v;(have b:k<rows.length:=by simpa [hdrs,d] using t);rw [List.getElem_set,List.getElem_set];simp only [hdrs,List.getElem_map,List.getElem_range,hdr,bk,cp,n k b,q k b];by_cases f:k=j
    . subst f;simp
    . have l : ¬j = k:=fun e=>f e.symm;by_cases g:k=i
      . simp only[if_neg f,if_neg l,if_pos g,if_pos g.symm]
      . have o:¬i=k:=fun e=>g e.symm;simp only[if_neg f,if_neg l,if_neg g,if_neg o]
 have c:∀k,k<rows.length->Row ((w.setCell (zA R i) (hdr rows x j)).setCell (zA R j) (hdr rows x i)) B (bk x k) (cp x k) (nz (rows.getD k [])):=fun k b=>
  ((h.row k b).far (p:=(zA R i)) (h.ne (h.row k b)) _).far (p:=(zA R j)) (h.ne (h.row k b)) _
 refine⟨by simp[SwapBs,u,d],?_,fun k b=>?_,fun k k' b hk' hkk=>?_⟩
 . rw[s,d];exact(World.ownsRow.stored (World.ownsRow.stored h.out i _).1 j _).1
 . rw [d] at b;unfold bk cp;rw [n k b,q k b];by_cases f:k=j
   . rw[if_pos f,if_pos f];exact c i y
   . rw[if_neg f,if_neg f];by_cases g:k=i
     . rw[if_pos g,if_pos g];exact c j z
     . rw[if_neg g,if_neg g];exact c k b
 . rw [d] at b hk';have m:=h.nd;unfold bk at m ⊢;have r:∀ k,k<rows.length->(SwapBs x i j).getD k (0,0)=x.getD (if k=j then i else if k=i then j else k) (0,0):=fun k b=>by
    rw[n k b];split
    . rfl
    . split<;>rfl
   rw[r k b,r k' hk'];refine m _ _ ?_ ?_ ?_
   . split
     . exact y
     . split
       . exact z
       . exact b
   . split
     . exact y
     . split
       . exact z
       . exact hk'
   . (repeat' split);all_goals omega
theorem hdr_at{w:Wo}{B R c:Nat}{rows:LL}{b:List (Nat × Nat)}(h:GridAt w B R c rows b){i:Nat}(d:i<rows.length):w.cell? (zA R i)=some (hdr rows b i):=h.cell d
theorem swap_c(B R L i j J K:Nat)(rows:LL)(H:List (Nat × Nat))(w:Wo)(I:GridAt w B R L rows H)(O:i<rows.length)(P:j<rows.length)(E:i≠j)(_:rows.length<=1000000)(S:w.cell? (zA J 0)=some (Y i))(T:w.cell? (zA K 0)=some (Y j))(M:J≠R)(N:K≠R):
 zC 243 #[zS R rows.length L,zP K,zP J] w fun e w'=>e=.returned (.tuple #[])/\GridAt w' B R L (swapRows rows i j) (SwapBs H i j)/\w.grownBy w' (some R):=by have d:=zH (I.swap O P E);have b:zK (w.grownBy ((w.setCell (zA R i) (hdr rows H j)).setCell (zA R j) (hdr rows H i)) (some R)):=qfX (qeR w (zA R i) _) (qeR _ (zA R j) _);have k:=hdr_at I O;have l:=hdr_at I P;have t:=I.frozen i;have u:=I.frozen j;have v:(0:Int)<=(i:Int):=U0;have x:(i:Int)<(rows.length:Int):=U0;have y:(0:Int)<=(j:Int):=U0;have z:(j:Int)<(rows.length:Int):=U0;have h:=zH E;clear I;obtain⟨r,C,c1,f⟩:∃A n c,hdr rows H i=zL A n c:=⟨_,_,_,rfl⟩;obtain⟨s,D,c2,g⟩:∃A n c,hdr rows H j=zL A n c:=⟨_,_,_,rfl⟩;rw[f,g] at d b;rw[f] at k;rw[g] at l;clear f g;go_enter func243,ntmps243;have q:j≠i:=fun e=>E e.symm;have m:R≠J:=fun e=>M e.symm;have p:R≠K:=fun e=>N e.symm;go_region;all_goals (go_end0;exact⟨rfl,d.o.drewN 1,qfX b.o (qgA _ 1 _)⟩)
theorem scrow_c(B R cR i Z bi X gb p m a:Nat)(md l:LN)(rows:LL)(S:List (Nat × Nat))(w:Wo)(hF:FT p m md l)(hG:GFAt w w.heap.size gb p m l (logL l (p^m)))(T:GridAt w B R cR rows S)(hi:i<rows.length)(_:rows.length<=1000000)(ha:a<p^m)(hv:∀x∈rows.getD i [],x<p^m)(aa:(rows.getD i []).length<=1000)(hB:B<=w.heap.size)(V:w.cell? (zA Z 0)=some (zP gb))(W:w.cell? (zA bi 0)=some (Y a))(U:w.cell? (zA X 0)=some (Y i)):
 zC 244 #[zS R rows.length cR,zP Z,zP bi,zP X] w fun e w'=>e=.returned (.tuple #[])/\GridAt w' B R cR (rows.set i (scaleRow (opsT p m l) a (rows.getD i []))) (S.set i (w.heap.size,(rows.getD i []).length))/\w.grownBy w' (some R):=by
 have c:=T.row i hi;have s:=zH (scale_c a gb p m md l (rows.getD i []) (zO (bk S i)) (cp S i) w.drew hF (show GFAt w.drew w.drew.heap.size gb p m l (logL l (p^m)) from hG) ha hv (show IntsAt w.drew w.drew.heap.size (zO (bk S i)) (nz (rows.getD i [])) from c.ints c.lt.2) aa);have H:=T.cell hi;have D:=zH T;have K:(0:Int)<=(i:Int):=U0;have L:(i:Int)<(rows.length:Int):=U0;have u:Z<w.heap.size:=World.block_lt_of_cell? w _ V;have v:bi<w.heap.size:=World.block_lt_of_cell? w _ W;have t:X<w.heap.size:=World.block_lt_of_cell? w _ U;have f:=T.lt.2;have h:=zH<|T.frozen i
 have q:zK ((scaleRow (opsT p m l) a (rows.getD i [])).length=(rows.getD i []).length):=by show _=_;simp[scaleRow]
 clear T c hF hG hv;generalize C:scaleRow (opsT p m l) a (rows.getD i [])=E at *;clear C;generalize (rows.getD i []).length=n at *;generalize bk S i=J at *;generalize cp S i=I at *;go_enter func244,ntmps244;have y:=h.o;go_region_law (go_simp;go_fit s.o;rintro e g ⟨rfl,hr1,hb1⟩;have M:=(hb1.cell (p:=(zA Z 0)) u).trans V;have N:=(hb1.cell (p:=(zA bi 0)) v).trans W;have O:=(hb1.cell (p:=(zA X 0)) t).trans U;have P:=(hb1.cell (p:=(zA R i)) f).trans H;have Q:=(hb1.frozen (p:=(zA R i)) f).trans y)
 all_goals
  have b:zB w g:=⟨hb1.os,hb1.tape,hb1.output,hb1.size,hb1.block⟩
  have A:Row g w.heap.size w.heap.size n (nz E):=hr1
  have d:=(D.o.grow b).put hi (r:=E) (A.base (B':=B) hB) (fun j hj=>by have:=(D.o.row j hj).lt.2;omega)
  rw[q.o] at d
  have z:w.grownBy (g.setCell (zA R i) (zS w.heap.size n n)) (some R):=qfX ⟨b.os,b.tape,b.output,b.size,fun k hk _=>b.block k hk⟩ (qeR g (zA R i) _)
  go_end0
  exact⟨rfl,d,z⟩
theorem clrow_c(B R Z i t bg bi bx ba gb Bg p m x:Nat)(md l:LN)(rows:LL)(S:List (Nat × Nat))(w:Wo)(V:FT p m md l)(hG:GFAt w Bg gb p m l (logL l (p ^ m)))(aa:Bg<=B)(U:GridAt w B R Z rows S)(X:i<rows.length)(ht:t<rows.length)(af:i≠t)(_:rows.length<=1000000)(hx:x<p ^ m)(hv:∀ y∈rows.getD i [],y<p ^ m)(hu:∀ y∈rows.getD t [],y<p ^ m)(T:(rows.getD i []).length=(rows.getD t []).length)(ag:(rows.getD i []).length<=1000)(ac:w.cell? (zA bg 0)=some (zP gb))(ad:w.cell? (zA bi 0)=some (Y i))(ae:w.cell? (zA bx 0)=some (Y x))(ab:w.cell? (zA ba 0)=some (Y t)):
 zC 245 #[zS R rows.length Z,zP bg,zP bi,zP bx,zP ba] w fun e w'=>e=.returned (.tuple #[])/\GridAt w' B R Z (rows.set i (addRow (opsT p m l) (rows.getD i []) (negD p m x) (rows.getD t []))) S/\w.grownBy w' (some (bk S i)):=by
 have b:=U.row i X;have f:=U.row t ht;have r:zK (∀W,SDrew w W->zC 127 (Cj gb x) W fun e w'=>e=.returned (Y ((negD p m x:Nat):Int))/\SDrew w w'):=fun W ⟨n,hW⟩=>by subst hW;refine(neg_c x gb p m Bg l _ _ V.small (show GFAt (w.drewN n) Bg gb p m l (logL l (p^m)) from hG) hx).mono ?_;rintro e w' ⟨he,k,rfl⟩;exact⟨he,n+k,U9⟩
 have j:zK (∀n,zC 224 #[zP gb,zS (bk S i) (rows.getD i []).length (cp S i),Y ((negD p m x:Nat):Int),zS (bk S t) (rows.getD t []).length (cp S t)] (w.drewN n) fun e w'=>e=.returned (.tuple #[])/\Row w' B (bk S i) (cp S i) (nz (addRow (opsT p m l) (rows.getD i []) (negD p m x) (rows.getD t [])))/\(w.drewN n).grownBy w' (some (bk S i))):=fun n=>by have h:=madd_c (negD p m x) gb p m Bg B (bk S i) (cp S i) (bk S t) (cp S t) md l (rows.getD i []) (rows.getD t []) (w.drewN n) V (show GFAt (w.drewN n) Bg gb p m l (logL l (p^m)) from hG) (Nat.le_trans aa b.lt.1) (qdP (by have:=V.small.p1;omega) m x) hv hu b f (fun e=>U.nd i t X ht af e.symm) T ag;rw[<- T];exact h
 have A:=zH U;have D:=U.cell X;have E:=U.cell ht;have I:(0:Int)<=(i:Int):=U0;have J:(i:Int)<(rows.length:Int):=U0;have N:(0:Int)<=(t:Int):=U0;have O:(t:Int)<(rows.length:Int):=U0;have q:zK ((addRow (opsT p m l) (rows.getD i []) (negD p m x) (rows.getD t [])).length=(rows.getD i []).length):=qbU _ _ _ _ T;clear U b f V hG hv hu T;generalize addRow (opsT p m l) (rows.getD i []) (negD p m x) (rows.getD t [])=H at *;generalize negD p m x=M at *;have C:zK ((rows.getD i []).length=(rows.getD i []).length):=rfl;generalize d:(rows.getD i []).length=K at *;generalize z:(rows.getD t []).length=L at *;have s:=zH d;clear d z C;go_enter func245,ntmps245;refine qaI 12 (SDrew w) U1 U1 ⟨1,rfl⟩ ?_;simp only[List.take_succ_cons,List.take_zero,List.drop_succ_cons,List.drop_zero]
 repeat (first
  | (apply qaJ rfl
     . intro W g
       obtain⟨n,rfl⟩:=g
       go_simp
       rfl
     go_simp)
  | (apply qaO rfl
     . intro W g
       go_simp
       exact⟨rfl,rfl⟩
     . intro W g
       exact r.o W g
     go_simp))
 refine qaE ?_;intro P v;obtain⟨n,rfl⟩:=v;clear ac ad ae ab D E;go_wp2_with fail;(with_reducible refine(j.o n).mono ?_);rintro e Q ⟨rfl,hr3,hg3⟩;have u:=zH hr3;have c:=zH hg3;clear hr3 hg3;go_wp2_with fail;go_end0;exact⟨rfl,(A.o.drewN n).turn X (by rw[q.o,s.o]) u.o c.o,qfX (qgA w n _) c.o⟩
end Go.Proofs.YtflejelbdlelpaaGreat
