/- Parts of the proof. -/
import Derived.Test.YtkcdlealipfnbaaGreatR39
set_option maxRecDepth 100000
set_option maxHeartbeats 8000000
namespace Go.Proofs.YtkcdlealipfnbaaGreat
open Go.RowKit Pln Go.Proofs.Tryz
def RelFl(w:Wo)(n:Nat)(v3 v4 v5:Value)(wr:Wo):Prop:=∃(k:Nat)(b1 b2:Bool),k<=n/\v3=.bool b1/\v4=.bool b2/\v5=Y k/\zB w wr
def FlS(w:Wo)(b ok':Nat)(n:Int)(A:OA)(l c:Nat)(W:Wo):Prop:=zB w W/\W.cell? (zA b (ok'+4))=some (Y n)/\W.cell? (zA b (ok'+5))=some (zL A l c)
theorem few_c(ds:List StD)(A:OA)(c:Nat)(w:Wo)(hA:StsAt w w.heap.size A ds)(hk:∀ d∈ds,d.ok)(hl:ds.length<=maxLen):
 zC 6 #[zL A ds.length c] w (FewPost w ds.length):=by
 have D:=zH hA;have u:=zH (rfewD_c ds A c w hA hk);have q:maxLen=9223372036854775807:=rfl;rw[q] at hl;clear hA hk;go_enter func6,ntmps6;go_wp2_with fail;go_fit u.o;rintro e w1 ⟨b0,rfl,hb1,hl1⟩;have g:=zH hb1;have m:=zH hl1;clear hb1 u hl1;cases b0
 . go_wp2;go_ret;exact⟨_,rfl,g.o,fun h=>by cases h⟩
 go_wp2;go_loopw [3,4,5] (fun v3 v4 v5 wr=>RelFl w ds.length v3 v4 v5 wr) (fun _ _ v5 _=>ds.length-(intOf v5).toNat);case atStart=>exact⟨0,false,false,Nat.zero_le _,rfl,rfl,rfl,g.o⟩
 case round =>
  obtain⟨k,v,x,K,rfl,rfl,rfl,B⟩:=hrel;have l:=zH B;clear B g;by_cases j:k<ds.length
  . (have k0 : (0 : Int) <= (k : Int) := by omega);have k1:(k:Int)<(ds.length:Int):=U0;have L:IntKind.i64.wrap ((k:Int)+1)=(k:Int)+1:=IntWalk.i64_in _ U0;obtain ⟨b,o,I,rfl,J,f,r⟩:=(D.o.keep l.o).at_ j;generalize ds[k]'j=s at *;obtain ⟨P,t,O,M,N,Q,R,Ar,S,At,U,y,T,ca,cb,cp,V,X,H,Z,rfl,_⟩:=r;have y0:wr.cell? (zA b (o+k*23))=some (Y s.rule):=f 0 _ rfl;have E:zK (FlS w b (o+k*23) s.n t s.gen.length y wr.drew):=⟨l.o.drew,f 4 _ rfl,f 5 _ rfl⟩;clear f;generalize s.gen.length=z at *;generalize s.n=C at *;obtain ⟨e,he⟩:∃ e,IntKind.i64.wrap (C*(z:Int))=e:=⟨_,rfl⟩;cases v;(all_goals (cases x));(all_goals go_upto_region 8 with fail);(all_goals (refine qaD (FlS w b (o+k*23) C t z y) U1 U1 E.o ?_))
    all_goals
     repeat (first
      | (apply qaJ rfl
         . intro W i
           go_simp
           try rfl
         go_simp)
      | (apply qbD rfl
         . intro W i
           obtain⟨_,z4,z5⟩:=i
           go_simp
           try rfl
         go_simp)
      |(apply qbI rfl;go_simp))
     refine qaE ?_
     intro w2 i
     have p:=zH i.1
     clear i
     go_wp2
     go_roundw
     case rel=>exact⟨k+1,_,_,U0,rfl,rfl,U3,p.o⟩
     case measure=>simp[intOf];omega
  . (obtain rfl : k = ds.length := by omega);cases v <;> cases x
    all_goals
     go_wp2
     go_ret
     exact⟨_,rfl,l.o,fun _=>m.o (by first|trivial|rfl)⟩
end Go.Proofs.YtkcdlealipfnbaaGreat
namespace Go.Proofs.YtkcdlealipfnbaaGreat
open Go.RowKit Pln
def ThreeOk:Prop:=∀W:Wo,zC 5 #[] W fun e w'=>e=.returned (.bool true)/\zB W w'
theorem form_code{d:StD}(h:formZ d=0):codeZ d.p d.m d.mod d.n d.gen=0:=by
 unfold formZ at h;split at h
 . rename_i hz;exact absurd h hz
 . rename_i hz;exact Classical.byContradiction hz
def LocPost(w:Wo)(e:Ending)(w':Wo):Prop:=e=.returned (.bool true)/\zB w w'
end Go.Proofs.YtkcdlealipfnbaaGreat
namespace Go.Proofs.YtkcdlealipfnbaaGreat
open Go.RowKit Pln
open Al (ColsOk)
def opsS(d:StD):Ops:=opsT d.p.toNat d.m.toNat (lOf d.p d.m d.mod)
def ItPost(w:Wo)(P:Prop)(e:Ending)(w':Wo):Prop:=(∃b:Bool,e=.returned (.bool b)/\(b=true->P))/\zB w w'
theorem qbG{d:StD}(b:formZ d=0):codeZ d.p d.m d.mod d.n d.gen=0:=by
 unfold formZ at b;split at b
 . rename_i hz;exact absurd b hz
 . rename_i hz;exact Classical.byContradiction hz
theorem form_err{d:StD}(c:formZ d=0):errC d.p d.m d.mod d.n d.gen=0:=by
 obtain⟨_,_,b⟩:=codeZ_n (qbG c);unfold spZ at b;split at b
 . rename_i he;exact absurd b he
 . rename_i he;exact Classical.byContradiction he
theorem ker_grid{q n cols:Nat}{O:Ops}(h:Al.Fld q O){rows:LL}(d:Grid q n cols rows):(kerM O rows cols).length<=cols/\∀r∈kerM O rows cols,r.length=cols/\∀x∈r,x<q:=by have b:=canon_grid h.self d;have c:=kerRows_grid (piv:=(elGo O rows cols).piv) h.self h.q1 b rfl;refine⟨?_,(canon_grid h.self c).2⟩;unfold kerM;rw[canonM_len];exact(elGo_piv _ _).1
end Go.Proofs.YtkcdlealipfnbaaGreat
namespace Go.Proofs.YtkcdlealipfnbaaGreat
open Go.RowKit Pln Go.Proofs.Tryz
theorem itself_1(G:Nat)(w:Wo)(q:zR w (zO G) [[1,1,1]]):
 zC 28 #[.agg (repC 1 3 G).toArray] w (BPost true w):=by have b:=zH (sb_new w (repC 1 3 G));have g:=zH q;clear q;go_enter func28,ntmps28;go_upto_region 1 with fail;generalize w.alloc (.cells (repC 1 3 G).toArray 40)=c at *;have h:c.cell? (zA w.heap.size 0)=some (Y 1):=b.o.cell rfl;have n:c.cell? (zA w.heap.size 6)=some (Y 3):=b.o.cell rfl;have i:c.cell? (zA w.heap.size 1)=some (Y 2):=b.o.cell rfl;have j:c.cell? (zA w.heap.size 2)=some (Y 1):=b.o.cell rfl;have k:c.cell? (zA w.heap.size 3)=some (zL none 0 0):=b.o.cell rfl;have l:c.cell? (zA w.heap.size 4)=some (Y 3):=b.o.cell rfl;have m:c.cell? (zA w.heap.size 5)=some (zS G 1 1):=b.o.cell rfl;have d:=zH (columns_rep G c ((g.o.keep b.o.2.1).more b.o.2.1.size));go_wp2_with fail;refine d.o.mono ?_;rintro e p ⟨rfl,hb⟩;have f:=zH (b.o.2.1.trans (hb.mono b.o.2.1.size));clear hb d b h i j k l m n;go_wp2;go_ret;exact⟨rfl,f.o⟩
def RepPost(w:Wo)(e:Ending)(w':Wo):Prop:=
 ∃G,e=.returned (Ck 2 1 3 G 1 1)/\zR w' (zO G) [[1,1,1]]/\zB w w'
theorem rows_new(f:Wo):RowsUp ((f.alloc (Cs 1 1 1)).alloc (.cells #[zS f.heap.size 3 3] 23)) f.heap.size (zO (f.heap.size+1)) [[1,1,1]]:=fun _=>by
 have c:((f.alloc (Cs 1 1 1)).alloc (.cells #[zS f.heap.size 3 3] 23)).heap[f.heap.size]?=some (Cs 1 1 1):=(Below.heap_alloc _ _ _ U2).trans (heap_alloc_new _ _)
 have d:((f.alloc (Cs 1 1 1)).alloc (.cells #[zS f.heap.size 3 3] 23)).heap[f.heap.size+1]?=some (.cells #[zS f.heap.size 3 3] 23 (0,0)):=alloc_at U2 _
 refine⟨f.heap.size+1,0,rfl,U0,U2,fun i hi=>?_⟩
 obtain rfl:i=0:=by simpa using hi
 refine⟨f.heap.size,0,3,cell_of_row _ _ 0 _ _ _ d,Nat.le_refl _,so,fun j hj=>?_⟩
 rw[cell_of_row _ _ _ _ _ _ c]
 have b:j<3:=hj
 match j,b with
 |0,_=>rfl
 |1,_=>rfl
 |2,_=>rfl
theorem repeated_c(w:Wo):zC 13 #[] w (RepPost w):=by have g:=zH (bx_new w (Cu) 32);go_enter func13,ntmps13;go_upto_region 1 with fail;generalize w.alloc (Ci)=b at *;have d:zB b ((b.alloc (Cs 1 1 1)).alloc (.cells #[zS b.heap.size 3 3] 23)):=(zV.alloc zn _).alloc U2 _;have c:=zH (g.o.grow d);have f:=zH (rows_new b);have i:=g.o.2.2;clear d g;go_wp2_with (refine wpList_store_row rfl 32 (.tmp 0) (.tmp 4) rfl _ w.heap.size 32 (Ct) #[Y 2,Y 1,zL none 0 0,Y 3,zS (b.heap.size+1) 1 1] rfl rfl c.o.1 codeSize rfl sc ?_);have h:zK (BX w (Cb 2 1 3 (b.heap.size+1) 1 1) 32 (((b.alloc (Cs 1 1 1)).alloc (.cells #[zS b.heap.size 3 3] 23)).setRow w.heap.size #[Y 2,Y 1,zL none 0 0,Y 3,zS (b.heap.size+1) 1 1])):=⟨setRow_same _ _ _ _ _ c.o.1,qaR c.o.below zn _,by have:=c.o.2.2;simp;omega⟩;refine bodyPost_ret (results_cell_row (P:=prog) rfl _ _ w.heap.size 32 #[Y 2,Y 1,zL none 0 0,Y 3,zS (b.heap.size+1) 1 1] (0,0) _ rfl h.o.1 underlying32 rfl codeSize) rfl ?_;have j:=f.o.of_blocks (w':=((b.alloc (Cs 1 1 1)).alloc (.cells #[zS b.heap.size 3 3] 23)).setRow w.heap.size #[Y 2,Y 1,zL none 0 0,Y 3,zS (b.heap.size+1) 1 1]) U2 fun k hk _=>setRow_other _ w.heap.size k _ U0;exact⟨b.heap.size+1,rfl,j.rowsAt,h.o.below⟩
section
variable {P:Program} {ops:Array Oper} {rest:List Oper} {op:Oper} {a:Act} {w:Wo} {Q:Exit->Act->Wo->Prop}
theorem qdL(k:Region.wanted op (yielded ops a.tmps)=true)(c:TypeId)(x:Operand)(i:op.op=.load c x)(b o:Nat)(l:a.eval x=.pointer (some (zA b o)))(cs:List Value)(d:TypeDesc)(f:w.rangeAt b o cs)(j:P.underlying c=some d)(hd:d.isRow=true)(g:(P.info? c).map (·.size)=some cs.length)(h:wpList P ops Q rest (a.put op.dst (.agg cs.toArray)) w):wpList P ops Q (op :: rest) a w:=
 wpList_step fun K hK=>by
  rw[if_pos k]
  exact wp_load_mid c x i b o l cs d f j hd g (hK _ _ h)
end
theorem rows_111{G:Nat}{w:Wo}(h:zR w (zO G) [[1,1,1]]):∃R ro cr,w.cell? (zA G 0)=some (zL (some (zA R ro)) 3 cr)/\∀j,j<3->w.cell? (zA R (ro+j))=some (Y 1):=by
 obtain⟨b,o,c,_,i⟩:=h U2;injection c with c;injection c with e1 e2;subst e1;subst e2;obtain⟨l,d,f,g⟩:=i 0 U2;obtain⟨R,ro,rfl,_,k⟩:=g U2;refine⟨R,ro,d,f,fun j hj3=>?_⟩;have:=k j hj3;rw[this];match j,hj3 with
 |0,_=>rfl
 |1,_=>rfl
 |2,_=>rfl
theorem check_1(G b:Nat)(w:Wo)(d:w.rangeAt b 0 (repC 1 3 G))(c:b<w.heap.size)(f:zR w (zO G) [[1,1,1]]):
 zC 7 #[zS b 1 1,Y 0] w (ChkPost true w):=
 checkstep_rep 1 3 premises_1 U0 U0 U0 U0 form_rep1 G b 0 1 0 w U0 U0 d c f true fun W hW=>itself_1 G W ((f.keep hW).more hW.size)
theorem check_15(G b:Nat)(w:Wo)(i:w.rangeAt b 23 (repC 15 4 G))(h:b<w.heap.size)(j:zR w (zO G) [[1,1,1]]):
 zC 7 #[zS b 2 2,Y 1] w (ChkPost false w):=
 checkstep_rep 15 4 premises_15 U0 U0 U0 U0 form_rep15 G b 0 2 1 w U0 U0 i h j false fun W hW=>by
  obtain⟨R,g,c,d,f⟩:=rows_111 ((j.keep hW).more hW.size)
  exact itself_15 G R g c W d f
theorem three_c:ThreeOk:=fun w=>by
 go_enter func5,ntmps5
 go_wp2_with fail
 refine(repeated_c w).mono ?_
 rintro e f ⟨G,rfl,hG,hb⟩
 go_upto_region 2 with(refine qaH rfl 40 (.tmp 1) (.tmp 4) rfl f _ #[Y 1,Y 2,Y 1,zL none 0 0,Y 3,zS G 1 1,Y 3,zL none 0 0,zL none 0 0,Y 0,Y 0,zL none 0 0,Y 0,Y 0,Y 0,Y 0,Y 0,zL none 0 0,zL none 0 0,zL none 0 0,zL none 0 0,Y 0,zL none 0 0] rfl rfl stepSize rfl sc ?_)
 have b:zB f (f.alloc (C4 1 2 1 3 G 1 1 3)):=zV.alloc zn _
 have A:zK ((f.alloc (C4 1 2 1 3 G 1 1 3)).heap[f.heap.size]?=some (C4 1 2 1 3 G 1 1 3)):=heap_alloc_new _ _
 have u:=zH ((hG.keep b).more b.size)
 have k:=zH (hb.trans (b.mono hb.size))
 have q:f.heap.size<(f.alloc (C4 1 2 1 3 G 1 1 3)).heap.size:=U2
 clear b hG hb
 generalize f.alloc (C4 1 2 1 3 G 1 1 3)=N at *
 generalize f.heap.size=L at *
 clear f
 go_wp2_with fail
 refine(repeated_c N).mono ?_
 rintro e g ⟨G2,rfl,hG2,hb2⟩
 go_upto_region 3 with(refine qaH rfl 40 (.tmp 2) (.tmp 6) rfl g _ #[Y 15,Y 2,Y 1,zL none 0 0,Y 3,zS G2 1 1,Y 4,zL none 0 0,zL none 0 0,Y 0,Y 0,zL none 0 0,Y 0,Y 0,Y 0,Y 0,Y 0,zL none 0 0,zL none 0 0,zL none 0 0,zL none 0 0,Y 0,zL none 0 0] rfl rfl stepSize rfl sc ?_)
 have b:zB g (g.alloc (C4 15 2 1 3 G2 1 1 4)):=zV.alloc zn _
 have c:=hb2.trans (b.mono hb2.size)
 have B:zK ((g.alloc (C4 15 2 1 3 G2 1 1 4)).heap[g.heap.size]?=some (C4 15 2 1 3 G2 1 1 4)):=heap_alloc_new _ _
 have x:=zH ((hG2.keep b).more b.size)
 have y:=zH ((u.o.keep c).more c.size)
 have l:=zH (k.o.trans (c.mono k.o.size))
 have n:=zH ((c.block L q).trans A.o)
 have J:g.heap.size<(g.alloc (C4 15 2 1 3 G2 1 1 4)).heap.size:=U2
 have K:=Nat.lt_of_lt_of_le q c.size
 clear b c hG2 hb2 u k A q
 generalize g.alloc (C4 15 2 1 3 G2 1 1 4)=r at *
 generalize g.heap.size=O at *
 clear g N
 have d:=zH<|range_of_row n.o
 go_wp2_with (refine wpList_load_mid rfl 40 (.tmp 1) rfl L 0 rfl (Ch 1 2 1 3 G 1 1 3) _ d.o underlying40 rfl stepSize ?_)
 have b:zB r (r.alloc (C4 1 2 1 3 G 1 1 3)):=zV.alloc zn _
 have s:=zH (check_1 G r.heap.size (r.alloc (C4 1 2 1 3 G 1 1 3)) (range_of_row (heap_alloc_new _ _)) U2 ((y.o.keep b).more b.size))
 refine s.o.mono ?_
 rintro e i ⟨he,hb4⟩
 have p:e=.returned (Y 0):=he
 subst p
 have c:=b.trans (hb4.mono b.size)
 have C:=zH ((c.block L K).trans n.o)
 have D:=zH ((c.block O J).trans B.o)
 have z:=zH ((x.o.keep c).more c.size)
 have m:=zH (l.o.trans (c.mono l.o.size))
 clear he b hb4 c s d n B x y l J K
 generalize r.heap.size=R at *
 have d:=zH<|range_of_row C.o
 have H:=zH<|range_of_row D.o
 go_wp2_with (first
  |(refine qdL rfl 40 (.tmp 1) rfl L 0 rfl (Ch 1 2 1 3 G 1 1 3) _ d.o underlying40 rfl stepSize ?_)
  |(refine qdL rfl 40 (.tmp 2) rfl O 0 rfl (Ch 15 2 1 3 G2 1 1 4) _ H.o underlying40 rfl stepSize ?_))
 have b:zB i (i.alloc (C8 1 2 1 3 G 1 1 3 15 2 1 3 G2 1 1 4)):=zV.alloc zn _
 have E:zK ((i.alloc (C8 1 2 1 3 G 1 1 3 15 2 1 3 G2 1 1 4)).heap[i.heap.size]?=some (.cells (repC 1 3 G++repC 15 4 G2).toArray 40 (0,0))):=heap_alloc_new _ _
 have I:zK ((i.alloc (C8 1 2 1 3 G 1 1 3 15 2 1 3 G2 1 1 4)).rangeAt i.heap.size 23 (repC 15 4 G2)):=fun j v hj=>by
  have h:(repC 1 3 G++repC 15 4 G2)[23+j]?=some v:=by
   rw[List.getElem?_append_right (by show 23<=23+j;omega)]
   show(repC 15 4 G2)[23+j-23]?=some v
   rw[Nat.add_sub_cancel_left]
   exact hj
  have P:=range_of_row E.o (23+j) v h
  rw[Nat.zero_add] at P
  exact P
 have t:=zH (check_15 G2 i.heap.size (i.alloc (C8 1 2 1 3 G 1 1 3 15 2 1 3 G2 1 1 4)) I.o U2 ((z.o.keep b).more b.size))
 refine t.o.mono ?_
 rintro e Q ⟨he,hb6⟩
 have p:e=.returned (Y 13):=he
 subst p
 have M:=zH (m.o.trans ((b.trans (hb6.mono b.size)).mono m.o.size))
 clear he b hb6 t I E d H C D z m
 go_wp2
 go_ret
 exact⟨rfl,M.o⟩
end Go.Proofs.YtkcdlealipfnbaaGreat
