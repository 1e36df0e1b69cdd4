/-
 The argument, opened: a list of steps with the lists of the rules. derive.itself at the columns; the law's code of 000 and 111; its two claims. The law's three: a right and a wrong claim about the code of 000 and 111.
-/
import Derived.Test.YtlmglaonldlanaaGreatQ50
import Derived.Test.YtlmglaonldlanaaGreatQ47
import Derived.Test.YtlmglaonldlanaaGreatQ33
import Derived.Test.YtlmglaonldlanaaGreatQ48
namespace Go.Proofs.YtlmglaonldlanaaGreat
open Go.RowKit Go.ChangeShapes Go.WideShapes Go.Deep
section
variable {H:Type} {enc:TypeId × Value->H} {w:World} {base:Nat} {spare:Nat->Bool} {held:Bool}
theorem slice_cap {fuel:Nat} {t e:TypeId} {c:Value} {x:DataW H × List MemPlace} (ht:Tryz.prog.underlying t=some (.slice e)) (h:DataW.trod enc Tryz.prog w base spare held fuel t [c]=some x) :
 ∃ (A:Option Addr) (n k:Nat),c=.slice A n k/\n<=k:=by
 rcases DataW.trod_slice ht h with ⟨h0,_⟩ | ⟨a,len,cap,_,_,_,_,hcs,_,_,hl,hm,_⟩
 . exact ⟨none,0,0,by simpa using h0,by simp⟩
 . exact ⟨some a,len,cap,by simpa using hcs,by omega⟩
theorem step_cellsE {fuel:Nat} {cs:List Value} {x:DataW H × List MemPlace} (hl:cs.length=23) (h:DataW.trod enc Tryz.prog w base spare held fuel 40 cs=some x) :
 ∃ (d:StD) (bl pl ml:List Int),StC w w.heap.size d cs/\StE w w.heap.size d bl pl ml cs/\d.ok:=by
 match cs,hl with
 | [c0,c1,c2,c3,c4,c5,c6,c7,c8,c9,c10,c11,c12,c13,c14,c15,c16,c17,c18,c19,c20,c21,c22],_ =>
   obtain ⟨_,_,_,h0⟩:=qaS Tryz.underlying40 h 0 3 0 1 rfl cellsInt
   obtain ⟨_,_,_,h1⟩:=qaS Tryz.underlying40 h 1 32 1 5 rfl cellsCode
   obtain ⟨_,_,_,h2⟩:=qaS Tryz.underlying40 h 2 3 6 1 rfl cellsInt
   obtain ⟨_,_,_,h3⟩:=qaS Tryz.underlying40 h 3 23 7 1 rfl cellsInts
   obtain ⟨_,_,_,h4⟩:=qaS Tryz.underlying40 h 4 23 8 1 rfl cellsInts
   obtain ⟨_,_,_,h5⟩:=qaS Tryz.underlying40 h 5 29 9 3 rfl cellsField
   obtain ⟨_,_,_,h6⟩:=qaS Tryz.underlying40 h 6 34 12 5 rfl cellsRun
   obtain ⟨_,_,_,h7⟩:=qaS Tryz.underlying40 h 7 23 17 1 rfl cellsInts
   obtain ⟨_,_,_,h8⟩:=qaS Tryz.underlying40 h 8 23 18 1 rfl cellsInts
   obtain ⟨_,_,_,h9⟩:=qaS Tryz.underlying40 h 9 36 19 3 rfl cellsMono
   obtain ⟨_,_,_,h10⟩:=qaS Tryz.underlying40 h 10 38 22 1 rfl cellsExcl
   obtain ⟨rule,rfl⟩:=qcI h0
   obtain ⟨_,_,_,f0⟩:=qaS Tryz.underlying32 h1 0 29 0 3 rfl cellsField
   obtain ⟨_,_,_,f1⟩:=qaS Tryz.underlying32 h1 1 3 3 1 rfl cellsInt
   obtain ⟨_,_,_,f2⟩:=qaS Tryz.underlying32 h1 2 30 4 1 rfl cellsRows
   obtain ⟨p,m,mod,Am,cm,rfl,rfl,rfl,l3,i3⟩:=field_cells f0
   obtain ⟨n,rfl⟩:=qcI f1
   obtain ⟨gen,Ag,cg,rfl,l5,lc5,i5⟩:=rows_cell f2
   obtain ⟨low,rfl⟩:=qcI h2
   obtain ⟨frm,Af,cf,rfl,l7,i7⟩:=qdF h3
   obtain ⟨at_,Aa,ca,rfl,l8,i8⟩:=qdF h4
   obtain ⟨bp,bm,bmod,Ab,cb,rfl,rfl,rfl,l11,i11⟩:=field_cells h5
   obtain ⟨_,_,_,r0⟩:=qaS Tryz.underlying34 h6 0 3 0 1 rfl cellsInt
   obtain ⟨_,_,_,r1⟩:=qaS Tryz.underlying34 h6 1 3 1 1 rfl cellsInt
   obtain ⟨_,_,_,r2⟩:=qaS Tryz.underlying34 h6 2 3 2 1 rfl cellsInt
   obtain ⟨_,_,_,r3⟩:=qaS Tryz.underlying34 h6 3 3 3 1 rfl cellsInt
   obtain ⟨_,_,_,r4⟩:=qaS Tryz.underlying34 h6 4 3 4 1 rfl cellsInt
   obtain ⟨z0,rfl⟩:=qcI r0
   obtain ⟨z1,rfl⟩:=qcI r1
   obtain ⟨z2,rfl⟩:=qcI r2
   obtain ⟨z3,rfl⟩:=qcI r3
   obtain ⟨z4,rfl⟩:=qcI r4
   obtain ⟨Ap',np',cp',ecp,lcp⟩:=slice_cap Tryz.underlying23 h7
   obtain ⟨pl,Ap,cp,rfl,lp,ip⟩:=qdF h7
   obtain ⟨ml,Aq,cq,rfl,lq,iq⟩:=qdF h8
   injection ecp with _ e1 e2
   subst e1
   subst e2
   obtain ⟨_,_,_,m0⟩:=qaS Tryz.underlying36 h9 0 23 0 1 rfl cellsInts
   obtain ⟨_,_,_,m1⟩:=qaS Tryz.underlying36 h9 1 23 1 1 rfl cellsInts
   obtain ⟨_,_,_,m2⟩:=qaS Tryz.underlying36 h9 2 3 2 1 rfl cellsInt
   obtain ⟨Ar,nr,cr,rfl,lr⟩:=slice_cell Tryz.underlying23 m0
   obtain ⟨As,ns,cs',rfl,ls⟩:=slice_cell Tryz.underlying23 m1
   obtain ⟨z5,rfl⟩:=qcI m2
   obtain ⟨_,_,_,t0⟩:=qaS Tryz.underlying38 h10 0 30 0 1 rfl cellsRows
   obtain ⟨sets,At,ct,rfl,lt,_,it⟩:=rows_cell t0
   exact ⟨⟨rule,p,m,mod,n,gen,low,frm,at_,bp,bm,bmod.length,z0,z1,z2,z3,z4,pl.length,ml.length,nr,ns,z5,sets⟩,bmod,pl,ml,
    ⟨Am,Ag,Af,Aa,Ab,Ap,Aq,Ar,As,At,cm,cg,cf,ca,cb,cp,cq,cr,cs',ct,rfl,lc5,i3,i5,i7,i8,it⟩,⟨Ab,Ap,Aq,cb,cp,cq,rfl,rfl,rfl,l11,lp,lcp,i11,ip,iq⟩,l3,l5,l7,l8,l11,lp,lq,lr,ls,lt⟩
theorem steps_openE {v:Value} {d:DataW H} {p:List MemPlace} (h:DataW.Trod enc Tryz.prog w base spare held 22 v d p) (hv:v.cells=#[v]) :
 ∃ (A:Option Addr) (ds:List StD) (k:Nat),v=.slice A ds.length k/\ds.length<=maxLen/\StsE w w.heap.size A ds/\∀ d∈ds,d.ok:=by
 obtain ⟨fuel,hf⟩:=h
 rw [hv] at hf
 rcases open_slice Tryz.underlying22 hf with ⟨h0,_⟩ | ⟨a,len,cap,m,n,D,Pl,hcs,_,hl,hm,hmm,_,hx⟩
 . exact ⟨none,[],0,by simpa using h0,by simp,fun h=>absurd h (by simp),by simp⟩
 . have hlm : len <= m := by rw [hmm];split <;> omega
   rw [cellsStep] at hx
   by_cases h0:len=0
   . subst h0
     exact ⟨some a,[],cap,by simpa using hcs,by simp,fun h=>absurd h (by simp),by simp⟩
   . obtain ⟨c0,g0,_⟩ := hx 0 (by omega)
     obtain ⟨_,l0,q0⟩:=World.cells?_some g0
     have hc0:=q0 0 (by omega)
     rw [List.getElem?_eq_getElem (by omega)] at hc0
     have ha:(a.add (0*23)).add 0=a:=rfl
     rw [ha] at hc0
     have hlt:=World.block_lt_of_cell? w _ hc0
     have hsp:=qeS hc0
     have hadd:∀ j,a.add j=⟨a.block,a.off+j,none⟩:=fun j=>by rw [hsp];exact Addr.add_mid _ _ _
     have key:∀ i,i<len->∃ (d:StD) (cs:List Value) (bl pl ml:List Int),w.rangeAt a.block (a.off+i*23) cs/\StC w w.heap.size d cs/\StE w w.heap.size d bl pl ml cs/\d.ok:=fun i hi=>by
      obtain ⟨cs,g,ht⟩:=hx i (by omega)
      obtain ⟨_,hlen,q⟩:=World.cells?_some g
      obtain ⟨d,bl,pl,ml,hd,hE,hok⟩:=step_cellsE hlen ht
      refine ⟨d,cs,bl,pl,ml,fun j u hu=>?_,hd,hE,hok⟩
      have hj:j<23:=by rw [<- hlen];exact (List.getElem?_eq_some_iff.1 hu).1
      have:=q j hj
      rw [hu,add_of_add,hadd] at this
      rw [<- this,Nat.add_assoc]
     obtain ⟨f,hf⟩:∃ f:Nat->StD,∀ i,i<len->∃ (cs:List Value) (bl pl ml:List Int),w.rangeAt a.block (a.off+i*23) cs/\StC w w.heap.size (f i) cs/\StE w w.heap.size (f i) bl pl ml cs/\(f i).ok :=
      ⟨fun i=>if h:i<len then Classical.choose (key i h) else ⟨0,0,0,[],0,[],0,[],[],0,0,0,0,0,0,0,0,0,0,0,0,0,[]⟩,fun i hi=>by simp only [hi,dif_pos];exact Classical.choose_spec (key i hi)⟩
     refine ⟨some a,(List.range len).map f,cap,by simpa using hcs,by simp;omega,fun _=>⟨a.block,a.off,congrArg some hsp,hlt,fun i d hd=>?_⟩,fun d hd=>?_⟩
     . have hi : i < len := by have := (List.getElem?_eq_some_iff.1 hd).1;simpa using this
       have:d=f i:=by simpa [hi] using hd.symm
       rw [this]
       obtain ⟨cs,bl,pl,ml,h1,h2,h3,_⟩:=hf i hi
       exact ⟨cs,bl,pl,ml,h1,h2,h3⟩
     . obtain ⟨i,hi,rfl⟩ := List.mem_map.1 hd
       obtain ⟨cs,_,_,_,_,_,_,h3⟩:=hf i (List.mem_range.1 hi)
       exact h3
end
end Go.Proofs.YtlmglaonldlanaaGreat
namespace Go.Proofs.YtlmglaonldlanaaGreat
open Go.RowKit Pln
set_option maxHeartbeats 4000000 in
set_option maxRecDepth 100000 in
theorem itself_1 (G:Nat) (w:World) (hG:RowsAt w w.heap.size (some ⟨G,0,none⟩) [[1,1,1]]) :
 Calls Tryz.prog 28 #[.agg (repC 1 3 G).toArray] w (BPost true w):=by
 have HX:=Lib.hid (qdZ w (repC 1 3 G))
 have HG:=Lib.hid hG
 clear hG
 go_enter Tryz.func28,Tryz.ntmps28
 go_upto_region 1 with fail
 generalize w.alloc (.cells (repC 1 3 G).toArray 40)=W0 at *
 have y0:W0.cell? ⟨w.heap.size,0,none⟩=some (.int .i64 1):=HX.out.cell rfl
 have y6:W0.cell? ⟨w.heap.size,6,none⟩=some (.int .i64 3):=HX.out.cell rfl
 have y1:W0.cell? ⟨w.heap.size,1,none⟩=some (.int .i64 2):=HX.out.cell rfl
 have y2:W0.cell? ⟨w.heap.size,2,none⟩=some (.int .i64 1):=HX.out.cell rfl
 have y3:W0.cell? ⟨w.heap.size,3,none⟩=some (.slice none 0 0):=HX.out.cell rfl
 have y4:W0.cell? ⟨w.heap.size,4,none⟩=some (.int .i64 3):=HX.out.cell rfl
 have y5:W0.cell? ⟨w.heap.size,5,none⟩=some (.slice (some ⟨G,0,none⟩) 1 1):=HX.out.cell rfl
 have HC:=Lib.hid (columns_rep G W0 ((HG.out.keep HX.out.2.1).more HX.out.2.1.size))
 go_wp2_with fail
 refine HC.out.mono ?_
 rintro e w1 ⟨rfl,hb⟩
 have HB:=Lib.hid (HX.out.2.1.trans (hb.mono HX.out.2.1.size))
 clear hb HC HX y0 y1 y2 y3 y4 y5 y6
 go_wp2_with fail
 go_ret
 exact ⟨rfl,HB.out⟩
def RepPost (w:World) (e:Ending) (w':World):Prop :=
 ∃ G,e=.returned (.agg #[.int .i64 2,.int .i64 1,.slice none 0 0,.int .i64 3,.slice (some ⟨G,0,none⟩) 1 1])/\RowsAt w' w'.heap.size (some ⟨G,0,none⟩) [[1,1,1]]/\Below w.heap.size w w'
theorem rows_new (w1:World):RowsUp ((w1.alloc (.cells #[.int .i64 1,.int .i64 1,.int .i64 1] 3)).alloc (.cells #[.slice (some ⟨w1.heap.size,0,none⟩) 3 3] 23)) w1.heap.size (some ⟨w1.heap.size+1,0,none⟩) [[1,1,1]]:=fun _=>by
 have h0:((w1.alloc (.cells #[.int .i64 1,.int .i64 1,.int .i64 1] 3)).alloc (.cells #[.slice (some ⟨w1.heap.size,0,none⟩) 3 3] 23)).heap[w1.heap.size]?=some (.cells #[.int .i64 1,.int .i64 1,.int .i64 1] 3 (0,0)):=(Below.heap_alloc _ _ _ (by simp)).trans (heap_alloc_new _ _)
 have h1:((w1.alloc (.cells #[.int .i64 1,.int .i64 1,.int .i64 1] 3)).alloc (.cells #[.slice (some ⟨w1.heap.size,0,none⟩) 3 3] 23)).heap[w1.heap.size+1]?=some (.cells #[.slice (some ⟨w1.heap.size,0,none⟩) 3 3] 23 (0,0)):=qbM (by simp) _
 refine ⟨w1.heap.size+1,0,rfl,by omega,by simp,fun i hi=>?_⟩
 obtain rfl:i=0:=by simpa using hi
 refine ⟨w1.heap.size,0,3,cell_of_row _ _ 0 _ _ _ h1,Nat.le_refl _,by simp;omega,fun j hj=>?_⟩
 rw [cell_of_row _ _ _ _ _ _ h0]
 have hj3:j<3:=hj
 match j,hj3 with
 | 0,_=>rfl
 | 1,_=>rfl
 | 2,_=>rfl
set_option maxRecDepth 100000 in
theorem repeated_c (w:World):Calls Tryz.prog 13 #[] w (RepPost w):=by
 have HX:=Lib.hid (qcY w [.int .i64 0,.int .i64 0,.slice none 0 0,.int .i64 0,.slice none 0 0] 32)
 go_enter Tryz.func13,Tryz.ntmps13
 go_upto_region 1 with fail
 generalize w.alloc (.cells #[.int .i64 0,.int .i64 0,.slice none 0 0,.int .i64 0,.slice none 0 0] 32)=w1 at *
 have HB2:Below w1.heap.size w1 ((w1.alloc (.cells #[.int .i64 1,.int .i64 1,.int .i64 1] 3)).alloc (.cells #[.slice (some ⟨w1.heap.size,0,none⟩) 3 3] 23)):=((Below.refl _ _).alloc (Nat.le_refl _) _).alloc (by simp) _
 have HX2:=Lib.hid (HX.out.grow HB2)
 have HR2:=Lib.hid (rows_new w1)
 have hs1:=HX.out.2.2
 clear HB2 HX
 go_wp2_with (refine qaE rfl 32 (.tmp 0) (.tmp 4) rfl _ w.heap.size 32 #[.int .i64 0,.int .i64 0,.slice none 0 0,.int .i64 0,.slice none 0 0] #[.int .i64 2,.int .i64 1,.slice none 0 0,.int .i64 3,.slice (some ⟨w1.heap.size+1,0,none⟩) 1 1] rfl rfl HX2.out.1 codeSize rfl (by simp [Value.oneCell']) ?_)
 have HY:Hid (BX w [.int .i64 2,.int .i64 1,.slice none 0 0,.int .i64 3,.slice (some ⟨w1.heap.size+1,0,none⟩) 1 1] 32 (((w1.alloc (.cells #[.int .i64 1,.int .i64 1,.int .i64 1] 3)).alloc (.cells #[.slice (some ⟨w1.heap.size,0,none⟩) 3 3] 23)).setRow w.heap.size #[.int .i64 2,.int .i64 1,.slice none 0 0,.int .i64 3,.slice (some ⟨w1.heap.size+1,0,none⟩) 1 1])):=⟨qbI _ _ _ _ _ HX2.out.1,qbD HX2.out.below (Nat.le_refl _) _,by have:=HX2.out.2.2;simp;omega⟩
 refine bodyPost_ret (results_cell_row (P:=Tryz.prog) rfl _ _ w.heap.size 32 #[.int .i64 2,.int .i64 1,.slice none 0 0,.int .i64 3,.slice (some ⟨w1.heap.size+1,0,none⟩) 1 1] (0,0) _ rfl HY.out.1 Tryz.underlying32 rfl codeSize) rfl ?_
 have hv:=HR2.out.of_blocks (w':=((w1.alloc (.cells #[.int .i64 1,.int .i64 1,.int .i64 1] 3)).alloc (.cells #[.slice (some ⟨w1.heap.size,0,none⟩) 3 3] 23)).setRow w.heap.size #[.int .i64 2,.int .i64 1,.slice none 0 0,.int .i64 3,.slice (some ⟨w1.heap.size+1,0,none⟩) 1 1]) (by simp) fun k hk _=>setRow_other _ w.heap.size k _ (by omega)
 exact ⟨w1.heap.size+1,rfl,hv.rowsAt,HY.out.below⟩
end Go.Proofs.YtlmglaonldlanaaGreat
namespace Go.Proofs.YtlmglaonldlanaaGreat
open Go.RowKit Pln
section
variable {P:Program} {ops:Array Oper} {rest:List Oper} {op:Oper} {a:Act} {w:World} {Q:Exit->Act->World->Prop}
theorem qeK (hw:Region.wanted op (yielded ops a.tmps)=true) (ty:TypeId) (x:Operand) (ho:op.op=.load ty x)
 (b o:Nat) (hx:a.eval x=.pointer (some ⟨b,o,none⟩)) (cs:List Value) (d:TypeDesc) (hc:w.rangeAt b o cs)
 (hu:P.underlying ty=some d) (hd:d.isRow=true) (hi:(P.info? ty).map (·.size)=some cs.length)
 (h:wpList P ops Q rest (a.put op.dst (.agg cs.toArray)) w):wpList P ops Q (op :: rest) a w :=
 wpList_step fun K hK=>by
  rw [if_pos hw]
  exact wp_load_mid ty x ho b o hx cs d hc hu hd hi (hK _ _ h)
end
theorem rows_111 {G:Nat} {w:World} (h:RowsAt w w.heap.size (some ⟨G,0,none⟩) [[1,1,1]]):∃ R ro cr,w.cell? ⟨G,0,none⟩=some (.slice (some ⟨R,ro,none⟩) 3 cr)/\∀ j,j<3->w.cell? ⟨R,ro+j,none⟩=some (.int .i64 1):=by
 obtain ⟨b,o,he,_,hi⟩:=h (by simp)
 injection he with he
 injection he with e1 e2
 subst e1
 subst e2
 obtain ⟨Ai,ci,h1,h2⟩:=hi 0 (by simp)
 obtain ⟨R,ro,rfl,_,hj⟩:=h2 (by simp)
 refine ⟨R,ro,ci,h1,fun j hj3=>?_⟩
 have:=hj j hj3
 rw [this]
 match j,hj3 with
 | 0,_=>rfl
 | 1,_=>rfl
 | 2,_=>rfl
theorem check_1 (G b:Nat) (w:World) (hrg:w.rangeAt b 0 (repC 1 3 G)) (hbl:b<w.heap.size) (hG:RowsAt w w.heap.size (some ⟨G,0,none⟩) [[1,1,1]]) :
 Calls Tryz.prog 7 #[.slice (some ⟨b,0,none⟩) 1 1,.int .i64 0] w (ChkPost true w) :=
 checkstep_rep 1 3 premises_1 (by omega) (by omega) (by omega) (by omega) form_rep1 G b 0 1 0 w (by omega) (by omega) hrg hbl hG true fun W hW=>itself_1 G W ((hG.keep hW).more hW.size)
theorem check_15 (G b:Nat) (w:World) (hrg:w.rangeAt b 23 (repC 15 4 G)) (hbl:b<w.heap.size) (hG:RowsAt w w.heap.size (some ⟨G,0,none⟩) [[1,1,1]]) :
 Calls Tryz.prog 7 #[.slice (some ⟨b,0,none⟩) 2 2,.int .i64 1] w (ChkPost false w) :=
 checkstep_rep 15 4 premises_15 (by omega) (by omega) (by omega) (by omega) form_rep15 G b 0 2 1 w (by omega) (by omega) hrg hbl hG false fun W hW=>by
  obtain ⟨R,ro,cr,h1,h2⟩:=rows_111 ((hG.keep hW).more hW.size)
  exact itself_15 G R ro cr W h1 h2
set_option maxHeartbeats 4000000 in
set_option maxRecDepth 100000 in
theorem three_c:ThreeOk:=fun w=>by
 go_enter Tryz.func5,Tryz.ntmps5
 go_wp2_with fail
 refine (repeated_c w).mono ?_
 rintro e w1 ⟨G,rfl,hG,hb⟩
 go_upto_region 2 with (refine qaI rfl 40 (.tmp 1) (.tmp 4) rfl w1 _ #[.int .i64 1,.int .i64 2,.int .i64 1,.slice none 0 0,.int .i64 3,.slice (some ⟨G,0,none⟩) 1 1,.int .i64 3,.slice none 0 0,.slice none 0 0,.int .i64 0,.int .i64 0,.slice none 0 0,.int .i64 0,.int .i64 0,.int .i64 0,.int .i64 0,.int .i64 0,.slice none 0 0,.slice none 0 0,.slice none 0 0,.slice none 0 0,.int .i64 0,.slice none 0 0] rfl rfl stepSize rfl (by simp [Value.oneCell']) ?_)
 have hba:Below w1.heap.size w1 (w1.alloc (.cells #[.int .i64 1,.int .i64 2,.int .i64 1,.slice none 0 0,.int .i64 3,.slice (some ⟨G,0,none⟩) 1 1,.int .i64 3,.slice none 0 0,.slice none 0 0,.int .i64 0,.int .i64 0,.slice none 0 0,.int .i64 0,.int .i64 0,.int .i64 0,.int .i64 0,.int .i64 0,.slice none 0 0,.slice none 0 0,.slice none 0 0,.slice none 0 0,.int .i64 0,.slice none 0 0] 40)):=(Below.refl _ _).alloc (Nat.le_refl _) _
 have HK1:Hid ((w1.alloc (.cells #[.int .i64 1,.int .i64 2,.int .i64 1,.slice none 0 0,.int .i64 3,.slice (some ⟨G,0,none⟩) 1 1,.int .i64 3,.slice none 0 0,.slice none 0 0,.int .i64 0,.int .i64 0,.slice none 0 0,.int .i64 0,.int .i64 0,.int .i64 0,.int .i64 0,.int .i64 0,.slice none 0 0,.slice none 0 0,.slice none 0 0,.slice none 0 0,.int .i64 0,.slice none 0 0] 40)).heap[w1.heap.size]?=some (.cells #[.int .i64 1,.int .i64 2,.int .i64 1,.slice none 0 0,.int .i64 3,.slice (some ⟨G,0,none⟩) 1 1,.int .i64 3,.slice none 0 0,.slice none 0 0,.int .i64 0,.int .i64 0,.slice none 0 0,.int .i64 0,.int .i64 0,.int .i64 0,.int .i64 0,.int .i64 0,.slice none 0 0,.slice none 0 0,.slice none 0 0,.slice none 0 0,.int .i64 0,.slice none 0 0] 40 (0,0))):=heap_alloc_new _ _
 have HG1:=Lib.hid ((hG.keep hba).more hba.size)
 have HB1:=Lib.hid (hb.trans (hba.mono hb.size))
 have hl1:w1.heap.size<(w1.alloc (.cells #[.int .i64 1,.int .i64 2,.int .i64 1,.slice none 0 0,.int .i64 3,.slice (some ⟨G,0,none⟩) 1 1,.int .i64 3,.slice none 0 0,.slice none 0 0,.int .i64 0,.int .i64 0,.slice none 0 0,.int .i64 0,.int .i64 0,.int .i64 0,.int .i64 0,.int .i64 0,.slice none 0 0,.slice none 0 0,.slice none 0 0,.slice none 0 0,.int .i64 0,.slice none 0 0] 40)).heap.size:=by simp
 clear hba hG hb
 generalize w1.alloc (.cells #[.int .i64 1,.int .i64 2,.int .i64 1,.slice none 0 0,.int .i64 3,.slice (some ⟨G,0,none⟩) 1 1,.int .i64 3,.slice none 0 0,.slice none 0 0,.int .i64 0,.int .i64 0,.slice none 0 0,.int .i64 0,.int .i64 0,.int .i64 0,.int .i64 0,.int .i64 0,.slice none 0 0,.slice none 0 0,.slice none 0 0,.slice none 0 0,.int .i64 0,.slice none 0 0] 40)=W1 at *
 generalize w1.heap.size=b1 at *
 clear w1
 go_wp2_with fail
 refine (repeated_c W1).mono ?_
 rintro e w2 ⟨G2,rfl,hG2,hb2⟩
 go_upto_region 3 with (refine qaI rfl 40 (.tmp 2) (.tmp 6) rfl w2 _ #[.int .i64 15,.int .i64 2,.int .i64 1,.slice none 0 0,.int .i64 3,.slice (some ⟨G2,0,none⟩) 1 1,.int .i64 4,.slice none 0 0,.slice none 0 0,.int .i64 0,.int .i64 0,.slice none 0 0,.int .i64 0,.int .i64 0,.int .i64 0,.int .i64 0,.int .i64 0,.slice none 0 0,.slice none 0 0,.slice none 0 0,.slice none 0 0,.int .i64 0,.slice none 0 0] rfl rfl stepSize rfl (by simp [Value.oneCell']) ?_)
 have hba:Below w2.heap.size w2 (w2.alloc (.cells #[.int .i64 15,.int .i64 2,.int .i64 1,.slice none 0 0,.int .i64 3,.slice (some ⟨G2,0,none⟩) 1 1,.int .i64 4,.slice none 0 0,.slice none 0 0,.int .i64 0,.int .i64 0,.slice none 0 0,.int .i64 0,.int .i64 0,.int .i64 0,.int .i64 0,.int .i64 0,.slice none 0 0,.slice none 0 0,.slice none 0 0,.slice none 0 0,.int .i64 0,.slice none 0 0] 40)):=(Below.refl _ _).alloc (Nat.le_refl _) _
 have hbb:Below W1.heap.size W1 (w2.alloc (.cells #[.int .i64 15,.int .i64 2,.int .i64 1,.slice none 0 0,.int .i64 3,.slice (some ⟨G2,0,none⟩) 1 1,.int .i64 4,.slice none 0 0,.slice none 0 0,.int .i64 0,.int .i64 0,.slice none 0 0,.int .i64 0,.int .i64 0,.int .i64 0,.int .i64 0,.int .i64 0,.slice none 0 0,.slice none 0 0,.slice none 0 0,.slice none 0 0,.int .i64 0,.slice none 0 0] 40)):=hb2.trans (hba.mono hb2.size)
 have HK2:Hid ((w2.alloc (.cells #[.int .i64 15,.int .i64 2,.int .i64 1,.slice none 0 0,.int .i64 3,.slice (some ⟨G2,0,none⟩) 1 1,.int .i64 4,.slice none 0 0,.slice none 0 0,.int .i64 0,.int .i64 0,.slice none 0 0,.int .i64 0,.int .i64 0,.int .i64 0,.int .i64 0,.int .i64 0,.slice none 0 0,.slice none 0 0,.slice none 0 0,.slice none 0 0,.int .i64 0,.slice none 0 0] 40)).heap[w2.heap.size]?=some (.cells #[.int .i64 15,.int .i64 2,.int .i64 1,.slice none 0 0,.int .i64 3,.slice (some ⟨G2,0,none⟩) 1 1,.int .i64 4,.slice none 0 0,.slice none 0 0,.int .i64 0,.int .i64 0,.slice none 0 0,.int .i64 0,.int .i64 0,.int .i64 0,.int .i64 0,.int .i64 0,.slice none 0 0,.slice none 0 0,.slice none 0 0,.slice none 0 0,.int .i64 0,.slice none 0 0] 40 (0,0))):=heap_alloc_new _ _
 have HG2:=Lib.hid ((hG2.keep hba).more hba.size)
 have HG3:=Lib.hid ((HG1.out.keep hbb).more hbb.size)
 have HB2:=Lib.hid (HB1.out.trans (hbb.mono HB1.out.size))
 have HK3:=Lib.hid ((hbb.block b1 hl1).trans HK1.out)
 have hl2:w2.heap.size<(w2.alloc (.cells #[.int .i64 15,.int .i64 2,.int .i64 1,.slice none 0 0,.int .i64 3,.slice (some ⟨G2,0,none⟩) 1 1,.int .i64 4,.slice none 0 0,.slice none 0 0,.int .i64 0,.int .i64 0,.slice none 0 0,.int .i64 0,.int .i64 0,.int .i64 0,.int .i64 0,.int .i64 0,.slice none 0 0,.slice none 0 0,.slice none 0 0,.slice none 0 0,.int .i64 0,.slice none 0 0] 40)).heap.size:=by simp
 have hl3:b1<(w2.alloc (.cells #[.int .i64 15,.int .i64 2,.int .i64 1,.slice none 0 0,.int .i64 3,.slice (some ⟨G2,0,none⟩) 1 1,.int .i64 4,.slice none 0 0,.slice none 0 0,.int .i64 0,.int .i64 0,.slice none 0 0,.int .i64 0,.int .i64 0,.int .i64 0,.int .i64 0,.int .i64 0,.slice none 0 0,.slice none 0 0,.slice none 0 0,.slice none 0 0,.int .i64 0,.slice none 0 0] 40)).heap.size:=Nat.lt_of_lt_of_le hl1 hbb.size
 clear hba hbb hG2 hb2 HG1 HB1 HK1 hl1
 generalize w2.alloc (.cells #[.int .i64 15,.int .i64 2,.int .i64 1,.slice none 0 0,.int .i64 3,.slice (some ⟨G2,0,none⟩) 1 1,.int .i64 4,.slice none 0 0,.slice none 0 0,.int .i64 0,.int .i64 0,.slice none 0 0,.int .i64 0,.int .i64 0,.int .i64 0,.int .i64 0,.int .i64 0,.slice none 0 0,.slice none 0 0,.slice none 0 0,.slice none 0 0,.int .i64 0,.slice none 0 0] 40)=W2 at *
 generalize w2.heap.size=b2 at *
 clear w2 W1
 have HR1:Hid (W2.rangeAt b1 0 [.int .i64 1,.int .i64 2,.int .i64 1,.slice none 0 0,.int .i64 3,.slice (some ⟨G,0,none⟩) 1 1,.int .i64 3,.slice none 0 0,.slice none 0 0,.int .i64 0,.int .i64 0,.slice none 0 0,.int .i64 0,.int .i64 0,.int .i64 0,.int .i64 0,.int .i64 0,.slice none 0 0,.slice none 0 0,.slice none 0 0,.slice none 0 0,.int .i64 0,.slice none 0 0]):=qaC HK3.out
 go_wp2_with (refine wpList_load_mid rfl 40 (.tmp 1) rfl b1 0 rfl [.int .i64 1,.int .i64 2,.int .i64 1,.slice none 0 0,.int .i64 3,.slice (some ⟨G,0,none⟩) 1 1,.int .i64 3,.slice none 0 0,.slice none 0 0,.int .i64 0,.int .i64 0,.slice none 0 0,.int .i64 0,.int .i64 0,.int .i64 0,.int .i64 0,.int .i64 0,.slice none 0 0,.slice none 0 0,.slice none 0 0,.slice none 0 0,.int .i64 0,.slice none 0 0] _ HR1.out Tryz.underlying40 rfl stepSize ?_)
 have hba:Below W2.heap.size W2 (W2.alloc (.cells #[.int .i64 1,.int .i64 2,.int .i64 1,.slice none 0 0,.int .i64 3,.slice (some ⟨G,0,none⟩) 1 1,.int .i64 3,.slice none 0 0,.slice none 0 0,.int .i64 0,.int .i64 0,.slice none 0 0,.int .i64 0,.int .i64 0,.int .i64 0,.int .i64 0,.int .i64 0,.slice none 0 0,.slice none 0 0,.slice none 0 0,.slice none 0 0,.int .i64 0,.slice none 0 0] 40)):=(Below.refl _ _).alloc (Nat.le_refl _) _
 have HC1:=Lib.hid (check_1 G W2.heap.size (W2.alloc (.cells #[.int .i64 1,.int .i64 2,.int .i64 1,.slice none 0 0,.int .i64 3,.slice (some ⟨G,0,none⟩) 1 1,.int .i64 3,.slice none 0 0,.slice none 0 0,.int .i64 0,.int .i64 0,.slice none 0 0,.int .i64 0,.int .i64 0,.int .i64 0,.int .i64 0,.int .i64 0,.slice none 0 0,.slice none 0 0,.slice none 0 0,.slice none 0 0,.int .i64 0,.slice none 0 0] 40)) (qaC (heap_alloc_new _ _)) (by simp) ((HG3.out.keep hba).more hba.size))
 refine HC1.out.mono ?_
 rintro e W4 ⟨he,hb4⟩
 have he2:e=.returned (.int .i64 0):=he
 subst he2
 have hbb:Below W2.heap.size W2 W4:=hba.trans (hb4.mono hba.size)
 have HK5:=Lib.hid ((hbb.block b1 hl3).trans HK3.out)
 have HK6:=Lib.hid ((hbb.block b2 hl2).trans HK2.out)
 have HG6:=Lib.hid ((HG2.out.keep hbb).more hbb.size)
 have HB6:=Lib.hid (HB2.out.trans (hbb.mono HB2.out.size))
 clear he hba hb4 hbb HC1 HR1 HK3 HK2 HG2 HG3 HB2 hl2 hl3
 generalize W2.heap.size=nb at *
 have HR1:Hid (W4.rangeAt b1 0 [.int .i64 1,.int .i64 2,.int .i64 1,.slice none 0 0,.int .i64 3,.slice (some ⟨G,0,none⟩) 1 1,.int .i64 3,.slice none 0 0,.slice none 0 0,.int .i64 0,.int .i64 0,.slice none 0 0,.int .i64 0,.int .i64 0,.int .i64 0,.int .i64 0,.int .i64 0,.slice none 0 0,.slice none 0 0,.slice none 0 0,.slice none 0 0,.int .i64 0,.slice none 0 0]):=qaC HK5.out
 have HR2:Hid (W4.rangeAt b2 0 [.int .i64 15,.int .i64 2,.int .i64 1,.slice none 0 0,.int .i64 3,.slice (some ⟨G2,0,none⟩) 1 1,.int .i64 4,.slice none 0 0,.slice none 0 0,.int .i64 0,.int .i64 0,.slice none 0 0,.int .i64 0,.int .i64 0,.int .i64 0,.int .i64 0,.int .i64 0,.slice none 0 0,.slice none 0 0,.slice none 0 0,.slice none 0 0,.int .i64 0,.slice none 0 0]):=qaC HK6.out
 go_wp2_with (first
  | (refine qeK rfl 40 (.tmp 1) rfl b1 0 rfl [.int .i64 1,.int .i64 2,.int .i64 1,.slice none 0 0,.int .i64 3,.slice (some ⟨G,0,none⟩) 1 1,.int .i64 3,.slice none 0 0,.slice none 0 0,.int .i64 0,.int .i64 0,.slice none 0 0,.int .i64 0,.int .i64 0,.int .i64 0,.int .i64 0,.int .i64 0,.slice none 0 0,.slice none 0 0,.slice none 0 0,.slice none 0 0,.int .i64 0,.slice none 0 0] _ HR1.out Tryz.underlying40 rfl stepSize ?_)
  | (refine qeK rfl 40 (.tmp 2) rfl b2 0 rfl [.int .i64 15,.int .i64 2,.int .i64 1,.slice none 0 0,.int .i64 3,.slice (some ⟨G2,0,none⟩) 1 1,.int .i64 4,.slice none 0 0,.slice none 0 0,.int .i64 0,.int .i64 0,.slice none 0 0,.int .i64 0,.int .i64 0,.int .i64 0,.int .i64 0,.int .i64 0,.slice none 0 0,.slice none 0 0,.slice none 0 0,.slice none 0 0,.int .i64 0,.slice none 0 0] _ HR2.out Tryz.underlying40 rfl stepSize ?_))
 have hba:Below W4.heap.size W4 (W4.alloc (.cells #[.int .i64 1,.int .i64 2,.int .i64 1,.slice none 0 0,.int .i64 3,.slice (some ⟨G,0,none⟩) 1 1,.int .i64 3,.slice none 0 0,.slice none 0 0,.int .i64 0,.int .i64 0,.slice none 0 0,.int .i64 0,.int .i64 0,.int .i64 0,.int .i64 0,.int .i64 0,.slice none 0 0,.slice none 0 0,.slice none 0 0,.slice none 0 0,.int .i64 0,.slice none 0 0,.int .i64 15,.int .i64 2,.int .i64 1,.slice none 0 0,.int .i64 3,.slice (some ⟨G2,0,none⟩) 1 1,.int .i64 4,.slice none 0 0,.slice none 0 0,.int .i64 0,.int .i64 0,.slice none 0 0,.int .i64 0,.int .i64 0,.int .i64 0,.int .i64 0,.int .i64 0,.slice none 0 0,.slice none 0 0,.slice none 0 0,.slice none 0 0,.int .i64 0,.slice none 0 0] 40)):=(Below.refl _ _).alloc (Nat.le_refl _) _
 have HKX:Hid ((W4.alloc (.cells #[.int .i64 1,.int .i64 2,.int .i64 1,.slice none 0 0,.int .i64 3,.slice (some ⟨G,0,none⟩) 1 1,.int .i64 3,.slice none 0 0,.slice none 0 0,.int .i64 0,.int .i64 0,.slice none 0 0,.int .i64 0,.int .i64 0,.int .i64 0,.int .i64 0,.int .i64 0,.slice none 0 0,.slice none 0 0,.slice none 0 0,.slice none 0 0,.int .i64 0,.slice none 0 0,.int .i64 15,.int .i64 2,.int .i64 1,.slice none 0 0,.int .i64 3,.slice (some ⟨G2,0,none⟩) 1 1,.int .i64 4,.slice none 0 0,.slice none 0 0,.int .i64 0,.int .i64 0,.slice none 0 0,.int .i64 0,.int .i64 0,.int .i64 0,.int .i64 0,.int .i64 0,.slice none 0 0,.slice none 0 0,.slice none 0 0,.slice none 0 0,.int .i64 0,.slice none 0 0] 40)).heap[W4.heap.size]?=some (.cells (repC 1 3 G++repC 15 4 G2).toArray 40 (0,0))):=heap_alloc_new _ _
 have HRX:Hid ((W4.alloc (.cells #[.int .i64 1,.int .i64 2,.int .i64 1,.slice none 0 0,.int .i64 3,.slice (some ⟨G,0,none⟩) 1 1,.int .i64 3,.slice none 0 0,.slice none 0 0,.int .i64 0,.int .i64 0,.slice none 0 0,.int .i64 0,.int .i64 0,.int .i64 0,.int .i64 0,.int .i64 0,.slice none 0 0,.slice none 0 0,.slice none 0 0,.slice none 0 0,.int .i64 0,.slice none 0 0,.int .i64 15,.int .i64 2,.int .i64 1,.slice none 0 0,.int .i64 3,.slice (some ⟨G2,0,none⟩) 1 1,.int .i64 4,.slice none 0 0,.slice none 0 0,.int .i64 0,.int .i64 0,.slice none 0 0,.int .i64 0,.int .i64 0,.int .i64 0,.int .i64 0,.int .i64 0,.slice none 0 0,.slice none 0 0,.slice none 0 0,.slice none 0 0,.int .i64 0,.slice none 0 0] 40)).rangeAt W4.heap.size 23 (repC 15 4 G2)):=fun j v hj=>by
  have h:(repC 1 3 G++repC 15 4 G2)[23+j]?=some v:=by
   rw [List.getElem?_append_right (by show 23<=23+j;omega)]
   show (repC 15 4 G2)[23+j-23]?=some v
   rw [Nat.add_sub_cancel_left]
   exact hj
  have h2:=qaC HKX.out (23+j) v h
  rw [Nat.zero_add] at h2
  exact h2
 have HC2:=Lib.hid (check_15 G2 W4.heap.size (W4.alloc (.cells #[.int .i64 1,.int .i64 2,.int .i64 1,.slice none 0 0,.int .i64 3,.slice (some ⟨G,0,none⟩) 1 1,.int .i64 3,.slice none 0 0,.slice none 0 0,.int .i64 0,.int .i64 0,.slice none 0 0,.int .i64 0,.int .i64 0,.int .i64 0,.int .i64 0,.int .i64 0,.slice none 0 0,.slice none 0 0,.slice none 0 0,.slice none 0 0,.int .i64 0,.slice none 0 0,.int .i64 15,.int .i64 2,.int .i64 1,.slice none 0 0,.int .i64 3,.slice (some ⟨G2,0,none⟩) 1 1,.int .i64 4,.slice none 0 0,.slice none 0 0,.int .i64 0,.int .i64 0,.slice none 0 0,.int .i64 0,.int .i64 0,.int .i64 0,.int .i64 0,.int .i64 0,.slice none 0 0,.slice none 0 0,.slice none 0 0,.slice none 0 0,.int .i64 0,.slice none 0 0] 40)) HRX.out (by simp) ((HG6.out.keep hba).more hba.size))
 refine HC2.out.mono ?_
 rintro e W6 ⟨he,hb6⟩
 have he2:e=.returned (.int .i64 13):=he
 subst he2
 have HB7:=Lib.hid (HB6.out.trans ((hba.trans (hb6.mono hba.size)).mono HB6.out.size))
 clear he hba hb6 HC2 HRX HKX HR1 HR2 HK5 HK6 HG6 HB6
 go_wp2_with fail
 go_ret
 exact ⟨rfl,HB7.out⟩
end Go.Proofs.YtlmglaonldlanaaGreat
