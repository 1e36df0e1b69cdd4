/-
 The reference: Field, Make. A region as in Mf, in which one alloc (number x) may come up at any time among the calls.
-/
import Derived.ArgAppend
import Derived.Test.YtlmglaonldlanaaGreatQ31
import Derived.Test.YtlmglaonldlanaaGreatQ30
import Derived.Test.YtlmglaonldlanaaGreatQ01
namespace Go.Proofs.YtlmglaonldlanaaGreat
open Go.RowKit Pln
theorem qeD (ty:TypeId) (b0:Nat) (A:Option Addr) (c:Nat) (zs:List Int) (W:World) (hA:IntsAt W W.heap.size A zs) (hl:zs.length<=1000000) :
 ∃ (A':Option Addr) (c':Nat) (w':World),(Builtin.append_ #[23,23] ty #[.slice (some ⟨b0,0,none⟩) 0 0,.slice A zs.length c]).run Tryz.prog W=.ok (.slice A' zs.length c') w'/\IntsUp w' W.heap.size A' zs/\Below W.heap.size W w':=by
 obtain ⟨i0,hi,hz0,hz1,hz2⟩:=qaG infoInt
 by_cases h0:zs.length=0
 . refine ⟨some ⟨b0,0,none⟩,0,W,?_,fun h => absurd h (by omega),Below.refl _ _⟩
   rw [h0]
   cases A <;> simp [Builtin.append_,run_underlying Tryz.underlying23,sizeOf,typeInfo,hi,Builtin.lenOf,Builtin.firstCells,storeCells,loadCells,loadCellsFrom]
 . obtain ⟨b,o,rfl,hb,hc⟩ := hA (by omega)
   obtain ⟨v',w',hrun,hown,hg⟩:=run_append_arg_grows (P:=Tryz.prog) W 23 ty 3 i0 _ 1 8 Tryz.underlying23 hi hz0 hz1 hz2 rfl (by decide) ⟨b0,0,none⟩ 0 0 [] rfl (fun j u hj=>by simp at hj) ⟨b,o,none⟩ zs.length c (zs.map (Value.int .i64)) (by simp) (IntsAt.news (B:=W.heap.size) (fun hz=>⟨b,o,rfl,hb,hc⟩)) (by omega) (by unfold maxLen;omega) (by omega)
   obtain ⟨g,cap,rfl,hlo,hlt⟩:=hown.form (by omega)
   refine ⟨some ⟨g,0,none⟩,cap,w',by rw [hrun];simp,fun _=>⟨g,0,rfl,hlo,hlt,fun j hj=>?_⟩,⟨hg.os,hg.tape,hg.output,hg.size,fun k hk=>hg.block k hk (by simp)⟩⟩
   have:=hown.cells (g:=g) rfl j (.int .i64 (zs.getD j 0)) (by simp [List.getD,hj])
   rw [Addr.add_mid] at this
   exact this
theorem qeI {P:Program} {o:Oper} {a:Act} (s x:Operand) (t:TypeId) (ho:o.op=.call { callee:=.builtin .append,args:=#[s,x],argTypes:=#[t,t] }) {v1 v2:Value} (hs:a.eval s=v1) (hx:a.eval x=v2) {W w':World} {v:Value}
 (h:(Builtin.append_ #[t,t] o.type #[v1,v2]).run P W=.ok v w'):(execOp a.eval o).run P W=.ok (.value v) w':=by
 unfold execOp
 simp only [ho,resolve,invoke,builtin,Sem.run_bind,Sem.run_pure,Result.andThen_ok,List.map_toArray,List.map_cons,List.map_nil,hs,hx,h]
def B2 (w:World) (cs:List Value) (t:TypeId) (ds:List Value) (u:TypeId) (W:World):Prop :=
 W.heap[w.heap.size]?=some (.cells cs.toArray t (0,0))/\W.heap[w.heap.size+1]?=some (.cells ds.toArray u (0,0))/\Below w.heap.size w W/\w.heap.size+1<W.heap.size
section
variable {w:World} {cs ds:List Value} {t u:TypeId} {W W':World}
theorem B2.grow (h:B2 w cs t ds u W) (hb:Below W.heap.size W W'):B2 w cs t ds u W':=by
 obtain ⟨h1,h2,h3,h4⟩:=h
 exact ⟨(hb.block _ (by omega)).trans h1,(hb.block _ h4).trans h2,h3.trans (hb.mono (by omega)),Nat.lt_of_lt_of_le h4 hb.size⟩
theorem B2.below (h:B2 w cs t ds u W):Below w.heap.size w W:=h.2.2.1
theorem B2.cell (h:B2 w cs t ds u W) {k:Nat} {v:Value} (hv:cs[k]?=some v):W.cell? ⟨w.heap.size,k,none⟩=some v:=by
 rw [cell_of_row W w.heap.size k _ _ _ h.1]
 simpa using hv
theorem B2.range (h:B2 w cs t ds u W):W.rangeAt w.heap.size 0 cs:=qaC h.1
theorem B2.field {a b c:Value} {l:List Value} (h:B2 w (a :: b :: c :: l) t ds u W):W.rangeAt w.heap.size 0 [a,b,c]:=fun j v hv=>by
 match j,hv with
 | 0,hv=>exact h.range 0 v hv
 | 1,hv=>exact h.range 1 v hv
 | 2,hv=>exact h.range 2 v hv
 | j+3,hv=>simp at hv
theorem B2.set (h:B2 w cs t ds u W) (ds':List Value):B2 w cs t ds' u (W.setRow (w.heap.size+1) ds'.toArray) :=
 ⟨(setRow_other W _ _ _ (by omega)).trans h.1,qbI W _ _ _ _ h.2.1,qbD h.2.2.1 (by omega) _,by simpa using h.2.2.2⟩
end
theorem b2_new (w:World) (cs:List Value) (t:TypeId) (ds:List Value) (u:TypeId):B2 w cs t ds u ((w.alloc (.cells cs.toArray t)).alloc (.cells ds.toArray u)) :=
 ⟨(Below.heap_alloc _ _ _ (by simp)).trans (heap_alloc_new _ _),qbM (by simp) _,((Below.refl _ _).alloc (Nat.le_refl _) _).alloc (by simp) _,by simp⟩
def FieldPost (w:World) (p m:Int) (zs:List Int) (e:Ending) (w':World):Prop :=
 (∃ (A':Option Addr) (c':Nat),e=.returned (.agg #[.int .i64 p,.int .i64 m,.slice A' zs.length c'])/\IntsUp w' w.heap.size A' zs)/\Below w.heap.size w w'
set_option maxHeartbeats 1000000 in
set_option maxRecDepth 100000 in
theorem rfield_c (p m:Int) (zs:List Int) (A:Option Addr) (c:Nat) (w:World) (hA:IntsAt w w.heap.size A zs) (hl:zs.length<=1000000) :
 Calls Tryz.prog 92 #[.agg #[.int .i64 p,.int .i64 m,.slice A zs.length c]] w (FieldPost w p m zs):=by
 have HX:=Lib.hid (b2_new w [.int .i64 p,.int .i64 m,.slice A zs.length c] 29 [.int .i64 0,.int .i64 0,.slice none 0 0] 29)
 have HA:=Lib.hid hA
 clear hA
 go_enter Tryz.func92,Tryz.ntmps92
 go_upto_region 1 with fail
 generalize (w.alloc (.cells #[.int .i64 p,.int .i64 m,.slice A zs.length c] 29)).alloc (.cells #[.int .i64 0,.int .i64 0,.slice none 0 0] 29)=W0 at *
 have HS0:Hid (B2 w [.int .i64 p,.int .i64 m,.slice A zs.length c] 29 [.int .i64 0,.int .i64 0,.slice none 0 0] 29 W0.drew):=HX.out.grow (Below.refl _ _).drew
 have HCV:Hid (∀ W,B2 w [.int .i64 p,.int .i64 m,.slice A zs.length c] 29 [.int .i64 0,.int .i64 0,.slice none 0 0] 29 W->W.cell? ⟨w.heap.size,0,none⟩=some (.int .i64 p)/\W.cell? ⟨w.heap.size,1,none⟩=some (.int .i64 m)/\W.cell? ⟨w.heap.size,2,none⟩=some (.slice A zs.length c)):=fun W h=>⟨h.cell rfl,h.cell rfl,h.cell rfl⟩
 refine qaX 9 9 (B2 w [.int .i64 p,.int .i64 m,.slice A zs.length c] 29 [.int .i64 0,.int .i64 0,.slice none 0 0] 29) [(1,0),(0,1),(1,2),(0,3),(1,5),(0,6),(2,4),(2,7),(1,8)] default (by kernel_rfl) (by kernel_rfl) (fun _ _ d _ _ h=>by cases d <;> exact h) HS0.out ?_
 simp only [List.map_cons,List.map_nil,List.getD_cons_zero,List.getD_cons_succ]
 generalize W0.drew=Wd at *
 clear HX
 iterate 3
  apply qaR rfl
  . intro W
    go_simp
    rfl
  go_simp
  apply qaZ rfl
  . intro W hW
    obtain ⟨z0,z1,z2⟩:=HCV.out W hW
    go_simp
    rfl
  go_simp
 have HS1:Hid (B2 w [.int .i64 p,.int .i64 m,.slice A zs.length c] 29 [.int .i64 0,.int .i64 0,.slice none 0 0] 29 (Wd.alloc (.cells #[] 3))):=HS0.out.grow ((Below.refl _ _).alloc (Nat.le_refl _) _)
 apply qdJ rfl (v:=.slice (some ⟨Wd.heap.size,0,none⟩) 0 0) (w':=Wd.alloc (.cells #[] 3))
 . go_simp
 . exact HS1.out
 go_simp
 generalize Wd.heap.size=b0 at *
 generalize Wd.alloc (.cells #[] 3)=W1 at *
 obtain ⟨A',c',w',hrun,hup,hbl⟩:=qeD 23 b0 A c zs W1 ((HA.out.keep HS1.out.below).more HS1.out.below.size) hl
 have HS2:=Lib.hid (HS1.out.grow hbl)
 refine qdJ rfl (qeI (.tmp 7) (.tmp 9) 23 rfl rfl rfl hrun) HS2.out ?_
 go_simp
 have HUP:=Lib.hid hup
 clear hrun hup hbl
 apply qaR rfl
 . intro W
   go_simp
   rfl
 go_simp
 refine qbZ ?_
 show wpList _ _ _ _ _ _
 go_simp
 have HK:=Lib.hid HS2.out.2.1
 have HY:=Lib.hid (HS2.out.set [.int .i64 p,.int .i64 m,.slice A' zs.length c'])
 have hs1:=HS1.out.2.2.2
 go_wp2_with (refine qaE rfl 29 (.tmp 2) (.tmp 11) rfl w' (w.heap.size+1) 29 #[.int .i64 0,.int .i64 0,.slice none 0 0] #[.int .i64 p,.int .i64 m,.slice A' zs.length c'] rfl rfl HK.out fieldSize rfl (by simp [Value.oneCell']) ?_)
 refine bodyPost_ret (results_cell_row (P:=Tryz.prog) rfl _ _ (w.heap.size+1) 29 #[.int .i64 p,.int .i64 m,.slice A' zs.length c'] (0,0) _ rfl HY.out.2.1 Tryz.underlying29 rfl fieldSize) rfl ?_
 refine ⟨⟨A',c',rfl,?_⟩,HY.out.below⟩
 have hu:IntsUp (w'.setRow (w.heap.size+1) #[.int .i64 p,.int .i64 m,.slice A' zs.length c']) W1.heap.size A' zs:=HUP.out.of_blocks (by simp) fun k hk _=>setRow_other w' (w.heap.size+1) k _ (by omega)
 exact hu.lower (by omega)
def MakePost (w:World) (p m:Int) (zs:List Int) (cols:Nat) (e:Ending) (w':World):Prop :=
 (∃ (A':Option Addr) (c':Nat) (G:Option Addr) (R:List (List Nat)) (k:Nat),e=.returned (.agg #[.int .i64 p,.int .i64 m,.slice A' zs.length c',.int .i64 cols,.slice G R.length k])/\IntsUp w' w.heap.size A' zs/\RowsUp w' w.heap.size G (nzs R)/\R.length<=256)/\Below w.heap.size w w'
set_option maxHeartbeats 1000000 in
set_option maxRecDepth 100000 in
theorem rmake_c (p m:Nat) (md:List Nat) (A:Option Addr) (zs:List Int) (c:Nat) (rows:List (List Nat)) (A2:Option Addr) (c2 cols:Nat) (w:World) (hR:RFld p m md A zs.length w.heap.size w) (hf:∃ l,FT p m md l) (hz:IntsAt w w.heap.size A zs) (hzl:zs.length<=1000000) (hgr:Grid (p ^ m) rows.length cols rows) (hA:RowsAt w w.heap.size A2 (nzs rows)) (h1:1<=cols) (hc:cols<=256) (hn:rows.length<=256) :
 Calls Tryz.prog 44 #[.agg #[.int .i64 p,.int .i64 m,.slice A zs.length c],.slice A2 rows.length c2,.int .i64 cols] w (MakePost w p m zs cols):=by
 have HX:=Lib.hid (b2_new w [.int .i64 (p:Int),.int .i64 (m:Int),.slice A zs.length c] 29 [.int .i64 0,.int .i64 0,.slice none 0 0,.int .i64 0,.slice none 0 0] 32)
 have HZ:=Lib.hid hz
 have HCN:Hid (∀ W:World,Below w.heap.size w W->Calls Tryz.prog 37 #[.agg #[.int .i64 p,.int .i64 m,.slice A zs.length c],.slice A2 rows.length c2,.int .i64 cols] W fun e w'=>(∃ (A':Option Addr) (ck:Nat) (VA:Option Addr) (c3:Nat),e=.returned (.tuple #[.slice A' (canonM (refOps p m md) rows cols).length ck,.slice VA (elGo (refOps p m md) rows cols).piv.length c3])/\RowsUp w' W.heap.size A' (nzs (canonM (refOps p m md) rows cols))/\IntsAt w' w'.heap.size VA (nz (elGo (refOps p m md) rows cols).piv))/\Below W.heap.size W w'):=fun W hW =>
  rcanon_c p m md A zs.length c rows A2 c2 cols W ((hR.keep hW).more hW.size) hf hgr ((hA.keep hW).more hW.size) h1 hc hn
 have hcl:(canonM (refOps p m md) rows cols).length<=256:=by
  rw [qbH]
  exact Nat.le_trans (qbW (O:=refOps p m md) rows cols).2 hn
 clear hR hf hgr hA hz
 generalize (elGo (refOps p m md) rows cols).piv=piv at *
 generalize canonM (refOps p m md) rows cols=cr at *
 go_enter Tryz.func44,Tryz.ntmps44
 go_upto_region 1 with fail
 generalize (w.alloc (.cells #[.int .i64 (p:Int),.int .i64 (m:Int),.slice A zs.length c] 29)).alloc (.cells #[.int .i64 0,.int .i64 0,.slice none 0 0,.int .i64 0,.slice none 0 0] 32)=W0 at *
 have HRG:=Lib.hid HX.out.range
 have HC1:=Lib.hid (HCN.out W0 HX.out.below)
 go_wp2_with (refine wpList_load_mid rfl 29 (.tmp 3) rfl w.heap.size 0 rfl [.int .i64 (p:Int),.int .i64 (m:Int),.slice A zs.length c] _ HRG.out Tryz.underlying29 rfl fieldSize ?_)
 (with_reducible refine HC1.out.mono ?_)
 rintro e w1 ⟨⟨A',ck,VA,c3,rfl,hra,_⟩,hb1⟩
 have HX1:=Lib.hid (HX.out.grow hb1)
 have HRA:=Lib.hid hra
 have HS0:=Lib.hid HX.out.2.2.2
 clear hb1 hra HC1 HX HRG HCN
 have HRG:=Lib.hid HX1.out.range
 have HF1:=Lib.hid (rfield_c p m zs A c w1 ((HZ.out.keep HX1.out.below).more HX1.out.below.size) hzl)
 go_upto_region 2 with fail
 go_wp2_with (refine wpList_load_mid rfl 29 (.tmp 3) rfl w.heap.size 0 rfl [.int .i64 (p:Int),.int .i64 (m:Int),.slice A zs.length c] _ HRG.out Tryz.underlying29 rfl fieldSize ?_)
 (with_reducible refine HF1.out.mono ?_)
 rintro e w2 ⟨⟨B',c',rfl,hia⟩,hb2⟩
 have HX2:=Lib.hid (HX1.out.grow hb2)
 have HRA2:=Lib.hid (HRA.out.grow hb2)
 have HIA:=Lib.hid hia
 have HK:=Lib.hid HX2.out.2.1
 have HY:=Lib.hid (HX2.out.set [.int .i64 (p:Int),.int .i64 (m:Int),.slice B' zs.length c',.int .i64 (cols:Int),.slice A' cr.length ck])
 clear hb2 hia HF1
 go_wp2_with (refine qaE rfl 32 (.tmp 6) (.tmp 20) rfl w2 (w.heap.size+1) 32 #[.int .i64 0,.int .i64 0,.slice none 0 0,.int .i64 0,.slice none 0 0] #[.int .i64 (p:Int),.int .i64 (m:Int),.slice B' zs.length c',.int .i64 (cols:Int),.slice A' cr.length ck] rfl rfl HK.out codeSize rfl (by simp [Value.oneCell']) ?_)
 refine bodyPost_ret (results_cell_row (P:=Tryz.prog) rfl _ _ (w.heap.size+1) 32 #[.int .i64 (p:Int),.int .i64 (m:Int),.slice B' zs.length c',.int .i64 (cols:Int),.slice A' cr.length ck] (0,0) _ rfl HY.out.2.1 Tryz.underlying32 rfl codeSize) rfl ?_
 have hs0:=HS0.out
 have hs1:=HX1.out.2.2.2
 have hu:IntsUp (w2.setRow (w.heap.size+1) #[.int .i64 (p:Int),.int .i64 (m:Int),.slice B' zs.length c',.int .i64 (cols:Int),.slice A' cr.length ck]) w1.heap.size B' zs:=HIA.out.of_blocks (by simp) fun k hk _=>setRow_other w2 (w.heap.size+1) k _ (by omega)
 have hv:RowsUp (w2.setRow (w.heap.size+1) #[.int .i64 (p:Int),.int .i64 (m:Int),.slice B' zs.length c',.int .i64 (cols:Int),.slice A' cr.length ck]) W0.heap.size A' (nzs cr):=HRA2.out.of_blocks (by simp) fun k hk _=>setRow_other w2 (w.heap.size+1) k _ (by omega)
 exact ⟨⟨B',c',A',cr,ck,rfl,hu.lower (by omega),hv.lower (by omega),hcl⟩,HY.out.below⟩
end Go.Proofs.YtlmglaonldlanaaGreat
namespace Go.Proofs.YtlmglaonldlanaaGreat
open Go.RowKit
section
variable {P:Program} {ops:Array Oper} {md:Region.Mode} {S:World->Prop} {Q:Exit->Act->World->Prop} {n g s x lo:Nat} {ox:Oper} {ob:Obj}
def ptrTo (b:Nat):Value:=.pointer (some ⟨b,0,none⟩)
def StepTo (P:Program) (o:Oper) (a:Act) (W:World) (Φ:Value->World->Prop):Prop :=
 (∃ f args,(execOp a.eval o).run P W=.ok (.enter f args) W/\Calls P f args W fun e w'=>∃ u,e=.returned u/\Φ u w')\/(∃ v w',(execOp a.eval o).run P W=.ok (.value v) w'/\Φ v w')
def wpX (P:Program) (S:World->Prop) (ob:Obj) (dx:Option Tmp) (lo:Nat) (K:Act->World->Prop) (r2:List (Nat × Oper)):List (Nat × Oper)->(Nat->Prop)->Act->World->Prop
 | [],F,a,w=>∀ W b,Below w.heap.size w W->S W->lo<=b->¬ F b->W.heap[b]?=some ob->wpMixF P S K r2 (a.put dx (ptrTo b)) W
 | (0,o) :: r,F,a,w=>∃ v,(o.guard=none/\∀ w,S w->(execOp a.eval o).run P w=.ok (.value v) w)/\wpX P S ob dx lo K r2 r F (a.put o.dst v) w
 | (1,o) :: r,F,a,w=>∃ v,(o.guard=none/\∀ w,(execOp a.eval o).run P w=.ok (.value v) w)/\wpX P S ob dx lo K r2 r F (a.put o.dst v) w
 | (_,o) :: r,F,a,w=>o.guard=none/\∀ W,Below w.heap.size w W->S W->StepTo P o a W fun u w'=>S w'/\Below W.heap.size W w'/\wpX P S ob dx lo K r2 r (fun b=>F b\/(W.heap.size<=b/\b<w'.heap.size)) (a.put o.dst u) w'
section
variable {dx:Option Tmp} {K:Act->World->Prop} {o:Oper} {r r2:List (Nat × Oper)} {F:Nat->Prop} {a:Act} {w:World}
theorem x_nil (h:∀ W b,Below w.heap.size w W->S W->lo<=b->¬ F b->W.heap[b]?=some ob->wpMixF P S K r2 (a.put dx (ptrTo b)) W):wpX P S ob dx lo K r2 [] F a w:=h
theorem x_val {v:Value} (hg:o.guard=none) (hr:∀ w,S w->(execOp a.eval o).run P w=.ok (.value v) w) (h:wpX P S ob dx lo K r2 r F (a.put o.dst v) w):wpX P S ob dx lo K r2 ((0,o) :: r) F a w:=⟨v,⟨hg,hr⟩,h⟩
theorem x_free {v:Value} (hg:o.guard=none) (hr:∀ w,(execOp a.eval o).run P w=.ok (.value v) w) (h:wpX P S ob dx lo K r2 r F (a.put o.dst v) w):wpX P S ob dx lo K r2 ((1,o) :: r) F a w:=⟨v,⟨hg,hr⟩,h⟩
theorem qeX (hg:o.guard=none) (ty:TypeId) (y:Operand) (ho:o.op=.load ty y)
 (b off:Nat) (hx:a.eval y=.pointer (some ⟨b,off,none⟩)) (cs:List Value) (d:TypeDesc) (hc:∀ w,S w->w.rangeAt b off cs)
 (hu:P.underlying ty=some d) (hd:d.isRow=true) (hi:(P.info? ty).map (·.size)=some cs.length)
 (h:wpX P S ob dx lo K r2 r F (a.put o.dst (.agg cs.toArray)) w):wpX P S ob dx lo K r2 ((0,o) :: r) F a w:=by
 refine x_val hg (fun W hW=>?_) h
 unfold execOp
 simp only [ho,hx,Instr.loadAt,Instr.sureAddr,Sem.run_bind,Sem.run_pure,Result.andThen_ok,run_loadVar_mid W b off ty cs d (hc W hW) hu hd hi]
theorem x_call {f:FuncId} {args:Array Value} (hg:o.guard=none) (hr:∀ W,(execOp a.eval o).run P W=.ok (.enter f args) W)
 (h:∀ W,Below w.heap.size w W->S W->Calls P f args W fun e w'=>∃ u,e=.returned u/\S w'/\Below W.heap.size W w'/\wpX P S ob dx lo K r2 r (fun b=>F b\/(W.heap.size<=b/\b<w'.heap.size)) (a.put o.dst u) w'):wpX P S ob dx lo K r2 ((2,o) :: r) F a w :=
 ⟨hg,fun W hb hS=>.inl ⟨f,args,hr W,h W hb hS⟩⟩
end
def Region.apartB (ops:Array Oper) (x k:Nat):Bool:=match ops[x]?,ops[k]? with | some ox,some ok=>ox.apart ops ok | _,_=>false
def Region.mixXt (md:Region.Mode) (ops:Array Oper) (n g s x:Nat) (ord2:List (Nat × Nat)):List (Nat × Nat)->Array Bool->Bool
 | [],listed=>Region.mixFB md ops n g s ord2 listed
 | (0,k) :: r,listed=>(Region.ready md ops listed).contains k && Region.free md ops listed k && decide (k<n) && decide (k≠s) && Region.waitsFor md ops s k && Region.apartB ops x k && Region.mixXt md ops n g s x ord2 r (listed.setIfInBounds k true)
 | (1,k) :: r,listed=>(Region.ready md ops listed).contains k && Region.free md ops listed k && decide (k<n) && decide (k≠s) && Region.apartB ops x k && Region.mixXt md ops n g s x ord2 r (listed.setIfInBounds k true)
 | (_,k) :: r,listed=>decide (Region.ready md ops listed=[k]) && decide (k<n) && decide (k≠s) && Region.apartB ops x k && Region.mixXt md ops n g s x ord2 r (listed.setIfInBounds k true)
def Region.mixXf (md:Region.Mode) (ops:Array Oper) (n g s x:Nat) (ord2:List (Nat × Nat)):List (Nat × Nat)->Array Bool->Bool
 | [],listed=>decide (Region.ready md ops listed=[x]) && Region.mixXt md ops n g s x ord2 [] (listed.setIfInBounds x true)
 | (0,k) :: r,listed=>(Region.ready md ops listed).contains k && Region.free md ops listed k && decide (k<n) && decide (k≠s) && Region.waitsFor md ops s k && Region.mixXf md ops n g s x ord2 r (listed.setIfInBounds k true)
 | (1,k) :: r,listed=>(Region.ready md ops listed).contains k && Region.free md ops listed k && decide (k<n) && decide (k≠s) && Region.mixXf md ops n g s x ord2 r (listed.setIfInBounds k true)
 | (t,k) :: r,listed=>decide (Region.ready md ops listed=[k,x]) && decide (k<n) && decide (k≠s) && Region.mixXf md ops n g s x ord2 r (listed.setIfInBounds k true) && Region.mixXt md ops n g s x ord2 ((t,k) :: r) (listed.setIfInBounds x true)
theorem qfL {k:Nat} {ok:Oper} (hx:ops[x]?=some ox) (hk:ops[k]?=some ok) (h:Region.apartB ops x k=true):ox.apart ops ok=true:=by
 unfold Region.apartB at h
 simp only [hx,hk] at h
 exact h
theorem qeV {l:List Oper} {d:Oper} {Lq:Act->World->Prop} (hl:ops=l.toArray) (hsel:Region.noSelect ops=true) (hs:Region.sinkB md ops n=true) (hc:Region.chainB md ops n=true) (hn:n<ops.size) (hQ:∀ c (a:Act) (dst:Option Tmp) v w,Q (.panic c) (a.put dst v) w->Q (.panic c) a w)
 (hx:ops[x]?=some ox) (ord2:List (Nat × Nat)) :
 ∀ (ord:List (Nat × Nat)) (listed:Array Bool) (F:Nat->Prop) (a:Act) (w W:World) (b:Nat),HeadInv md ops n listed->Region.mixXt md ops n g s x ord2 ord listed=true->listed.getD s false=false->wpX P S ob ox.dst lo Lq (ord2.map fun y=>(y.1,l.getD y.2 d)) (ord.map fun y=>(y.1,l.getD y.2 d)) F a w ->
  Below w.heap.size w W->S W->lo<=b->¬ F b->W.heap[b]?=some ob ->
  wpAnyHF P md ops Q S n s (fun listed' a' w'=>Region.seqB md ops g n listed'=true/\Lq a' w') (ord.length+ord2.length) listed (a.put ox.dst (ptrTo b)) W
 | [],listed,F,a,w,W,b,inv,hB,hls,h,hW,hS,hlo,hF,hb => by
   rw [List.length_nil,Nat.zero_add]
   exact qcA hl hsel hs hc hn hQ ord2 listed _ W inv hB (fun _=>hS) (h W b hW hS hlo hF hb)
 | (0,k) :: r,listed,F,a,w,W,b,inv,hB,hls,h,hW,hS,hlo,hF,hb => by
   simp only [Region.mixXt,Bool.and_eq_true,decide_eq_true_eq] at hB
   obtain ⟨⟨⟨⟨⟨⟨hr,hf⟩,hkn⟩,hks⟩,hw⟩,hap⟩,hB'⟩:=hB
   have hr':k∈Region.ready md ops listed:=by simpa using hr
   obtain ⟨v,⟨hg,hy⟩,hK⟩:=h
   have hk:=qdV (d:=d) hl hkn hn
   obtain ⟨h1,h2,h3⟩:=Oper.apart_spec (qfL hx hk hap)
   have hy':∀ w,S w->(execOp (a.put ox.dst (ptrTo b)).eval (l.getD k d)).run P w=.ok (.value v) w:=fun w hw=>by
    rw [execOp_put (l.getD k d) (fun cs b=>Region.noSelect_spec hsel k _ cs b hk) a ox.dst (ptrTo b) h1]
    exact hy w hw
   rw [List.length_cons,show r.length+1+ord2.length=(r.length+ord2.length)+1 by omega]
   refine qcG hk (Region.noSelect_spec hsel) hs hc hn hkn hks (fun listed' a' w' hL=>seqB_ready hL.1) (fun c a w=>hQ c a _ v w) S (.inr ⟨fun _ h=>h,.inl hw⟩) _ listed _ W inv (Region.free_spec hk hf) hr' (.inl ⟨qbA hg _,hy'⟩) hS (fun _=>hS) ?_
   rw [Act.put_comm a (ptrTo b) v h2]
   exact qeV hl hsel hs hc hn hQ hx ord2 r _ F _ w W b (inv.set hr' hkn) hB' (by rwa [qaQ hks]) hK hW hS hlo hF hb
 | (1,k) :: r,listed,F,a,w,W,b,inv,hB,hls,h,hW,hS,hlo,hF,hb => by
   simp only [Region.mixXt,Bool.and_eq_true,decide_eq_true_eq] at hB
   obtain ⟨⟨⟨⟨⟨hr,hf⟩,hkn⟩,hks⟩,hap⟩,hB'⟩:=hB
   have hr':k∈Region.ready md ops listed:=by simpa using hr
   obtain ⟨v,⟨hg,hy⟩,hK⟩:=h
   have hk:=qdV (d:=d) hl hkn hn
   obtain ⟨h1,h2,h3⟩:=Oper.apart_spec (qfL hx hk hap)
   have hy':∀ w,True->(execOp (a.put ox.dst (ptrTo b)).eval (l.getD k d)).run P w=.ok (.value v) w:=fun w _=>by
    rw [execOp_put (l.getD k d) (fun cs b=>Region.noSelect_spec hsel k _ cs b hk) a ox.dst (ptrTo b) h1]
    exact hy w
   rw [List.length_cons,show r.length+1+ord2.length=(r.length+ord2.length)+1 by omega]
   refine qcG hk (Region.noSelect_spec hsel) hs hc hn hkn hks (fun listed' a' w' hL=>seqB_ready hL.1) (fun c a w=>hQ c a _ v w) (fun _=>True) (.inl fun _=>trivial) _ listed _ W inv (Region.free_spec hk hf) hr' (.inl ⟨qbA hg _,hy'⟩) trivial (fun _=>hS) ?_
   rw [Act.put_comm a (ptrTo b) v h2]
   exact qeV hl hsel hs hc hn hQ hx ord2 r _ F _ w W b (inv.set hr' hkn) hB' (by rwa [qaQ hks]) hK hW hS hlo hF hb
 | (t + 2,k) :: r,listed,F,a,w,W,b,inv,hB,hls,h,hW,hS,hlo,hF,hb => by
   simp only [Region.mixXt,Bool.and_eq_true,decide_eq_true_eq] at hB
   obtain ⟨⟨⟨⟨hr,hkn⟩,hks⟩,hap⟩,hB'⟩:=hB
   obtain ⟨hg,hstep⟩:=h
   have hk:=qdV (d:=d) hl hkn hn
   obtain ⟨h1,h2,h3⟩:=Oper.apart_spec (qfL hx hk hap)
   rw [List.length_cons,show r.length+1+ord2.length=(r.length+ord2.length)+1 by omega]
   refine ⟨fun h0=>(by rw [hr] at h0;cases h0),fun j hj=>?_⟩
   have hj':=hj
   rw [hr] at hj
   have hji:j=k:=by simpa using hj
   subst hji
   refine ⟨hkn,?_⟩
   unfold wpOp
   simp only [hk]
   rw [if_pos (qbA hg _)]
   refine .inl ?_
   unfold Oper.wp
   rw [execOp_put (l.getD j d) (fun cs b=>Region.noSelect_spec hsel j _ cs b hk) a ox.dst (ptrTo b) h1]
   rcases hstep W hW hS with ⟨f,args,hrun,hcall⟩ | ⟨u,w',hrun,hS',hbW,hr⟩
   . rw [hrun]
     exact hcall.mono fun e w' ⟨u,he,hS',hbW,hr⟩=>by
      subst he
      have hbl:b<W.heap.size:=(Array.getElem?_eq_some_iff.1 hb).1
      refine ⟨fun _=>hS',?_⟩
      show wpAnyHF P md ops Q S n s _ _ _ ((a.put ox.dst (ptrTo b)).put (l.getD j d).dst u) w'
      rw [Act.put_comm a (ptrTo b) u h2]
      exact qeV hl hsel hs hc hn hQ hx ord2 r _ _ _ w' w' b (inv.set hj' hkn) hB' (by rwa [qaQ hks]) hr (Below.refl _ _) hS' hlo (fun h=>h.elim hF (fun h=>by omega)) ((hbW.block b hbl).trans hb)
   . rw [hrun]
     have hbl:b<W.heap.size:=(Array.getElem?_eq_some_iff.1 hb).1
     refine ⟨fun _=>hS',?_⟩
     show wpAnyHF P md ops Q S n s _ _ _ ((a.put ox.dst (ptrTo b)).put (l.getD j d).dst u) w'
     rw [Act.put_comm a (ptrTo b) u h2]
     exact qeV hl hsel hs hc hn hQ hx ord2 r _ _ _ w' w' b (inv.set hj' hkn) hB' (by rwa [qaQ hks]) hr (Below.refl _ _) hS' hlo (fun h=>h.elim hF (fun h=>by omega)) ((hbW.block b hbl).trans hb)
theorem qeR {l:List Oper} {d:Oper} {Lq:Act->World->Prop} (hl:ops=l.toArray) (hsel:Region.noSelect ops=true) (hs:Region.sinkB md ops n=true) (hc:Region.chainB md ops n=true) (hn:n<ops.size) (hQ:∀ c (a:Act) (dst:Option Tmp) v w,Q (.panic c) (a.put dst v) w->Q (.panic c) a w)
 (hx:ops[x]?=some ox) (hxn:x<n) (hxs:x≠s) (hxg:ox.guard=none) (hxr:∀ (a:Act) (w:World),(execOp a.eval ox).run P w=.ok (.value (ptrTo w.heap.size)) (w.alloc ob)) (hSx:∀ w,S w->S (w.alloc ob)) (ord2:List (Nat × Nat)) :
 ∀ (ord:List (Nat × Nat)) (listed:Array Bool) (F:Nat->Prop) (a:Act) (w:World),HeadInv md ops n listed->Region.mixXf md ops n g s x ord2 ord listed=true->listed.getD s false=false->wpX P S ob ox.dst lo Lq (ord2.map fun y=>(y.1,l.getD y.2 d)) (ord.map fun y=>(y.1,l.getD y.2 d)) F a w->S w->lo<=w.heap.size->(∀ b,F b->b<w.heap.size) ->
  wpAnyHF P md ops Q S n s (fun listed' a' w'=>Region.seqB md ops g n listed'=true/\Lq a' w') (ord.length+ord2.length+1) listed a w
 | [],listed,F,a,w,inv,hB,hls,h,hS,hlo,hF => by
   simp only [Region.mixXf,Bool.and_eq_true,decide_eq_true_eq] at hB
   obtain ⟨hr,hB'⟩:=hB
   refine ⟨fun h0=>(by rw [hr] at h0;cases h0),fun j hj=>?_⟩
   have hj':=hj
   rw [hr] at hj
   have hji:j=x:=by simpa using hj
   subst hji
   refine ⟨hxn,?_⟩
   unfold wpOp
   simp only [hx]
   rw [if_pos (qbA hxg _)]
   refine .inl ?_
   unfold Oper.wp
   rw [hxr]
   exact ⟨fun _=>hSx w hS,qeV (ob:=ob) hl hsel hs hc hn hQ hx ord2 [] _ F a w (w.alloc ob) w.heap.size (inv.set hj' hxn) hB' (by rwa [qaQ hxs]) h ((Below.refl _ _).alloc (Nat.le_refl _) _) (hSx w hS) hlo (fun h=>by have:=hF _ h;omega) (heap_alloc_new _ _)⟩
 | (0,k) :: r,listed,F,a,w,inv,hB,hls,h,hS,hlo,hF => by
   simp only [Region.mixXf,Bool.and_eq_true,decide_eq_true_eq] at hB
   obtain ⟨⟨⟨⟨⟨hr,hf⟩,hkn⟩,hks⟩,hw⟩,hB'⟩:=hB
   have hr':k∈Region.ready md ops listed:=by simpa using hr
   obtain ⟨v,⟨hg,hy⟩,hK⟩:=h
   have hk:=qdV (d:=d) hl hkn hn
   rw [List.length_cons,show r.length+1+ord2.length+1=(r.length+ord2.length+1)+1 by omega]
   refine qcG hk (Region.noSelect_spec hsel) hs hc hn hkn hks (fun listed' a' w' hL=>seqB_ready hL.1) (fun c a w=>hQ c a _ v w) S (.inr ⟨fun _ h=>h,.inl hw⟩) _ listed _ w inv (Region.free_spec hk hf) hr' (.inl ⟨qbA hg _,hy⟩) hS (fun _=>hS) ?_
   exact qeR hl hsel hs hc hn hQ hx hxn hxs hxg hxr hSx ord2 r _ F _ w (inv.set hr' hkn) hB' (by rwa [qaQ hks]) hK hS hlo hF
 | (1,k) :: r,listed,F,a,w,inv,hB,hls,h,hS,hlo,hF => by
   simp only [Region.mixXf,Bool.and_eq_true,decide_eq_true_eq] at hB
   obtain ⟨⟨⟨⟨hr,hf⟩,hkn⟩,hks⟩,hB'⟩:=hB
   have hr':k∈Region.ready md ops listed:=by simpa using hr
   obtain ⟨v,⟨hg,hy⟩,hK⟩:=h
   have hk:=qdV (d:=d) hl hkn hn
   rw [List.length_cons,show r.length+1+ord2.length+1=(r.length+ord2.length+1)+1 by omega]
   refine qcG hk (Region.noSelect_spec hsel) hs hc hn hkn hks (fun listed' a' w' hL=>seqB_ready hL.1) (fun c a w=>hQ c a _ v w) (fun _=>True) (.inl fun _=>trivial) _ listed _ w inv (Region.free_spec hk hf) hr' (.inl ⟨qbA hg _,fun w _=>hy w⟩) trivial (fun _=>hS) ?_
   exact qeR hl hsel hs hc hn hQ hx hxn hxs hxg hxr hSx ord2 r _ F _ w (inv.set hr' hkn) hB' (by rwa [qaQ hks]) hK hS hlo hF
 | (t + 2,k) :: r,listed,F,a,w,inv,hB,hls,h,hS,hlo,hF => by
   simp only [Region.mixXf,Bool.and_eq_true,decide_eq_true_eq] at hB
   obtain ⟨⟨⟨⟨hr,hkn⟩,hks⟩,hB'⟩,hBx⟩:=hB
   have hk:=qdV (d:=d) hl hkn hn
   rw [List.length_cons,show r.length+1+ord2.length+1=(r.length+ord2.length+1)+1 by omega]
   refine ⟨fun h0=>(by rw [hr] at h0;cases h0),fun j hj=>?_⟩
   have hj':=hj
   rw [hr] at hj
   rcases List.mem_cons.1 hj with hji | hji
   . subst hji
     refine ⟨hkn,?_⟩
     obtain ⟨hg,hstep⟩:=h
     unfold wpOp
     simp only [hk]
     rw [if_pos (qbA hg _)]
     refine .inl ?_
     unfold Oper.wp
     rcases hstep w (Below.refl _ _) hS with ⟨f,args,hrun,hcall⟩ | ⟨u,w',hrun,hS',hbW,hr⟩
     . rw [hrun]
       exact hcall.mono fun e w' ⟨u,he,hS',hbW,hr⟩=>by
        subst he
        exact ⟨fun _=>hS',qeR hl hsel hs hc hn hQ hx hxn hxs hxg hxr hSx ord2 r _ _ _ w' (inv.set hj' hkn) hB' (by rwa [qaQ hks]) hr hS' (Nat.le_trans hlo hbW.size) (fun b hb=>hb.elim (fun h=>Nat.lt_of_lt_of_le (hF b h) hbW.size) (fun h=>h.2))⟩
     . rw [hrun]
       exact ⟨fun _=>hS',qeR hl hsel hs hc hn hQ hx hxn hxs hxg hxr hSx ord2 r _ _ _ w' (inv.set hj' hkn) hB' (by rwa [qaQ hks]) hr hS' (Nat.le_trans hlo hbW.size) (fun b hb=>hb.elim (fun h=>Nat.lt_of_lt_of_le (hF b h) hbW.size) (fun h=>h.2))⟩
   . have hjx : j = x := by simpa using hji
     subst hjx
     refine ⟨hxn,?_⟩
     unfold wpOp
     simp only [hx]
     rw [if_pos (qbA hxg _)]
     refine .inl ?_
     unfold Oper.wp
     rw [hxr]
     refine ⟨fun _=>hSx w hS,?_⟩
     have:=qeV (ob:=ob) (Q:=Q) (g:=g) hl hsel hs hc hn hQ hx ord2 ((t+2,k) :: r) _ F a w (w.alloc ob) w.heap.size (inv.set hj' hxn) hBx (by rwa [qaQ hxs]) h ((Below.refl _ _).alloc (Nat.le_refl _) _) (hSx w hS) hlo (fun h=>by have:=hF _ h;omega) (heap_alloc_new _ _)
     rw [List.length_cons,show r.length+1+ord2.length=r.length+ord2.length+1 by omega] at this
     exact this
def Region.mixXTailB (md:Region.Mode) (ops:Array Oper) (n s x:Nat) (ord ord2:List (Nat × Nat)):Bool :=
 Region.noSelect ops && decide (n<ops.size) && Region.sinkB md ops n && Region.chainB md ops n && decide (ord.length+ord2.length+1=n) && decide (x<n) && decide (x≠s) && Region.mixXf md ops n (ops.size-n) s x ord2 ord (Array.replicate ops.size false)
theorem qfH {id:Nat} {a:Act} {w:World} {l:List Oper} (n s x:Nat) (S:World->Prop) (ord ord2:List (Nat × Nat)) (d:Oper) (ox:Oper) (ob:Obj) (hm:P.follows .mixedOrders=true) (hB:Region.mixXTailB .any l.toArray n s x ord ord2=true) (hQ:∀ c (a:Act) (dst:Option Tmp) v w,Q (.panic c) (a.put dst v) w->Q (.panic c) a w)
 (hx:l.toArray[x]?=some ox) (hxg:ox.guard=none) (hxr:∀ (a:Act) (w:World),(execOp a.eval ox).run P w=.ok (.value (ptrTo w.heap.size)) (w.alloc ob)) (hSx:∀ w,S w->S (w.alloc ob))
 (hS:S w.drew) (h:wpX P S ob ox.dst w.heap.size (wpList P l.toArray Q (l.drop n)) (ord2.map fun y=>(y.1,l.getD y.2 d)) (ord.map fun y=>(y.1,l.getD y.2 d)) (fun _=>False) a w.drew):(Code.region id l.toArray true).wp P Q a w:=by
 simp only [Region.mixXTailB,Bool.and_eq_true,decide_eq_true_eq] at hB
 obtain ⟨⟨⟨⟨⟨⟨⟨hsel,hn⟩,hs⟩,hc⟩,hol⟩,hxn⟩,hxs⟩,hmix⟩:=hB
 have inv0:HeadInv .any l.toArray n (Array.replicate l.toArray.size false) :=
  ⟨by simp,fun j oj _ hl=>(by rw [getD_replicate_false] at hl;cases hl),fun t _ ht=>getD_in (by simpa using ht) (getD_replicate_false _ _)⟩
 have H:=qeR (P:=P) (Q:=Q) (md:=.any) (g:=l.toArray.size-n) rfl hsel hs hc hn hQ hx hxn hxs hxg hxr hSx ord2 ord _ (fun _=>False) a w.drew inv0 hmix (getD_replicate_false _ _) h hS (Nat.le_refl _) (fun _ h=>h.elim)
 refine wp_region_any hm ?_
 have:=qfM (g:=l.toArray.size-n) (fun listed' a' w' hL=>by
  have:=wpAny_of_seq (P:=P) (md:=.any) (Q':=Q) (l.drop n) n listed' a' w' (fun j=>by simp [List.getElem?_drop]) (by simpa using hL.1) hL.2
  simpa using this) _ _ a w.drew H
 rw [hol,show n+(l.toArray.size-n)=l.toArray.size by omega] at this
 exact this
end
end Go.Proofs.YtlmglaonldlanaaGreat
