/- Parts of the proof. -/
import Derived.Test.YtflejelbdlelpaaGreatR20
import Derived.Test.YtflejelbdlelpaaGreatR22
set_option maxRecDepth 100000
set_option maxHeartbeats 8000000
namespace Go.Proofs.YtflejelbdlelpaaGreat
open Go.RowKit Pln Go.Proofs.Tryz
def wtAt(p m:Nat)(md:LN)(cols:Nat)(rows:LL)(i:Nat):Nat:=Dv.wt (cwO p m md cols rows (Dv.digsBE (p^m) rows.length i))
def RelLe(w:Wo)(cs:List Value)(f:Nat->Nat)(nn N:Nat)(v5 v6:Value)(wr:Wo):Prop:=
 ∃(i out:Nat),1<=i/\(i<=nn\/i=1)/\v6=Y i/\v5=Y out/\out<=N/\Dv.leastGo f (nn-i) i out=Dv.leastGo f (nn-1) 1 N/\BX w cs 27 wr
theorem least_step{f:Nat->Nat}{b i c r:Nat}(d:i<b)(h:Dv.leastGo f (b-i) i c=r):Dv.leastGo f (b-(i+1)) (i+1) (min c (f i))=r:=by have e:b-i=(b-(i+1))+1:=U0;rw[e] at h;exact h
theorem least_c{p m:Nat}{md:LN}{A:OA}{n cols:Nat}{rows:LL}{Ah:OA}{w:Wo}(h:RCode p m md A n cols rows Ah w)(c ch nn:Nat)(aa:nn<=65536):
 zC 9 #[C7 p m A n c cols Ah rows.length ch,Y nn] w fun e w'=>e=.returned (Y ((Dv.leastGo (wtAt p m md cols rows) (nn-1) 1 (cols+1):Nat):Int))/\zB w w':=by
 have H:=zH (bx_new w (C3 p m A n c cols Ah rows.length ch) 27);have Q:=h.n2;have C:zK (∀(i:Nat)(W:Wo),i<nn->zB w W->zC 17 #[C7 p m A n c cols Ah rows.length ch,Y i] W fun e w'=>(∃g,e=.returned (zS g cols cols)/\Row w' W.heap.size g cols (nz (cwO p m md cols rows (Dv.digsBE (p^m) rows.length i)))/\(cwO p m md cols rows (Dv.digsBE (p^m) rows.length i)).length=cols)/\zB W w'):=fun i W hi hW=>at_c (h.lift hW) c ch i U0;have E:zK (∀(i g:Nat)(W:Wo),(cwO p m md cols rows (Dv.digsBE (p^m) rows.length i)).length=cols->zI W (zO g) (nz (cwO p m md cols rows (Dv.digsBE (p^m) rows.length i)))->zC 16 #[zS g cols cols] W fun e w'=>e=.returned (Y ((wtAt p m md cols rows i:Nat):Int))/\W=w'):=fun i g W hl hi=>by have:=weight_c (cwO p m md cols rows (Dv.digsBE (p^m) rows.length i)) (zO g) cols W hi U0;rw[hl] at this;exact this
 have D:zK (∀i,(cwO p m md cols rows (Dv.digsBE (p^m) rows.length i)).length=cols->wtAt p m md cols rows i<=cols):=fun i hl=>by have:=rwt_le (cwO p m md cols rows (Dv.digsBE (p^m) rows.length i));rw[hl] at this;exact this
 clear h;generalize wtAt p m md cols rows=f at *;generalize (fun i=>cwO p m md cols rows (Dv.digsBE (p^m) rows.length i))=cw at *;generalize rows.length=k at *;go_enter func9,ntmps9;go_upto_region 1 with fail;generalize w.alloc (C8 p m A n c cols Ah k ch)=K at *;have P:K.cell? (zA w.heap.size 3)=some (Y (cols:Int)):=H.o.cell rfl;have J:IntKind.i64.wrap ((cols:Int)+1)=((cols+1:Nat):Int):=by rw[IntWalk.i64_in _ U0];rfl
 have u:zK (RelLe w (C3 p m A n c cols Ah k ch) f nn (cols+1) (Y ((cols+1:Nat):Int)) (Y 1) K):=⟨1,cols+1,Nat.le_refl _,.inr rfl,rfl,rfl,Nat.le_refl _,rfl,H.o⟩;go_wp2;go_loopw [5,6] (fun v5 v6 wr=>RelLe w (C3 p m A n c cols Ah k ch) f nn (cols+1) v5 v6 wr) (fun _ v6 _=>nn-(intOf v6).toNat);case atStart=>exact u.o
 case round =>
  obtain⟨i,b,T,U,rfl,rfl,B,y,N⟩:=hrel;have d:=zH N;have q:=zH y;clear N y u H J P;by_cases l:i<nn
  . (have Z : (i : Int) < (nn : Int) := by omega);have V:IntKind.i64.wrap ((i:Int)+1)=(i:Int)+1:=IntWalk.i64_in _ U0;have t:=zH d.o.range;have s:=zH (C.o i wr l d.o.below);have j:=zH (least_step l q.o);go_wp2_with (refine wpList_load_mid rfl 27 (.tmp 2) rfl w.heap.size 0 rfl (C3 p m A n c cols Ah k ch) _ t.o underlying27 rfl codeSize ?_);refine s.o.mono ?_;rintro e w3 ⟨⟨g3,rfl,hr3,hl3⟩,hb3⟩;have x:=zH (d.o.grow hb3);have v:=zH (E.o i g3 w3 hl3 (row_ints hr3));have S:=D.o i hl3;clear hb3 hr3 hl3 s t d;generalize R:f i=r at *;go_wp2_with fail;refine v.o.mono ?_;rintro e w4 ⟨rfl,rfl⟩;clear v;by_cases z:b<=r
    . rw[Nat.min_eq_left z] at j;have I:(b:Int)<=(r:Int):=U0;go_wp2;go_roundw;case rel=>exact⟨i+1,b,U0,.inl l,U3,rfl,B,j.o,x.o⟩
      case measure=>simp[intOf];omega
    . rw[Nat.min_eq_right U0] at j;have I:¬(b:Int)<=(r:Int):=U0;have L:(r:Int)<=(b:Int):=U0;have M:(r:Int)<(b:Int):=U0;go_wp2;go_roundw;case rel=>exact⟨i+1,r,U0,.inl l,U3,rfl,U0,j.o,x.o⟩
      case measure=>simp[intOf];omega
  . (have X:nn-i=0:=by omega);(have O:zK (b=Dv.leastGo f (nn-1) 1 (cols+1)):=by have:=q.o;rw[X] at this;exact this);have Z:¬(i:Int)<(nn:Int):=U0;clear q;go_wp2;go_ret;exact⟨qaG (by rw[O.o]),d.o.below⟩
end Go.Proofs.YtflejelbdlelpaaGreat
namespace Go.Proofs.YtflejelbdlelpaaGreat
open Go.RowKit Pln
theorem SB.code{w:Wo}{b:Nat}{d:StD}{f Ag l i k o q Ar As At:OA}{g cg r ca cb cp s t c u:Nat}{W:Wo}(h:SB w b (stCells d f Ag l i k o q Ar As At g cg r ca cb cp s t c u) W):W.rangeAt b 1 (C3 d.p d.m f d.mod.length g d.n Ag d.gen.length cg):=
 h.sub 1 _ (fun j hj=>by rcases j with _|_|_|_|_|j<;>first|rfl|(simp at hj;omega))
theorem qfR{d:StD}(q:codeZ d.p d.m d.mod d.n d.gen=0):fieldOK d.p d.m d.mod=true/\1<=d.n/\d.n<=64/\nzs (natR d.gen)=d.gen/\Grid (d.p.toNat^d.m.toNat) (natR d.gen).length d.n.toNat (natR d.gen)/\d.gen.length<=256:=by
 obtain⟨g,b,c⟩:=codeZ_n q;have h:1<=d.n/\d.n<=64:=by
  unfold lengthZ at b;split at b
  . cases b
  . omega
 have f:errC d.p d.m d.mod d.n d.gen=0:=by
  unfold spZ at c;split at c
  . rename_i he;exact absurd c he
  . rename_i he;exact Classical.byContradiction he
 unfold errC at f;rw[if_pos g] at f;obtain⟨i,j,l,o,k⟩:=qfY f;exact⟨g,h.1,h.2,i,j,k⟩
theorem code_nat{d:StD}{w:Wo}{s A:OA}(v:codeZ d.p d.m d.mod d.n d.gen=0)(u:zI w s d.mod)(t:zR w A d.gen):
 RCode d.p.toNat d.m.toNat (mdOf d.m d.mod) s d.mod.length d.n.toNat (natR d.gen) A w/\((d.p.toNat:Nat):Int)=d.p/\((d.m.toNat:Nat):Int)=d.m/\((d.n.toNat:Nat):Int)=d.n/\(natR d.gen).length=d.gen.length:=by
 obtain⟨b,q,r,l,k,g⟩:=qfR v;have o:shapeM d.p d.m d.mod=true:=by unfold fieldOK at b;rw[Bool.and_eq_true] at b;exact b.1
 have c:=qeQ o;have j:=field_ft b;have h:(mdOf d.m d.mod).length=d.m.toNat:=by
  by_cases f:d.m=1
  . rw[f];simp[mdOf]
  . unfold mdOf;rw[if_neg f,List.length_map];exact c.len f
 have i:RFld d.p.toNat d.m.toNat (mdOf d.m d.mod) s d.mod.length w.heap.size w:=⟨c.small,h,c.lt,fun h2=>by
  have f:d.m≠1:=by intro e;rw[e] at h2;exact absurd h2 dc
  exact⟨c.len f,by rw[c.nat f];exact u⟩⟩
 exact⟨⟨i,⟨_,j⟩,by rw[l];exact t,k,U0,U0,by rw[natR_len];exact g⟩,c.p0,c.m0,U0,natR_len _⟩
section
variable {P:Program} {ops:Array Oper} {S:Wo->Prop}
theorem keep_gload_mid{Q:Act->Prop}{a:Act}{o:Oper}{rest:List Oper}(i:Region.wanted o (yielded ops a.tmps)=true)(f:TypeId)(x:Operand)(k:o.op=.load f x)(b c:Nat)(m:a.eval x=.pointer (some (zA b c)))(cs:List Value)(d:TypeDesc)(g:∀w,S w->w.rangeAt b c cs)(l:P.underlying f=some d)(hd:d.isRow=true)(j:(P.info? f).map (·.size)=some cs.length)(h:wpKeep P ops S Q rest (a.put o.dst (.agg cs.toArray))):wpKeep P ops S Q (o :: rest) a:=
 qbD i (fun W hW=>by
  unfold execOp
  simp only[k,m,Instr.loadAt,Instr.sureAddr,Sem.run_bind,Sem.run_pure,Result.andThen_ok,run_loadVar_mid W b c f cs d (g W hW) l hd j]) h
end
def TrueOk(d:StD):Prop:=d.low<=((Dv.leastGo (wtAt d.p.toNat d.m.toNat (mdOf d.m d.mod) d.n.toNat (natR d.gen)) ((d.p.toNat^d.m.toNat)^d.gen.length-1) 1 (d.n.toNat+1):Nat):Int)
theorem cn_exp{d:StD}(k:codeZ d.p d.m d.mod d.n d.gen=0):∃ nn:Nat,cnV d.p d.m d.mod d.n d.gen 1024=(nn:Int)/\nn<=1024/\(0<nn->nn=(d.p.toNat ^ d.m.toNat) ^ d.gen.length):=by
 have i:szE d.p d.m d.mod d.n d.gen=expE (d.p.toNat^d.m.toNat) d.gen.length:=by unfold szE;rw[if_neg (fun h=>h k)]
 have j:szV d.p d.m d.mod d.n d.gen=expV (d.p.toNat^d.m.toNat) d.gen.length:=by unfold szV;rw[if_neg (fun h=>h k)]
 unfold cnV;rw[i,j];generalize d.p.toNat^d.m.toNat=q;by_cases c:expE q d.gen.length≠0\/1024<expV q d.gen.length
 . rw[if_pos c];exact⟨0,rfl,U0,U0⟩
 . rw[if_neg c];have f:¬expE q d.gen.length≠0:=fun h=>c (.inl h);have g:¬1024<expV q d.gen.length:=fun h=>c (.inr h);unfold expE at f;by_cases b:q^d.gen.length<=65536
   . unfold expV at g ⊢;rw[if_pos b] at g ⊢;exact⟨q^d.gen.length,rfl,U0,fun _=>rfl⟩
   . rw[if_neg b] at f;exact absurd (show(8:Int)≠0 by decide) f
theorem LGrid.wide{w:Wo}{B:Nat}{v:Value}{rows:LL}{c:List (Nat × Nat)}(h:LGrid w B v rows c rows.length)(x:LN):LGrid w B v (rows++[x]) c rows.length:=by
 have e:∀i,i<rows.length->(rows++[x]).getD i []=rows.getD i []:=fun i hi=>getD_snoc_lt hi;refine⟨h.len,U2,?_,fun i hi=>by rw[e i hi];exact h.row i hi,h.apart⟩;have b:(List.range rows.length).map (hdr (rows++[x]) c)=(List.range rows.length).map (hdr rows c):=List.map_congr_left fun i hi=>by unfold hdr;rw[e i (List.mem_range.1 hi)]
 rw[b];exact h.out
def RowsOk(q cols:Nat)(R:LL):Prop:=∀r∈R,r.length=cols/\∀x∈r,x<q
def NSc(w:Wo)(cs:List Value)(bp op br or' bx ox i t cols ci pv x:Nat)(W:Wo):Prop:=
 BX w cs 24 W/\W.cell? (zA bp (op+i))=some (Y pv)/\W.cell? (zA br (or'+i))=some (zL (some (zA bx ox)) cols ci)/\W.cell? (zA bx (ox+t))=some (Y x)
theorem NSc.keep{w:Wo}{cs:List Value}{d j f b g k i t cols m pv x:Nat}{W l:Wo}(h:NSc w cs d j f b g k i t cols m pv x W)(c:zB W l):NSc w cs d j f b g k i t cols m pv x l:=
 ⟨h.1.grow c,(c.cell (p:=(zA d (j+i))) (World.block_lt_of_cell? W _ h.2.1)).trans h.2.1,(c.cell (p:=(zA f (b+i))) (World.block_lt_of_cell? W _ h.2.2.1)).trans h.2.2.1,(c.cell (p:=(zA g (k+t))) (World.block_lt_of_cell? W _ h.2.2.2)).trans h.2.2.2⟩
end Go.Proofs.YtflejelbdlelpaaGreat
namespace Go.Proofs.YtflejelbdlelpaaGreat
open Go.RowKit Pln Go.Proofs.Tryz
theorem run_copy_ints(C:TypeId)(z:Nat)(A:OA)(c:Nat)(zs:LI)(W:Wo)(D:zI W A zs)(E:zs.length<=1000000):
 ∃(A':OA)(c':Nat)(w':Wo),(Builtin.append_ #[22,22] C #[zS z 0 0,zL A zs.length c]).run prog W=.ok (zL A' zs.length c') w'/\IntsUp w' W.heap.size A' zs/\zB W w':=by
 obtain⟨x,r,n,p,q⟩:=qaF infoInt;by_cases s:zs.length=0
 . refine⟨some (zA z 0),0,W,?_,fun h=>absurd h U0,Below.refl _ _⟩;rw[s];cases A<;>simp[Builtin.append_,run_underlying underlying22,sizeOf,typeInfo,r,Builtin.lenOf,Builtin.firstCells,storeCells,loadCells,loadCellsFrom]
 . obtain⟨b,o,rfl,t,v⟩:=D U0;obtain⟨y,w',i,d,f⟩:=run_append_arg_grows (P:=prog) W 22 C 3 x _ 1 8 underlying22 r n p q rfl dc (zA z 0) 0 0 [] rfl (fun j u hj=>by simp at hj) (zA b o) zs.length c (zs.map (Value.int .i64)) U2 (IntsAt.news (B:=W.heap.size) (fun hz=>⟨b,o,rfl,t,v⟩)) U0 ml U0;obtain⟨g,cap,rfl,l,m⟩:=d.form U0;refine⟨some (zA g 0),cap,w',by rw[i];simp,fun _=>⟨g,0,rfl,l,m,fun j hj=>?_⟩,⟨f.os,f.tape,f.output,f.size,fun k hk=>f.block k hk U2⟩⟩;have:=d.cells (g:=g) rfl j (Y (zs.getD j 0)) (by simp[List.getD,hj]);rw[Addr.add_mid] at this;exact this
theorem exec_append{P:Program}{o:Oper}{a:Act}(s x:Operand)(t:TypeId)(b:o.op=.call { callee:=.builtin .append,args:=#[s,x],argTypes:=#[t,t] }){v1 v2:Value}(c:a.eval s=v1)(d:a.eval x=v2){W w':Wo}{v:Value}(h:(Builtin.append_ #[t,t] o.type #[v1,v2]).run P W=.ok v w'):(execOp a.eval o).run P W=.ok (.value v) w':=by unfold execOp;simp only[b,resolve,invoke,builtin,Sem.run_bind,Sem.run_pure,Result.andThen_ok,List.map_toArray,List.map_cons,List.map_nil,c,d,h]
def B2(w:Wo)(cs:List Value)(t:TypeId)(ds:List Value)(u:TypeId)(W:Wo):Prop:=
 W.heap[w.heap.size]?=some (.cells cs.toArray t (0,0))/\W.heap[w.heap.size+1]?=some (.cells ds.toArray u (0,0))/\zB w W/\w.heap.size+1<W.heap.size
section
variable {w:Wo} {cs ds:List Value} {t u:TypeId} {W W':Wo}
theorem B2.grow(h:B2 w cs t ds u W)(g:zB W W'):B2 w cs t ds u W':=by obtain⟨c,d,f,b⟩:=h;exact⟨(g.block _ U0).trans c,(g.block _ b).trans d,f.trans (g.mono U0),Nat.lt_of_lt_of_le b g.size⟩
theorem B2.below(h:B2 w cs t ds u W):zB w W:=h.2.2.1
theorem B2.cell(h:B2 w cs t ds u W){k:Nat}{v:Value}(b:cs[k]?=some v):W.cell? (zA w.heap.size k)=some v:=by rw[cell_of_row W w.heap.size k _ _ _ h.1];simpa using b
theorem B2.range(h:B2 w cs t ds u W):W.rangeAt w.heap.size 0 cs:=qeL h.1
theorem B2.field{a b c:Value}{l:List Value}(h:B2 w (a :: b :: c :: l) t ds u W):W.rangeAt w.heap.size 0 [a,b,c]:=fun j v hv=>by
 match j,hv with
 |0,hv=>exact h.range 0 v hv
 |1,hv=>exact h.range 1 v hv
 |2,hv=>exact h.range 2 v hv
 |j+3,hv=>simp at hv
theorem B2.set(h:B2 w cs t ds u W)(b:List Value):B2 w cs t b u (W.setRow (w.heap.size+1) b.toArray):=
 ⟨(setRow_other W _ _ _ U0).trans h.1,setRow_same W _ _ _ _ h.2.1,qaR h.2.2.1 U0 _,by simpa using h.2.2.2⟩
end
theorem b2_new(w:Wo)(cs:List Value)(t:TypeId)(ds:List Value)(u:TypeId):B2 w cs t ds u ((w.alloc (.cells cs.toArray t)).alloc (.cells ds.toArray u)):=
 ⟨(Below.heap_alloc _ _ _ U2).trans (heap_alloc_new _ _),alloc_at U2 _,(zV.alloc zn _).alloc U2 _,U2⟩
def FieldPost(w:Wo)(p m:Int)(zs:LI)(e:Ending)(w':Wo):Prop:=
 (∃(A':OA)(c':Nat),e=.returned (C4 p m A' zs.length c')/\IntsUp w' w.heap.size A' zs)/\zB w w'
theorem rfield_c(p m:Int)(zs:LI)(A:OA)(c:Nat)(w:Wo)(M:zI w A zs)(N:zs.length<=1000000):
 zC 24 #[C4 p m A zs.length c] w (FieldPost w p m zs):=by
 have u:=zH (b2_new w (C5 p m A zs.length c) 24 [Y 0,Y 0,zL none 0 0] 24);have B:=zH M;clear M;go_enter func24,ntmps24;go_upto_region 1 with fail;generalize (w.alloc (C2 p m A zs.length c)).alloc (Cr)=y at *;have j:zK (B2 w (C5 p m A zs.length c) 24 [Y 0,Y 0,zL none 0 0] 24 y.drew):=u.o.grow zV.drew;have s:zK (∀W,B2 w (C5 p m A zs.length c) 24 [Y 0,Y 0,zL none 0 0] 24 W->W.cell? (zA w.heap.size 0)=some (Y p)/\W.cell? (zA w.heap.size 1)=some (Y m)/\W.cell? (zA w.heap.size 2)=some (zL A zs.length c)):=fun W h=>⟨h.cell rfl,h.cell rfl,h.cell rfl⟩;refine qaS 9 9 (B2 w (C5 p m A zs.length c) 24 [Y 0,Y 0,zL none 0 0] 24) [(1,0),(0,1),(1,2),(0,3),(1,5),(0,6),(2,4),(2,7),(1,8)] default U1 U1 (fun _ _ d _ _ h=>by cases d<;>exact h) j.o ?_;simp only[List.map_cons,List.map_nil,List.getD_cons_zero,List.getD_cons_succ];generalize y.drew=l at *;clear u
 iterate 3
  apply qaM rfl
  . intro W
    go_simp
    rfl
  go_simp
  apply qbF rfl
  . intro W E
    obtain⟨J,K,L⟩:=s.o W E
    go_simp
    rfl
  go_simp
 have b:zK (B2 w (C5 p m A zs.length c) 24 [Y 0,Y 0,zL none 0 0] 24 (l.alloc (.cells #[] 3))):=j.o.grow (zV.alloc zn _);apply qdM rfl (v:=zS l.heap.size 0 0) (w':=l.alloc (.cells #[] 3))
 . go_simp
 . exact b.o
 go_simp;generalize l.heap.size=D at *;generalize l.alloc (.cells #[] 3)=z at *;obtain⟨i,n,w',f,r,q⟩:=run_copy_ints 22 D A c zs z ((B.o.keep b.o.below).more b.o.below.size) N;have g:=zH (b.o.grow q);refine qdM rfl (exec_append (.tmp 7) (.tmp 9) 22 rfl rfl rfl f) g.o ?_;go_simp;have t:=zH r;clear f r q;apply qaM rfl
 . intro W;go_simp;rfl
 go_simp;refine qbH ?_;show wpList _ _ _ _ _ _;go_simp;have C:=zH g.o.2.1;have x:=zH (g.o.set (C5 p m i zs.length n));have H:=b.o.2.2.2;go_wp2_with (refine wpList_store_row rfl 24 (.tmp 2) (.tmp 11) rfl w' (w.heap.size+1) 24 #[Y 0,Y 0,zL none 0 0] #[Y p,Y m,zL i zs.length n] rfl rfl C.o fieldSize rfl sc ?_);refine bodyPost_ret (results_cell_row (P:=prog) rfl _ _ (w.heap.size+1) 24 #[Y p,Y m,zL i zs.length n] (0,0) _ rfl x.o.2.1 underlying24 rfl fieldSize) rfl ?_;refine⟨⟨i,n,rfl,?_⟩,x.o.below⟩;have I:IntsUp (w'.setRow (w.heap.size+1) #[Y p,Y m,zL i zs.length n]) z.heap.size i zs:=t.o.of_blocks U2 fun k hk _=>setRow_other w' (w.heap.size+1) k _ U0;exact I.lower U0
end Go.Proofs.YtflejelbdlelpaaGreat
