/-
 code.Check. What the walks of codes need of texts that grow: slices of rows in new memory, whole stores (out of Gt and Gu, without the functions of derive).
-/
import Derived.Test.YtlmglaonldlanaaGreatQ14
namespace Go.Proofs.YtlmglaonldlanaaGreat
open Go.RowKit Pln
section
variable {P:Program} {ops:Array Oper} {S:World->Prop}
theorem qbG {Q:Act->Prop} {a:Act} {o:Oper} {rest:List Oper} (hg:o.guard=none) (ty:TypeId) (x:Operand) (ho:o.op=.load ty x)
 (b off:Nat) (hx:a.eval x=.pointer (some ⟨b,off,none⟩)) (cs:List Value) (d:TypeDesc) (hS:∀ w,S w->w.rangeAt b off cs)
 (hu:P.underlying ty=some d) (hd:d.isRow=true) (hi:(P.info? ty).map (·.size)=some cs.length)
 (h:wpKeep P ops S Q rest (a.put o.dst (.agg cs.toArray))):wpKeep P ops S Q (o :: rest) a :=
 qaM hg (fun W hW=>by
  unfold execOp
  simp only [ho,hx,Instr.loadAt,Instr.sureAddr,Sem.run_bind,Sem.run_pure,Result.andThen_ok,run_loadVar_mid W b off ty cs d (hS W hW) hu hd hi]) h
end
theorem codeSize:(Tryz.prog.info? 32).map (·.size)=some 5:=by kernel_rfl
def lengthZ (n:Int):Int:=if n<1\/64<n then 4 else 0
theorem length_c (n:Int) (w:World):Calls Tryz.prog 47 #[.int .i64 n] w fun e w'=>e=.returned (.int .i64 (lengthZ n))/\w=w':=by
 by_cases h1:n<1
 . have HE : Hid (lengthZ n = 4) := by show _ = _;unfold lengthZ;rw [if_pos (by omega)]
   go_enter Tryz.func47,Tryz.ntmps47
   go_wp2_with fail
   go_ret
   exact ⟨qaD HE.out.symm,rfl⟩
 . by_cases h2 : 64 < n
   . have HE : Hid (lengthZ n = 4) := by show _ = _;unfold lengthZ;rw [if_pos (by omega)]
     go_enter Tryz.func47,Tryz.ntmps47
     go_wp2_with fail
     go_ret
     exact ⟨qaD HE.out.symm,rfl⟩
   . have HE : Hid (lengthZ n = 0) := by show _ = _;unfold lengthZ;rw [if_neg (by omega)]
     go_enter Tryz.func47,Tryz.ntmps47
     go_wp2_with fail
     go_ret
     exact ⟨qaD HE.out.symm,rfl⟩
set_option maxHeartbeats 1000000 in
set_option maxRecDepth 100000 in
theorem gen_c (p m:Int) (Am:Option Addr) (n cm:Nat) (N:Int) (A:Option Addr) (nz c:Nat) (w:World) :
 Calls Tryz.prog 49 #[.agg #[.int .i64 p,.int .i64 m,.slice Am n cm,.int .i64 N,.slice A nz c]] w fun e w'=>e=.returned (.agg #[.int .i64 N,.slice A nz c])/\Below w.heap.size w w':=by
 have HB0:Hid (Below w.heap.size w (w.alloc (.cells #[.int .i64 p,.int .i64 m,.slice Am n cm,.int .i64 N,.slice A nz c] 32))):=(Below.refl _ _).alloc (Nat.le_refl _) _
 go_enter Tryz.func49,Tryz.ntmps49
 have HW0:Hid ((w.alloc (.cells #[.int .i64 p,.int .i64 m,.slice Am n cm,.int .i64 N,.slice A nz c] 32)).heap.size=w.heap.size+1):=by show _=_;simp
 have HK:Hid (((w.alloc (.cells #[.int .i64 p,.int .i64 m,.slice Am n cm,.int .i64 N,.slice A nz c] 32)).alloc (.cells #[.int .i64 N,.slice A nz c] 54)).heap[w.heap.size+1]?=some (.cells #[.int .i64 N,.slice A nz c] 54 (0,0))):=by
  have:=heap_alloc_new (w.alloc (.cells #[.int .i64 p,.int .i64 m,.slice Am n cm,.int .i64 N,.slice A nz c] 32)) (.cells #[.int .i64 N,.slice A nz c] 54)
  rw [HW0.out] at this
  exact this
 have HB1:Hid (Below w.heap.size w ((w.alloc (.cells #[.int .i64 p,.int .i64 m,.slice Am n cm,.int .i64 N,.slice A nz c] 32)).alloc (.cells #[.int .i64 N,.slice A nz c] 54))):=HB0.out.alloc (by rw [HW0.out];omega) _
 go_wp2_with (refine qaI rfl 54 (.tmp 2) (.tmp 7) rfl (w.alloc (.cells #[.int .i64 p,.int .i64 m,.slice Am n cm,.int .i64 N,.slice A nz c] 32)) _ #[.int .i64 N,.slice A nz c] (by show _=Value.pointer (some ⟨_,0,none⟩);rw [HW0.out];rfl) rfl matSize rfl (by simp [Value.oneCell']) ?_)
 refine bodyPost_ret (results_cell_row (P:=Tryz.prog) rfl _ _ (w.heap.size+1) 54 #[.int .i64 N,.slice A nz c] (0,0) _ rfl HK.out Tryz.underlying54 rfl matSize) rfl ?_
 exact ⟨rfl,HB1.out⟩
end Go.Proofs.YtlmglaonldlanaaGreat
namespace Go.Proofs.YtlmglaonldlanaaGreat
open Go.RowKit Pln
def codeZ (p m:Int) (mod:List Int) (N:Int) (zs:List (List Int)):Int:=if fieldOK p m mod=false then 1 else if lengthZ N≠0 then 4 else spZ p m mod N zs
def SBoxC (w:World) (cs:List Value) (W:World):Prop:=W.heap[w.heap.size]?=some (.cells cs.toArray 32 (0,0))/\Below w.heap.size w W/\w.heap.size<W.heap.size
theorem SBoxC.grow {w:World} {cs:List Value} {W W':World} (h:SBoxC w cs W) (hb:Below W.heap.size W W'):SBoxC w cs W':=by
 obtain ⟨h1,h2,h3⟩:=h
 exact ⟨(hb.block _ h3).trans h1,h2.trans (hb.mono (Nat.le_of_lt h3)),Nat.lt_of_lt_of_le h3 hb.size⟩
theorem SBoxC.range {w:World} {cs:List Value} {W:World} (h:SBoxC w cs W):W.rangeAt w.heap.size 0 cs:=qaC h.1
theorem SBoxC.range3 {w:World} {v0 v1 v2 v3 v4:Value} {W:World} (h:SBoxC w [v0,v1,v2,v3,v4] W):W.rangeAt w.heap.size 0 [v0,v1,v2]:=fun j v hv=>by
 have hr:=qaC h.1
 refine hr j v ?_
 rcases j with _ | _ | _ | j
 . exact hv
 . exact hv
 . exact hv
 . simp at hv
set_option maxHeartbeats 1000000 in
set_option maxRecDepth 100000 in
theorem qcS (p m:Int) (mod:List Int) (Am:Option Addr) (cm:Nat) (N:Int) (zs:List (List Int)) (A:Option Addr) (c:Nat) (w:World) (hM:IntsAt w w.heap.size Am mod) (hl:mod.length<=9223372036854775807)
 (hA:RowsAt w w.heap.size A zs) (hlz:zs.length<=9223372036854775807) :
 Calls Tryz.prog 27 #[.agg #[.int .i64 p,.int .i64 m,.slice Am mod.length cm,.int .i64 N,.slice A zs.length c]] w fun e w'=>e=.returned (.int .i64 (codeZ p m mod N zs))/\Below w.heap.size w w':=by
 have HX:Hid (SBoxC w [.int .i64 p,.int .i64 m,.slice Am mod.length cm,.int .i64 N,.slice A zs.length c] (w.alloc (.cells #[.int .i64 p,.int .i64 m,.slice Am mod.length cm,.int .i64 N,.slice A zs.length c] 32))) :=
  ⟨heap_alloc_new _ _,(Below.refl _ _).alloc (Nat.le_refl _) _,by simp⟩
 have HM:=Lib.hid hM
 have HA:=Lib.hid hA
 clear hM hA
 go_enter Tryz.func27,Tryz.ntmps27
 go_upto_region 1 with fail
 generalize w.alloc (.cells #[.int .i64 p,.int .i64 m,.slice Am mod.length cm,.int .i64 N,.slice A zs.length c] 32)=W0 at *
 have HRG:=Lib.hid HX.out.range3
 have HC:=Lib.hid (fcheck_c p m mod Am cm W0 ((HM.out.keep HX.out.2.1).more HX.out.2.1.size) hl)
 go_wp2_with (refine wpList_load_mid rfl 29 (.tmp 4) rfl w.heap.size 0 rfl [.int .i64 p,.int .i64 m,.slice Am mod.length cm] _ HRG.out Tryz.underlying29 rfl fieldSize ?_)
 (with_reducible refine HC.out.mono ?_)
 rintro e w1 ⟨rfl,hb1⟩
 have HX1:=Lib.hid (HX.out.grow hb1)
 clear hb1 HX HC HRG
 clear W0
 cases hok:fieldOK p m mod
 . have HE : Hid (codeZ p m mod N zs = 1) := by show _ = _;unfold codeZ;rw [if_pos hok]
   have he:errF false=1:=rfl
   rw [he]
   clear hok he
   go_wp2_with fail
   go_ret
   exact ⟨qaD HE.out.symm,HX1.out.2.1⟩
 . have he : errF true = 0 := rfl
   rw [he]
   have a3:w1.cell? ⟨w.heap.size,3,none⟩=some (.int .i64 N):=cell_of_row _ _ 3 _ _ _ HX1.out.1
   clear he
   by_cases hn:N<1\/64<N
   . have hlz4 : lengthZ N = 4 := by unfold lengthZ;rw [if_pos hn]
     have HE:Hid (codeZ p m mod N zs=4):=by show _=_;unfold codeZ;rw [if_neg (by simp [hok]),if_pos (by rw [hlz4];decide)]
     have HL:Hid (Calls Tryz.prog 47 #[.int .i64 N] w1 fun e w'=>e=.returned (.int .i64 4)/\w1=w'):=by
      have:=length_c N w1
      rw [hlz4] at this
      exact this
     clear hok hn hlz4
     go_wp2_with (go_at_call 47;(with_reducible refine HL.out.mono ?_);rintro e w' ⟨rfl,rfl⟩)
     go_ret
     exact ⟨qaD HE.out.symm,HX1.out.2.1⟩
   . have hlz0 : lengthZ N = 0 := by unfold lengthZ;rw [if_neg hn]
     have HE:Hid (codeZ p m mod N zs=spZ p m mod N zs):=by show _=_;unfold codeZ;rw [if_neg (by simp [hok]),if_neg (by rw [hlz0];decide)]
     have HL:Hid (Calls Tryz.prog 47 #[.int .i64 N] w1 fun e w'=>e=.returned (.int .i64 0)/\w1=w'):=by
      have:=length_c N w1
      rw [hlz0] at this
      exact this
     have HGEN:Hid (∀ W,SBoxC w [.int .i64 p,.int .i64 m,.slice Am mod.length cm,.int .i64 N,.slice A zs.length c] W->Calls Tryz.prog 49 #[.agg #[.int .i64 p,.int .i64 m,.slice Am mod.length cm,.int .i64 N,.slice A zs.length c]] W fun e w'=>e=.returned (.agg #[.int .i64 N,.slice A zs.length c])/\SBoxC w [.int .i64 p,.int .i64 m,.slice Am mod.length cm,.int .i64 N,.slice A zs.length c] w') :=
      fun W hW=>(gen_c p m Am mod.length cm N A zs.length c W).mono fun e w' ⟨he,hb⟩=>⟨he,hW.grow hb⟩
     have HSC:Hid (∀ W,SBoxC w [.int .i64 p,.int .i64 m,.slice Am mod.length cm,.int .i64 N,.slice A zs.length c] W->Calls Tryz.prog 48 #[.agg #[.int .i64 p,.int .i64 m,.slice Am mod.length cm],.agg #[.int .i64 N,.slice A zs.length c]] W fun e w'=>e=.returned (.int .i64 (spZ p m mod N zs))/\SBoxC w [.int .i64 p,.int .i64 m,.slice Am mod.length cm,.int .i64 N,.slice A zs.length c] w') :=
      fun W hW=>(scheck_c p m mod Am cm N zs A c W ((HM.out.keep hW.2.1).more hW.2.1.size) hl ((HA.out.keep hW.2.1).more hW.2.1.size) hlz (by omega)).mono fun e w' ⟨he,hb⟩=>⟨he,hW.grow hb⟩
     clear hok hn hlz0 HM HA
     go_upto_region 6 with (go_at_call 47;(with_reducible refine HL.out.mono ?_);rintro e w' ⟨rfl,rfl⟩)
     clear a3
     refine qaH (SBoxC w [.int .i64 p,.int .i64 m,.slice Am mod.length cm,.int .i64 N,.slice A zs.length c]) (by kernel_rfl) (by kernel_rfl) (HX1.out.grow (Below.refl _ _).drew) ?_
     repeat (first
      | (refine qbG rfl 29 (.tmp 14) rfl w.heap.size 0 rfl [.int .i64 p,.int .i64 m,.slice Am mod.length cm] _ (fun W hW => hW.range3) Tryz.underlying29 rfl fieldSize ?_
         go_simp)
      | (refine qbG rfl 32 (.tmp 1) rfl w.heap.size 0 rfl [.int .i64 p,.int .i64 m,.slice Am mod.length cm,.int .i64 N,.slice A zs.length c] _ (fun W hW => hW.range) Tryz.underlying32 rfl codeSize ?_
         go_simp)
      | (apply qaM rfl
         . intro W hS
           go_simp
           rfl
         go_simp)
      | (apply qaV rfl
         . intro W hS
           go_simp
           exact ⟨rfl,rfl⟩
         . intro W hS
           first
            | exact HGEN.out W hS
            | exact HSC.out W hS
         go_simp))
     refine qaJ ?_
     intro w2 hS2
     go_wp2_with fail
     go_ret
     exact ⟨qaD HE.out.symm,hS2.2.1⟩
end Go.Proofs.YtlmglaonldlanaaGreat
namespace Go.Proofs.YtlmglaonldlanaaGreat
open Go.RowKit Pln
def IntsUp (w:World) (lo:Nat) (A:Option Addr) (zs:List Int):Prop :=
 0<zs.length->∃ b o,A=some ⟨b,o,none⟩/\lo<=b/\b<w.heap.size/\∀ j,j<zs.length->w.cell? ⟨b,o+j,none⟩=some (.int .i64 (zs.getD j 0))
theorem IntsUp.ints {w:World} {lo:Nat} {A:Option Addr} {zs:List Int} (h:IntsUp w lo A zs):IntsAt w w.heap.size A zs:=fun hz=>by
 obtain ⟨b,o,e,_,hlt,hc⟩:=h hz
 exact ⟨b,o,e,hlt,hc⟩
theorem IntsUp.of_blocks {w w':World} {lo:Nat} {A:Option Addr} {zs:List Int} (h:IntsUp w lo A zs) (hs:w.heap.size<=w'.heap.size) (hb:∀ k,lo<=k->k<w.heap.size->w'.heap[k]?=w.heap[k]?):IntsUp w' lo A zs:=fun hz=>by
 obtain ⟨b,o,e,hlo,hlt,hc⟩:=h hz
 refine ⟨b,o,e,hlo,by omega,fun j hj=>?_⟩
 have:w'.cell? ⟨b,o+j,none⟩=w.cell? ⟨b,o+j,none⟩:=by
  unfold World.cell?
  rw [hb b hlo hlt]
 exact this.trans (hc j hj)
theorem RowsUp.grow {w w':World} {lo:Nat} {A:Option Addr} {zs:List (List Int)} (h:RowsUp w lo A zs) (hb:Below w.heap.size w w'):RowsUp w' lo A zs:=h.of_blocks hb.size fun k _ hk=>hb.block k hk
section
variable {P:Program}
end
structure LGrid (w:World) (B:Nat) (v:Value) (rows:List (List Nat)) (bs:List (Nat × Nat)) (k:Nat):Prop where
 len:bs.length=k
 le:k<=rows.length
 out:w.ownsRow B 23 1 v k ((List.range k).map (hdr rows bs))
 row:∀ i,i<k->Row w B (bk bs i) (cp bs i) (nz (rows.getD i []))
 apart:∀ i,i<k->v.ownBlock≠some (bk bs i)
theorem LGrid.step {w w1 w2:World} {B:Nat} {v v':Value} {rows:List (List Nat)} {bs:List (Nat × Nat)} {k g c:Nat} {o:Obj} (h:LGrid w B v rows bs k) (hk:k<rows.length) (hB:B<=w.heap.size) (hb:Below w.heap.size w w1) (hr:Row w1 w.heap.size g c (nz (rows.getD k [])))
 (hown:w2.ownsRow B 23 1 v' (k+1) ((List.range k).map (hdr rows bs)++[.slice (some ⟨g,0,none⟩) (rows.getD k []).length c])) (hg:(w1.alloc o).grownBy w2 v.ownBlock) (hat:v'.ownBlock=v.ownBlock\/v'.ownBlock=some (w1.alloc o).heap.size) :
 LGrid w2 B v' rows (bs++[(g,c)]) (k+1):=by
 have hgl:=hr.lt
 have hs1:=hb.size
 have hvl:∀ b,v.ownBlock=some b->b<w.heap.size:=fun b e=>(h.out.lt b e).2
 have hbk:∀ i,i<k->bk (bs++[(g,c)]) i=bk bs i/\cp (bs++[(g,c)]) i=cp bs i:=fun i hi=>by
  unfold bk cp
  rw [qbS (by rw [h.len];exact hi)]
  exact ⟨rfl,rfl⟩
 have hbn:bk (bs++[(g,c)]) k=g/\cp (bs++[(g,c)]) k=c:=by
  unfold bk cp
  have:=qbB bs (g,c) (0,0)
  rw [h.len] at this
  rw [this]
  exact ⟨rfl,rfl⟩
 refine ⟨by simp [h.len],hk,?_,fun i hi=>?_,fun i hi=>?_⟩
 . rw [List.range_succ,List.map_append]
   have e1:(List.range k).map (hdr rows (bs++[(g,c)]))=(List.range k).map (hdr rows bs):=List.map_congr_left fun i hi=>by
    unfold hdr
    rw [(hbk i (List.mem_range.1 hi)).1,(hbk i (List.mem_range.1 hi)).2]
   rw [e1,List.map_cons,List.map_nil]
   unfold hdr at hown ⊢
   rw [hbn.1,hbn.2]
   exact hown
 . by_cases hik : i = k
   . subst hik
     rw [hbn.1,hbn.2]
     exact ((hr.base (B':=B) (by omega)).alloc o).grown hg (fun e=>by have:=hvl g e.symm;omega)
   . have hi' : i < k := by omega
     rw [(hbk i hi').1,(hbk i hi').2]
     have hri:=h.row i hi'
     exact ((hri.below hb hri.lt.2).alloc o).grown hg (fun e=>h.apart i hi' e.symm)
 . by_cases hik : i = k
   . subst hik
     rw [hbn.1]
     rcases hat with e | e
     . rw [e];exact fun e'=>by have:=hvl g e';omega
     . rw [e];intro e';injection e' with e';simp at e';omega
   . have hi' : i < k := by omega
     rw [(hbk i hi').1]
     rcases hat with e | e
     . rw [e];exact h.apart i hi'
     . rw [e]
       have:=(h.row i hi').lt.2
       intro e';injection e' with e';simp at e';omega
theorem qbO {w:World} {base n:Nat} {e:TypeId} {v:Value} {xs:List Value} (h:w.ownsRow base e 1 v n xs):∃ VA ck,v=.slice VA n ck/\(0<n->∃ R,VA=some ⟨R,0,none⟩):=by
 rcases h.2 with ⟨h1,h2⟩ | ⟨g,cap,cur,hv,_⟩
 . subst h2
   exact ⟨_,_,h1,fun h=>by omega⟩
 . exact ⟨_,_,hv,fun _=>⟨g,rfl⟩⟩
theorem LGrid.up {w:World} {B:Nat} {VA:Option Addr} {ck:Nat} {rows:List (List Nat)} {bs:List (Nat × Nat)} (h:LGrid w B (.slice VA rows.length ck) rows bs rows.length):RowsUp w B VA (nzs rows):=by
 intro hz
 rw [qbC] at hz
 obtain ⟨VA',ck',e,hR⟩:=qbO h.out
 injection e with e1 e2 e3
 subst e1
 obtain ⟨R,rfl⟩:=hR hz
 have hlt:=World.ownsRow.lt h.out R rfl
 refine ⟨R,0,rfl,hlt.1,hlt.2,fun i hi=>?_⟩
 rw [qbC] at hi
 have hr:=h.row i hi
 refine ⟨bk bs i,0,cp bs i,?_,hr.lt.1,hr.lt.2,fun j hj=>?_⟩
 . rw [Nat.zero_add,qcM,qaB,World.ownsRow.cellAt h.out i (by omega)]
   simp [hi,hdr]
 . rw [qcM] at hj ⊢
   rw [Nat.zero_add]
   exact hr.cell hj
section
variable {P:Program} {ops:Array Oper} {S:World->Prop}
end
theorem qaT {w:World} {b:Nat} {cs:List Value} {t:TypeId} {fr:Nat × Nat} (h:w.heap[b]?=some (.cells cs.toArray t fr)) (k:Nat) (v:Value):(w.setCell ⟨b,k,none⟩ v).heap[b]?=some (.cells (cs.set k v).toArray t fr):=by
 simp [World.setCell,Array.getElem?_modify,h]
theorem IntsUp.lower {w:World} {lo lo':Nat} {A:Option Addr} {zs:List Int} (h:IntsUp w lo A zs) (hl:lo'<=lo):IntsUp w lo' A zs:=fun hz=>by
 obtain ⟨b,o,e,h1,h2,hc⟩:=h hz
 exact ⟨b,o,e,by omega,h2,hc⟩
theorem RowsUp.lower {w:World} {lo lo':Nat} {A:Option Addr} {zs:List (List Int)} (h:RowsUp w lo A zs) (hl:lo'<=lo):RowsUp w lo' A zs:=fun hz=>by
 obtain ⟨b,o,e,h1,h2,hc⟩:=h hz
 refine ⟨b,o,e,by omega,h2,fun i hi=>?_⟩
 obtain ⟨bi,oi,ci,h3,h4,h5⟩:=hc i hi
 exact ⟨bi,oi,ci,h3,by omega,h5⟩
end Go.Proofs.YtlmglaonldlanaaGreat
