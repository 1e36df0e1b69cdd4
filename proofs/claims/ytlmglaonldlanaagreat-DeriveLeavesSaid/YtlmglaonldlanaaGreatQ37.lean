/-
 The program's field: its description, its digits; tower.prime, tower.isDegree. bch.Root. GF.Order, GF.Digits; tower.Embed.
-/
import Derived.Test.YtlmglaonldlanaaGreatQ36
import Derived.Test.YtlmglaonldlanaaGreatQ32
import Derived.Test.YtlmglaonldlanaaGreatQ34
import Derived.Test.YtlmglaonldlanaaGreatQ35
namespace Go.Proofs.YtlmglaonldlanaaGreat
open Go.RowKit Pln
set_option maxHeartbeats 2000000 in
set_option maxRecDepth 100000 in
theorem gfield_any (gb B p m:Nat) (mod:List Int) (l lg:List Nat) (w:World) (hG:GFM w B gb p m mod l lg) (hB:B<=w.heap.size) (hl:mod.length<=1000000) :
 Calls Tryz.prog 234 #[.pointer (some ⟨gb,0,none⟩)] w fun e w'=>(∃ A' c',e=.returned (.agg #[.int .i64 (p:Int),.int .i64 (m:Int),.slice A' mod.length c'])/\IntsUp w' w.heap.size A' mod)/\Below w.heap.size w w':=by
 have HB0:Hid (Below w.heap.size w (w.alloc (.cells #[.int .i64 0,.int .i64 0,.slice none 0 0] 29))):=(Below.refl _ _).alloc (Nat.le_refl _) _
 have HK0:Hid ((w.alloc (.cells #[.int .i64 0,.int .i64 0,.slice none 0 0] 29)).heap[w.heap.size]?=some (.cells #[.int .i64 0,.int .i64 0,.slice none 0 0] 29 (0,0))):=heap_alloc_new _ _
 have hgb:gb<B:=hG.1
 have HG:=Lib.hid hG
 clear hG
 go_enter Tryz.func234,Tryz.ntmps234
 go_upto_region 1 with fail
 generalize w.alloc (.cells #[.int .i64 0,.int .i64 0,.slice none 0 0] 29)=W0 at *
 have hlt0:w.heap.size<W0.heap.size:=qbE HK0.out
 obtain ⟨_,A3,c3,ge,ce,gl,cl,hblk,hmd,_,_⟩:=HG.out.keep (HB0.out.mono hB)
 have HBLK:=Lib.hid hblk
 have HMD:=Lib.hid hmd
 have HCV:Hid (∀ W,LSt W0 W->W.cell? ⟨gb,0,none⟩=some (.int .i64 (p:Int))/\W.cell? ⟨gb,1,none⟩=some (.int .i64 (m:Int))/\W.cell? ⟨gb,2,none⟩=some (.slice A3 mod.length c3)):=fun W hW =>
  have hb:=(Below.block hW gb (by omega)).trans HBLK.out
  ⟨cell_of_row _ _ 0 _ _ _ hb,cell_of_row _ _ 1 _ _ _ hb,cell_of_row _ _ 2 _ _ _ hb⟩
 have HS0:Hid (LSt W0 W0.drew):=(Below.refl _ _).drew
 have hbA:Below W0.heap.size W0 ((W0.alloc (.cells #[] 3)).drew):=((Below.refl _ _).alloc (Nat.le_refl _) _).drew
 obtain ⟨A',c',w5,hrun,hup,hb5⟩:=qeD 23 W0.heap.size A3 c3 mod ((W0.alloc (.cells #[] 3)).drew) ((HMD.out.keep (hbA.mono (by omega))).more (by have:=hbA.size;omega)) hl
 have HBA:=Lib.hid hbA
 have HRUN:=Lib.hid hrun
 have HUP:=Lib.hid (hup.lower hbA.size)
 have HB5:Hid (Below W0.heap.size W0 w5):=hbA.trans (hb5.mono hbA.size)
 clear hblk hmd hbA hrun hup hb5
 refine qbL 18 (LSt W0) [(true,0),(true,1),(true,2),(true,3),(true,4),(true,5),(true,6),(true,7),(true,8),(true,9),(true,11),(true,12),(true,13),(true,14),(true,15),(false,10),(false,16),(true,17)] default (by kernel_rfl) (by kernel_rfl) (fun _ _ d _ _ h=>by cases d <;> exact h) HS0.out ?_
 simp only [List.map_cons,List.map_nil,List.getD_cons_zero,List.getD_cons_succ]
 iterate 15
  apply qdA rfl
  . intro W hW
    obtain ⟨z0,z1,z2⟩:=HCV.out W hW
    go_simp
    rfl
  go_simp
 apply qfB rfl
 . go_simp
   exact ⟨rfl,rfl⟩
 . exact HBA.out
 go_simp
 refine qfB rfl (qeI (.tmp 13) (.tmp 18) 23 rfl rfl rfl HRUN.out) HB5.out ?_
 go_simp
 apply qdA rfl
 . intro W hW
   go_simp
   rfl
 go_simp
 refine qeU ?_
 have HK5:Hid (w5.heap[w.heap.size]?=some (.cells #[.int .i64 0,.int .i64 0,.slice none 0 0] 29 (0,0))):=(HB5.out.block _ hlt0).trans HK0.out
 have HKY:Hid ((w5.setRow w.heap.size #[.int .i64 (p:Int),.int .i64 (m:Int),.slice A' mod.length c']).heap[w.heap.size]?=some (.cells #[.int .i64 (p:Int),.int .i64 (m:Int),.slice A' mod.length c'] 29 (0,0))):=qbI _ _ _ _ _ HK5.out
 go_wp2_with (refine qaE rfl 29 (.tmp 2) (.tmp 20) rfl w5 w.heap.size 29 #[.int .i64 0,.int .i64 0,.slice none 0 0] #[.int .i64 (p:Int),.int .i64 (m:Int),.slice A' mod.length c'] rfl rfl HK5.out fieldSize rfl (by simp [Value.oneCell']) ?_)
 refine bodyPost_ret (results_cell_row (P:=Tryz.prog) rfl _ _ w.heap.size 29 #[.int .i64 (p:Int),.int .i64 (m:Int),.slice A' mod.length c'] (0,0) _ rfl HKY.out Tryz.underlying29 rfl fieldSize) rfl ?_
 refine ⟨⟨A',c',rfl,?_⟩,qbD (HB0.out.trans (HB5.out.mono HB0.out.size)) (Nat.le_refl _) _⟩
 exact (HUP.out.of_blocks (by simp) fun k hk _=>setRow_other w5 w.heap.size k _ (by omega)).lower (by omega)
set_option maxHeartbeats 2000000 in
set_option maxRecDepth 100000 in
theorem prime_c (gb B p m:Nat) (mod:List Int) (l lg:List Nat) (w:World) (hG:GFM w B gb p m mod l lg) (hB:B<=w.heap.size) (hl:mod.length<=1000000) :
 Calls Tryz.prog 202 #[.pointer (some ⟨gb,0,none⟩)] w fun e w'=>e=.returned (.tuple #[.int .i64 (p:Int),.int .i64 (m:Int)])/\Below w.heap.size w w':=by
 have HC:=Lib.hid (gfield_any gb B p m mod l lg w hG hB hl)
 clear hG
 go_enter Tryz.func202,Tryz.ntmps202
 go_wp2_with fail
 (with_reducible refine HC.out.mono ?_)
 rintro e w1 ⟨⟨A',c',rfl,_⟩,hb⟩
 have HB:=Lib.hid hb
 clear hb
 go_upto_region 2 with (refine qaI rfl 29 (.tmp 4) (.tmp 6) rfl w1 _ #[.int .i64 (p:Int),.int .i64 (m:Int),.slice A' mod.length c'] rfl rfl fieldSize rfl (by simp [Value.oneCell']) ?_)
 have y0:(w1.alloc (.cells #[.int .i64 (p:Int),.int .i64 (m:Int),.slice A' mod.length c'] 29)).cell? ⟨w1.heap.size,0,none⟩=some (.int .i64 (p:Int)):=cell_of_row _ _ 0 _ _ _ (heap_alloc_new _ _)
 have y1:(w1.alloc (.cells #[.int .i64 (p:Int),.int .i64 (m:Int),.slice A' mod.length c'] 29)).cell? ⟨w1.heap.size,1,none⟩=some (.int .i64 (m:Int)):=cell_of_row _ _ 1 _ _ _ (heap_alloc_new _ _)
 have HB2:Hid (Below w.heap.size w (w1.alloc (.cells #[.int .i64 (p:Int),.int .i64 (m:Int),.slice A' mod.length c'] 29))):=HB.out.alloc HB.out.size _
 generalize w1.alloc (.cells #[.int .i64 (p:Int),.int .i64 (m:Int),.slice A' mod.length c'] 29)=w2 at *
 go_quiet (fail)
 go_wp2_with fail
 go_ret2
 exact ⟨rfl,qaA HB2.out _⟩
def degB (m:Nat) (d:Int):Bool:=decide (1<=d) && (decide (d<=(m:Int)) && Int.tmod (m:Int) d==0)
set_option maxHeartbeats 2000000 in
set_option maxRecDepth 100000 in
theorem isdegree_c (gb B p m:Nat) (d:Int) (mod:List Int) (l lg:List Nat) (w:World) (hG:GFM w B gb p m mod l lg) (hB:B<=w.heap.size) (hl:mod.length<=1000000) (_hm:m<=8) :
 Calls Tryz.prog 203 #[.pointer (some ⟨gb,0,none⟩),.int .i64 d] w fun e w'=>e=.returned (.bool (degB m d))/\Below w.heap.size w w':=by
 have HC:=Lib.hid (prime_c gb B p m mod l lg w hG hB hl)
 clear hG
 by_cases h1:1<=d
 . have h1' : ¬ d < 1 := by omega
   by_cases h2:d<=(m:Int)
   . have h2' : ¬ (m : Int) < d := by omega
     have hd0:¬ d=0:=by omega
     have HD:Hid (degB m d=(Int.tmod (m:Int) d==0)):=by
      show _=_
      unfold degB
      rw [decide_eq_true h1,decide_eq_true h2]
      rfl
     go_enter Tryz.func203,Tryz.ntmps203
     go_wp2_with fail
     (with_reducible refine HC.out.mono ?_)
     rintro e w1 ⟨rfl,hb⟩
     obtain ⟨t,ht⟩:∃ t,Int.tmod (m:Int) d=t:=⟨_,rfl⟩
     rw [ht] at HD
     by_cases ht0:t=0
     . subst ht0
       go_wp2_with fail
       go_ret
       exact ⟨by rw [HD.out];rfl,hb⟩
     . have htb : (t == 0) = false := beq_false_of_ne ht0
       rw [htb] at HD
       go_wp2_with fail
       go_ret
       exact ⟨by rw [HD.out];rfl,hb⟩
   . have h2' : (m : Int) < d := by omega
     have HD:Hid (degB m d=false):=by
      show _=_
      unfold degB
      rw [decide_eq_false h2,Bool.false_and,Bool.and_false]
     go_enter Tryz.func203,Tryz.ntmps203
     go_wp2_with fail
     (with_reducible refine HC.out.mono ?_)
     rintro e w1 ⟨rfl,hb⟩
     go_wp2_with fail
     go_ret
     exact ⟨by rw [HD.out];rfl,hb⟩
 . have h1' : d < 1 := by omega
   have HD:Hid (degB m d=false):=by
    show _=_
    unfold degB
    rw [decide_eq_false h1,Bool.false_and]
   go_enter Tryz.func203,Tryz.ntmps203
   go_wp2_with fail
   (with_reducible refine HC.out.mono ?_)
   rintro e w1 ⟨rfl,hb⟩
   go_wp2_with fail
   go_ret
   exact ⟨by rw [HD.out];rfl,hb⟩
end Go.Proofs.YtlmglaonldlanaaGreat
namespace Go.Proofs.YtlmglaonldlanaaGreat
open Go.RowKit Pln
theorem results_cells2 {fn:Func} {p q:Tmp} (h:fn.results=#[.cell p 3,.cell q 41]) (tmps:Array Value) (w:World) (b1 b2:Nat) (u v:Value) (hp:tmps.getD p undef=.pointer (some ⟨b1,0,none⟩)) (hq:tmps.getD q undef=.pointer (some ⟨b2,0,none⟩))
 (h1:w.cell? ⟨b1,0,none⟩=some u) (h2:w.cell? ⟨b2,0,none⟩=some v):(results fn tmps).run Tryz.prog w=.ok (.tuple #[u,v]) w:=by
 have hp':tmps[p]?.getD undef=.pointer (some ⟨b1,0,none⟩):=by simpa using hp
 have hq':tmps[q]?.getD undef=.pointer (some ⟨b2,0,none⟩):=by simpa using hq
 have hl1:(loadVar 3 ⟨b1,0,none⟩).run Tryz.prog w=.ok u w:=by
  simp [loadVar,isAgg,go_sem,run_underlying Tryz.underlying3,h1]
 have hl2:(loadVar 41 ⟨b2,0,none⟩).run Tryz.prog w=.ok v w:=by
  simp [loadVar,isAgg,go_sem,run_underlying Tryz.underlying41,h2]
 simp [results,h,hp',hq',asAddr,hl1,hl2]
theorem qeN (p m:Int) (mod:List Int) (A:Option Addr) (c:Nat) (w:World) (hA:IntsAt w w.heap.size A mod) (hl:mod.length<=9223372036854775807) :
 Calls Tryz.prog 72 #[.agg #[.int .i64 p,.int .i64 m,.slice A mod.length c]] w fun e w'=>((fieldOK p m mod=false/\e=.returned (.tuple #[.pointer none,.int .i64 1]))\/(fieldOK p m mod=true/\∃ gb,e=.returned (.tuple #[.pointer (some ⟨gb,0,none⟩),.int .i64 0])/\w.heap.size<=gb/\GFM w' w'.heap.size gb p.toNat m.toNat mod (lOf p m mod) (logL (lOf p m mod) (p.toNat ^ m.toNat))))/\Below w.heap.size w w':=by
 cases hok:fieldOK p m mod
 . exact (fnew_no p m mod A c w hA hl hok).mono fun e w' ⟨h1,h2⟩=>⟨.inl ⟨rfl,h1⟩,h2⟩
 . exact (fnew_any p m mod A c w hA hok).mono fun e w' ⟨h1,h2⟩=>⟨.inr ⟨rfl,h1⟩,h2⟩
def RootOk (p m:Int) (mod:List Int) (n x:Int):Prop:=fieldOK p m mod=true/\∃ x':Nat,x=(x':Int)/\x'<p.toNat ^ m.toNat/\x'≠0/\n=((ordT (logL (lOf p m mod) (p.toNat ^ m.toNat)) (p.toNat ^ m.toNat) x':Nat):Int)
def RootPost (w:World) (p m:Int) (mod:List Int) (n:Int) (e:Ending) (w':World):Prop :=
 (∃ x z:Int,e=.returned (.tuple #[.int .i64 x,.int .i64 z])/\(z=0->RootOk p m mod n x))/\Below w.heap.size w w'
structure Bx4 (w:World) (fs:List Value) (n x z:Int) (W:World):Prop where
 k2:W.heap[w.heap.size]?=some (.cells fs.toArray 29 (0,0))
 k3:W.heap[w.heap.size+1]?=some (.cells #[.int .i64 n] 3 (0,0))
 k4:W.heap[w.heap.size+1+1]?=some (.cells #[.int .i64 x] 3 (0,0))
 k5:W.heap[w.heap.size+1+1+1]?=some (.cells #[.int .i64 z] 41 (0,0))
 low:Below w.heap.size w W
section
variable {w:World} {fs:List Value} {n x z:Int} {W W':World}
theorem Bx4.lt (h:Bx4 w fs n x z W):w.heap.size+1+1+1<W.heap.size:=qbE h.k5
theorem Bx4.grow (h:Bx4 w fs n x z W) (hb:Below W.heap.size W W'):Bx4 w fs n x z W':=by
 have hl:=h.lt
 exact ⟨(hb.block _ (by omega)).trans h.k2,(hb.block _ (by omega)).trans h.k3,(hb.block _ (by omega)).trans h.k4,(hb.block _ (by omega)).trans h.k5,h.low.trans (hb.mono (by omega))⟩
theorem Bx4.set (h:Bx4 w fs n x z W) (x' z':Int):Bx4 w fs n x' z' ((W.setCell ⟨w.heap.size+1+1,0,none⟩ (.int .i64 x')).setCell ⟨w.heap.size+1+1+1,0,none⟩ (.int .i64 z')):=by
 have hk4:((W.setCell ⟨w.heap.size+1+1,0,none⟩ (.int .i64 x')).heap[w.heap.size+1+1]?)=some (.cells #[.int .i64 x'] 3 (0,0)):=qaT h.k4 0 _
 have hk5:((W.setCell ⟨w.heap.size+1+1,0,none⟩ (.int .i64 x')).heap[w.heap.size+1+1+1]?)=some (.cells #[.int .i64 z] 41 (0,0)):=(Below.heap_setCell W ⟨w.heap.size+1+1,0,none⟩ _ _ (by show w.heap.size+1+1+1≠w.heap.size+1+1;omega)).trans h.k5
 refine ⟨?_,?_,?_,qaT hk5 0 _,?_⟩
 . exact (Below.heap_setCell _ ⟨w.heap.size+1+1+1,0,none⟩ _ _ (by show w.heap.size≠w.heap.size+1+1+1;omega)).trans ((Below.heap_setCell W ⟨w.heap.size+1+1,0,none⟩ _ _ (by show w.heap.size≠w.heap.size+1+1;omega)).trans h.k2)
 . exact (Below.heap_setCell _ ⟨w.heap.size+1+1+1,0,none⟩ _ _ (by show w.heap.size+1≠w.heap.size+1+1+1;omega)).trans ((Below.heap_setCell W ⟨w.heap.size+1+1,0,none⟩ _ _ (by show w.heap.size+1≠w.heap.size+1+1;omega)).trans h.k3)
 . exact (Below.heap_setCell _ ⟨w.heap.size+1+1+1,0,none⟩ _ _ (by show w.heap.size+1+1≠w.heap.size+1+1+1;omega)).trans hk4
 . exact (h.low.setCell (p:=⟨w.heap.size+1+1,0,none⟩) (by show w.heap.size<=w.heap.size+1+1;omega) _).setCell (p:=⟨w.heap.size+1+1+1,0,none⟩) (by show w.heap.size<=w.heap.size+1+1+1;omega) _
theorem Bx4.own {B:Nat} {row:Option Nat} (h:Bx4 w fs n x z W) (hB:w.heap.size<=B) (hg:W.grownBy W' row) (hr:∀ r,row=some r->B<=r/\∃ o:Obj,W.heap[r]?=some o/\o.isCells=false):Bx4 w fs n x z W' :=
 ⟨(hg.block _ (qbE h.k2) (fun e=>rowNe hr h.k2 e.symm)).trans h.k2,(hg.block _ (qbE h.k3) (fun e=>rowNe hr h.k3 e.symm)).trans h.k3,(hg.block _ (qbE h.k4) (fun e=>rowNe hr h.k4 e.symm)).trans h.k4,(hg.block _ (qbE h.k5) (fun e=>rowNe hr h.k5 e.symm)).trans h.k5,h.low.grown hg h.low.size (fun k e=>Nat.le_trans hB (hr k e).1)⟩
theorem Bx4.put (h:Bx4 w fs n x z W) {D:Nat} (hD:w.heap.size+1+1+1<D) (o:Obj):Bx4 w fs n x z (W.putObj D o) :=
 ⟨(World.putObj_heap_other (by omega)).trans h.k2,(World.putObj_heap_other (by omega)).trans h.k3,(World.putObj_heap_other (by omega)).trans h.k4,(World.putObj_heap_other (by omega)).trans h.k5,qcC h.low (by omega) o⟩
theorem Bx4.res (h:Bx4 w fs n x z W) {fn:Func} {p q:Tmp} (hf:fn.results=#[.cell p 3,.cell q 41]) {tmps:Array Value} (hp:tmps.getD p undef=.pointer (some ⟨w.heap.size+1+1,0,none⟩)) (hq:tmps.getD q undef=.pointer (some ⟨w.heap.size+1+1+1,0,none⟩)):(results fn tmps).run Tryz.prog W=.ok (.tuple #[.int .i64 x,.int .i64 z]) W :=
 results_cells2 hf tmps W _ _ _ _ hp hq (cell_of_row _ _ 0 _ _ _ h.k4) (cell_of_row _ _ 0 _ _ _ h.k5)
theorem bx4_new (w:World) (fs:List Value) (n:Int):Bx4 w fs n 0 0 ((((w.alloc (.cells fs.toArray 29)).alloc (.cells #[.int .i64 n] 3)).alloc (.cells #[.int .i64 0] 3)).alloc (.cells #[.int .i64 0] 41)):=by
 refine ⟨?_,?_,?_,qbM (by simp) _,?_⟩
 . exact (heap_alloc_old _ _ (by simp;omega)).trans ((heap_alloc_old _ _ (by simp;omega)).trans ((heap_alloc_old _ _ (by simp)).trans (heap_alloc_new _ _)))
 . exact (heap_alloc_old _ _ (by simp)).trans ((heap_alloc_old _ _ (by simp)).trans (qbM (by simp) _))
 . exact (heap_alloc_old _ _ (by simp)).trans (qbM (by simp) _)
 . exact ((((Below.refl _ _).alloc (Nat.le_refl _) _).alloc (by simp) _).alloc (by simp;omega) _).alloc (by simp;omega) _
end
structure RotI (w:World) (fs:List Value) (n:Int) (B6 gb:Nat) (w2 W:World):Prop where
 bx:Bx4 w fs n 0 0 W
 b6:W.heap[B6]?=some (.cells #[.pointer (some ⟨gb,0,none⟩)] 100 (0,0))
 low:Below w2.heap.size w2 W
theorem RotI.own {w:World} {fs:List Value} {n:Int} {B6 gb:Nat} {w2:World} {β:Type} (hB:w.heap.size<=w2.heap.size):OwnFrom w2.heap.size (fun (_:β) W=>RotI w fs n B6 gb w2 W):=fun _ _ _ _ h hg hr =>
 ⟨h.bx.own hB hg hr,(hg.block _ (qbE h.b6) (fun e=>rowNe hr h.b6 e.symm)).trans h.b6,h.low.grown hg h.low.size (fun k e=>(hr k e).1)⟩
theorem RotI.drewN {w:World} {fs:List Value} {n:Int} {B6 gb:Nat} {w2 W:World} (h:RotI w fs n B6 gb w2 W) (k:Nat):RotI w fs n B6 gb w2 (W.drewN k) :=
 ⟨⟨h.bx.k2,h.bx.k3,h.bx.k4,h.bx.k5,qaA h.bx.low k⟩,h.b6,qaA h.low k⟩
def RotX (w:World) (fs:List Value) (n:Int) (ord:Nat->Nat) (q:Nat) (c:Code) (W:World):Prop:=c=.ret/\∃ x:Nat,x<q/\x≠0/\n=((ord x:Nat):Int)/\Bx4 w fs n (x:Int) 0 W
theorem RotX.own {w:World} {fs:List Value} {n:Int} {ord:Nat->Nat} {q:Nat} {β:Type} {B:Nat} (hB:w.heap.size<=B) (c:Code):OwnFrom B (fun (_:β) W=>RotX w fs n ord q c W):=fun s W W' row h hg hr=>by
 obtain ⟨h1,x,h2,h3,h4,h5⟩:=h
 exact ⟨h1,x,h2,h3,h4,h5.own hB hg hr⟩
set_option maxHeartbeats 4000000 in
set_option maxRecDepth 100000 in
theorem root_c (p m:Int) (mod:List Int) (A:Option Addr) (c:Nat) (n:Int) (w:World) (hA:IntsAt w w.heap.size A mod) (hl:mod.length<=9223372036854775807) :
 Calls Tryz.prog 161 #[.agg #[.int .i64 p,.int .i64 m,.slice A mod.length c],.int .i64 n] w (RootPost w p m mod n):=by
 have HN:Hid (∀ W,Below w.heap.size w W->Calls Tryz.prog 72 #[.agg #[.int .i64 p,.int .i64 m,.slice A mod.length c]] W fun e w'=>((fieldOK p m mod=false/\e=.returned (.tuple #[.pointer none,.int .i64 1]))\/(fieldOK p m mod=true/\∃ gb,e=.returned (.tuple #[.pointer (some ⟨gb,0,none⟩),.int .i64 0])/\W.heap.size<=gb/\GFM w' w'.heap.size gb p.toNat m.toNat mod (lOf p m mod) (logL (lOf p m mod) (p.toNat ^ m.toNat))))/\Below W.heap.size W w'):=fun W hW =>
  qeN p m mod A c W ((hA.keep hW).more hW.size) hl
 clear hA
 refine (callsIn_wide (n:=3)).1 (callsIn_of_wp_marks Tryz.func161 rfl trivial (wpIn_wide.2 ?_))
 simp only [Tryz.ntmps161,List.size_toArray,List.length_cons,List.length_nil,Nat.reduceAdd,Nat.reduceSub,Array.replicate_succ,Array.replicate_zero,List.push_toArray,List.append_toArray,List.nil_append,List.cons_append]
 have HX:=Lib.hid (bx4_new w [.int .i64 p,.int .i64 m,.slice A mod.length c] n)
 go_upto_region 1 with fail
 generalize (((w.alloc (.cells #[.int .i64 p,.int .i64 m,.slice A mod.length c] 29)).alloc (.cells #[.int .i64 n] 3)).alloc (.cells #[.int .i64 0] 3)).alloc (.cells #[.int .i64 0] 41)=W0 at *
 have HRG:Hid (W0.rangeAt w.heap.size 0 [.int .i64 p,.int .i64 m,.slice A mod.length c]):=qaC HX.out.k2
 have HN1:=Lib.hid (HN.out W0 HX.out.low)
 go_wp2_with (refine wpList_load_mid rfl 29 (.tmp 2) rfl w.heap.size 0 rfl [.int .i64 p,.int .i64 m,.slice A mod.length c] _ HRG.out Tryz.underlying29 rfl fieldSize ?_)
 (with_reducible refine HN1.out.mono ?_)
 rintro e w1 ⟨hcase,hb1⟩
 have HX1:=Lib.hid (HX.out.grow hb1)
 clear hb1 HX HRG HN1 HN
 rcases hcase with ⟨hok,rfl⟩ | ⟨hok,gb,rfl,hgl,hg⟩
 . go_upto_region 3 with fail
   have HX2:=Lib.hid (HX1.out.grow ((Below.refl _ _).alloc (Nat.le_refl _) (.cells #[.pointer none] 100)))
   generalize w1.alloc (.cells #[.pointer none] 100)=w2 at *
   have y4:w2.cell? ⟨w.heap.size+1+1,0,none⟩=some (.int .i64 0):=cell_of_row _ _ 0 _ _ _ HX2.out.k4
   have y5:w2.cell? ⟨w.heap.size+1+1+1,0,none⟩=some (.int .i64 0):=cell_of_row _ _ 0 _ _ _ HX2.out.k5
   have f4:w2.frozen? ⟨w.heap.size+1+1,0,none⟩=false:=by simp [World.frozen?,HX2.out.k4]
   have f5:w2.frozen? ⟨w.heap.size+1+1+1,0,none⟩=false:=by simp [World.frozen?,HX2.out.k5]
   have HX3:=Lib.hid (HX2.out.set 0 1)
   clear HX1 HX2
   go_wp2_with fail
   exact ⟨_,HX3.out.res rfl rfl rfl,⟨_,_,rfl,fun h=>by cases h⟩,HX3.out.low⟩
 . have hq2 := (qaW hok).small.q
   have HG:=Lib.hid hg.gf
   have hgb:gb<w1.heap.size:=hg.1
   have HMO:Hid (∀ W x,Below w1.heap.size w1 W->x<p.toNat ^ m.toNat->Calls Tryz.prog 207 #[.pointer (some ⟨gb,0,none⟩),.int .i64 (x:Int)] W (Quiet (.tuple #[.int .i64 ((if x=0 then 0 else ordT (logL (lOf p m mod) (p.toNat ^ m.toNat)) (p.toNat ^ m.toNat) x:Nat):Int),.int .i64 (if x=0 then 7 else 0)]) W)):=fun W x hW hx=>mulorder_c x gb _ _ w1.heap.size _ _ W (qaW hok) (HG.out.keep hW) hx
   have HO:Hid (w1.cell? ⟨gb,3,none⟩=some (.int .i64 ((p.toNat ^ m.toNat:Nat):Int))):=by
    obtain ⟨_,_,_,_,_,_,_,_,h3,_,_,_,_⟩:=HG.out.cells
    exact h3
   have HOK:Hid (∀ x:Nat,x<p.toNat ^ m.toNat->x≠0->n=((ordT (logL (lOf p m mod) (p.toNat ^ m.toNat)) (p.toNat ^ m.toNat) x:Nat):Int)->RootOk p m mod n (x:Int)):=fun x h1 h2 h3=>⟨hok,x,rfl,h1,h2,h3⟩
   clear hg hok HG hgl
   generalize logL (lOf p m mod) (p.toNat ^ m.toNat)=lg at *
   generalize p.toNat ^ m.toNat=q at *
   go_upto_region 4 with fail
   have hba:Below w1.heap.size w1 (w1.alloc (.cells #[.pointer (some ⟨gb,0,none⟩)] 100)):=(Below.refl _ _).alloc (Nat.le_refl _) _
   have HX2:=Lib.hid (HX1.out.grow hba)
   have HK6:Hid ((w1.alloc (.cells #[.pointer (some ⟨gb,0,none⟩)] 100)).heap[w1.heap.size]?=some (.cells #[.pointer (some ⟨gb,0,none⟩)] 100 (0,0))):=heap_alloc_new _ _
   have HB2:=Lib.hid hba
   have hs6:w1.heap.size<(w1.alloc (.cells #[.pointer (some ⟨gb,0,none⟩)] 100)).heap.size:=by simp
   have hws1:w.heap.size+1+1+1<w1.heap.size:=HX1.out.lt
   clear hba HX1
   generalize w1.alloc (.cells #[.pointer (some ⟨gb,0,none⟩)] 100)=w2 at *
   have y3:w2.cell? ⟨w.heap.size+1,0,none⟩=some (.int .i64 n):=cell_of_row _ _ 0 _ _ _ HX2.out.k3
   by_cases hn:n<1\/64<n
   . have y4 : w2.cell? ⟨w.heap.size + 1 + 1,0,none⟩ = some (.int .i64 0) := cell_of_row _ _ 0 _ _ _ HX2.out.k4
     have y5:w2.cell? ⟨w.heap.size+1+1+1,0,none⟩=some (.int .i64 0):=cell_of_row _ _ 0 _ _ _ HX2.out.k5
     have f4:w2.frozen? ⟨w.heap.size+1+1,0,none⟩=false:=by simp [World.frozen?,HX2.out.k4]
     have f5:w2.frozen? ⟨w.heap.size+1+1+1,0,none⟩=false:=by simp [World.frozen?,HX2.out.k5]
     have HX3:=Lib.hid (HX2.out.set 0 4)
     clear HX2 HMO HO HOK
     by_cases hn1:n<1
     . go_wp2_with fail
       exact ⟨_,HX3.out.res rfl rfl rfl,⟨_,_,rfl,fun h=>by cases h⟩,HX3.out.low⟩
     . have hn2 : 64 < n := by omega
       go_wp2_with fail
       exact ⟨_,HX3.out.res rfl rfl rfl,⟨_,_,rfl,fun h=>by cases h⟩,HX3.out.low⟩
   have hn1:¬ n<1:=by omega
   have hn2:¬ 64<n:=by omega
   have y6:w2.cell? ⟨w1.heap.size,0,none⟩=some (.pointer (some ⟨gb,0,none⟩)):=cell_of_row _ _ 0 _ _ _ HK6.out
   have HEL:=Lib.hid (elements_f (.pointer (some ⟨gb,0,none⟩)) w2 (.inr ⟨gb,rfl⟩))
   go_wp2_with fail
   (with_reducible refine HEL.out.mono ?_)
   rintro e w4 ⟨rfl,hw4⟩
   have hb4:Below w2.heap.size w2 w4:=by rw [hw4];exact (Below.refl _ _).alloc (Nat.le_refl _) _
   have HK8:Hid (w4.cell? ⟨w2.heap.size,0,none⟩=some (.pointer (some ⟨gb,0,none⟩))):=by rw [hw4];exact cell_of_row _ _ 0 _ _ _ (heap_alloc_new _ _)
   have hs5:w2.heap.size<w4.heap.size:=by rw [hw4];simp
   have HI0:Hid (RotI w [.int .i64 p,.int .i64 m,.slice A mod.length c] n w1.heap.size gb w4 w4):=⟨HX2.out.grow hb4,(hb4.block _ hs6).trans HK6.out,Below.refl _ _⟩
   have HB4:Hid (Below w1.heap.size w1 w4):=HB2.out.trans (hb4.mono (by omega))
   have HO4:Hid (w4.cell? ⟨gb,3,none⟩=some (.int .i64 (q:Int))):=(HB4.out.cell (p:=⟨gb,3,none⟩) hgb).trans HO.out
   clear hw4 hb4 HEL y3 y6 HX2 HK6 HB2 HO hn
   have hw4w:w.heap.size<=w4.heap.size:=by omega
   generalize w2.heap.size=B8 at *
   clear w2
   go_upto_region 7 with fail
   refine (wpIn_wide (n:=3)).1 (wpIn_rangeFunc_ownF (F:=Fence.wide) (n:=3) (P:=Tryz.prog) (α:=Elt q) (w:=w4) (gf:=236) (lb:=#[.pointer (some ⟨B8,0,none⟩)]) rfl (by omega) rfl trivial (enters_of Tryz.func236 (by kernel_rfl) rfl)
    (encs:=eltV q) (Kp:=fun _ _=>True) (S:=fun _=>True) (Sp:=fun _=>True) (N:=q) (w0:=w4) (elems_stops q B8 gb hq2 w4 hs5 (by omega) HK8.out HO4.out) (fun _ _=>trivial) (fun _ _ _ _ _ _ _ _=>trivial) (Below.refl _ _) (fun _=>rfl)
    (fun _ W=>RotI w [.int .i64 p,.int .i64 m,.slice A mod.length c] n w1.heap.size gb w4 W) (fun cc _ W=>RotX w [.int .i64 p,.int .i64 m,.slice A mod.length c] n (ordT lg q) q cc W) (RotI.own hw4w) (fun cc=>RotX.own hw4w cc) HI0.out (fun x=>{ tmps:=#[.agg #[.int .i64 p,.int .i64 m,.slice A mod.length c],.int .i64 n,.pointer (some ⟨w.heap.size,0,none⟩),.pointer (some ⟨w.heap.size+1,0,none⟩),.pointer (some ⟨w.heap.size+1+1,0,none⟩),.pointer (some ⟨w.heap.size+1+1+1,0,none⟩),.pointer (some ⟨w1.heap.size,0,none⟩),.int .i64 0,.int .i64 (x.1:Int),undef,undef,.tuple #[.pointer (some ⟨gb,0,none⟩),.int .i64 0],.agg #[.int .i64 p,.int .i64 m,.slice A mod.length c],.tuple #[.pointer (some ⟨gb,0,none⟩),.int .i64 0],.pointer (some ⟨gb,0,none⟩),.int .i64 0,.int .i64 0,.bool false,undef,.int .i64 n,.bool false,.bool false,.int .i64 n,.bool false,.bool false,.pointer (some ⟨gb,0,none⟩),.func (.func 236) #[] #[.pointer (some ⟨B8,0,none⟩)],.int .i64 (x.1:Int),undef,undef,undef,undef,undef,undef,undef,undef,undef,undef,undef,undef,undef,undef],defers:=[] }) ?assign ?body ?done ?stop)
   case assign =>
    intro l x W K hK
    have hsem:∀ (ρ:Operand->Value) (o:Oper),(∀ c,o.op≠.defer c)->Oper.semAt (some l) ρ o=execOp ρ o:=fun ρ o h=>Oper.semAt_some l ρ o h
    simp only [eltV]
    gi_wp2
    exact hK
   case body =>
    intro l pre x W hi hlen
    have hsem:∀ (ρ:Operand->Value) (o:Oper),(∀ c,o.op≠.defer c)->Oper.semAt (some l) ρ o=execOp ρ o:=fun ρ o h=>Oper.semAt_some l ρ o h
    obtain ⟨x,hx⟩:=x
    have HC:=Lib.hid (HMO.out W x (HB4.out.trans (hi.low.mono (by omega))) hx)
    have HI:=Lib.hid hi
    have b6:W.cell? ⟨w1.heap.size,0,none⟩=some (.pointer (some ⟨gb,0,none⟩)):=cell_of_row _ _ 0 _ _ _ hi.b6
    clear hi HMO HO4 HI0 HK8 HOK HB4
    by_cases hx0:x=0
    . rw [if_pos hx0,if_pos hx0] at HC
      clear hx0
      gi_wp2
      (try refine ⟨trivial,?_⟩)
      refine (CallsIn.inRound l (callsIn_wide.2 HC.out)).mono ?_
      rintro e W1 ⟨rfl,k,rfl⟩
      have HI1:=Lib.hid (HI.out.drewN k)
      have HKO:Hid (KeepsOthers W (W.drewN k)):=qcP W k
      clear HI HC b6
      generalize W.drewN k=W1 at *
      gi_wp2
      exact ⟨HKO.out,trivial,HI1.out⟩
    . rw [if_neg hx0,if_neg hx0] at HC
      have HX0:=Lib.hid hx0
      clear hx0
      gi_wp2
      (try refine ⟨trivial,?_⟩)
      refine (CallsIn.inRound l (callsIn_wide.2 HC.out)).mono ?_
      rintro e W1 ⟨rfl,k,rfl⟩
      have HI1:=Lib.hid (HI.out.drewN k)
      have HKO:Hid (KeepsOthers W (W.drewN k)):=qcP W k
      clear HI HC b6
      generalize W.drewN k=W1 at *
      have y3:W1.cell? ⟨w.heap.size+1,0,none⟩=some (.int .i64 n):=cell_of_row _ _ 0 _ _ _ HI1.out.bx.k3
      obtain ⟨o,ho⟩:∃ o,ordT lg q x=o:=⟨_,rfl⟩
      have HOR:=Lib.hid ho
      rw [ho]
      by_cases hno:n=(o:Int)
      . subst hno
        have y4:W1.cell? ⟨w.heap.size+1+1,0,none⟩=some (.int .i64 0):=cell_of_row _ _ 0 _ _ _ HI1.out.bx.k4
        have y5:W1.cell? ⟨w.heap.size+1+1+1,0,none⟩=some (.int .i64 0):=cell_of_row _ _ 0 _ _ _ HI1.out.bx.k5
        have f4:W1.frozen? ⟨w.heap.size+1+1,0,none⟩=false:=by simp [World.frozen?,HI1.out.bx.k4]
        have f5:W1.frozen? ⟨w.heap.size+1+1+1,0,none⟩=false:=by simp [World.frozen?,HI1.out.bx.k5]
        have HX3:=Lib.hid (HI1.out.bx.set (x:Int) 0)
        gi_wp2
        exact ⟨HKO.out.trans ((KeepsOthers.setCell _ _ _).trans (KeepsOthers.setCell _ _ _)),rfl,x,hx,HX0.out,by rw [HOR.out],HX3.out⟩
      . have hnb : ((o : Int) == n) = false := beq_false_of_ne (fun e => hno e.symm)
        gi_wp2
        exact ⟨HKO.out,trivial,HI1.out⟩
   case done =>
    intro D xs W hD _ hi hd
    have y4:W.cell? ⟨w.heap.size+1+1,0,none⟩=some (.int .i64 0):=cell_of_row _ _ 0 _ _ _ hi.bx.k4
    have y5:W.cell? ⟨w.heap.size+1+1+1,0,none⟩=some (.int .i64 0):=cell_of_row _ _ 0 _ _ _ hi.bx.k5
    have f4:W.frozen? ⟨w.heap.size+1+1,0,none⟩=false:=by simp [World.frozen?,hi.bx.k4]
    have f5:W.frozen? ⟨w.heap.size+1+1+1,0,none⟩=false:=by simp [World.frozen?,hi.bx.k5]
    have hd2:((W.setCell ⟨w.heap.size+1+1,0,none⟩ (.int .i64 0)).setCell ⟨w.heap.size+1+1+1,0,none⟩ (.int .i64 11)).heap[D]?=some (.deferred (some [])):=(Below.heap_setCell _ ⟨w.heap.size+1+1+1,0,none⟩ _ _ (by show D≠w.heap.size+1+1+1;omega)).trans ((Below.heap_setCell W ⟨w.heap.size+1+1,0,none⟩ _ _ (by show D≠w.heap.size+1+1;omega)).trans hd)
    have HX3:=Lib.hid ((hi.bx.set 0 11).put (D:=D) (by omega) (.deferred none))
    clear hi HMO HO4 HI0 HK8 HOK HB4 hd
    go_wp2_with fail
    refine ⟨by simp,.inl ⟨_,_,rfl,run_takeDeferred hd2,?_⟩⟩
    exact ⟨_,HX3.out.res rfl rfl rfl,⟨_,_,rfl,fun h=>by cases h⟩,HX3.out.low⟩
   case stop =>
    rintro D cc pre W hD _ ⟨rfl,x,h1,h2,h3,h4⟩ hd
    have HX3:=Lib.hid (h4.put (D:=D) (by omega) (.deferred none))
    have HR:=Lib.hid (HOK.out x h1 h2 h3)
    clear h4 HMO HO4 HI0 HK8 HOK HB4
    gi_wp2
    refine ⟨by simp,.inl ⟨_,_,rfl,run_takeDeferred hd,?_⟩⟩
    exact ⟨_,HX3.out.res rfl rfl rfl,⟨_,_,rfl,fun _=>HR.out⟩,HX3.out.low⟩
end Go.Proofs.YtlmglaonldlanaaGreat
namespace Go.Proofs.YtlmglaonldlanaaGreat
open Go.RowKit Pln
theorem gorder_c (gb B p m:Nat) (l lg:List Nat) (w:World) (hG:GFAt w B gb p m l lg) :
 Calls Tryz.prog 120 #[.pointer (some ⟨gb,0,none⟩)] w fun e w'=>e=.returned (.int .i64 ((p ^ m:Nat):Int))/\w=w':=by
 obtain ⟨_,_,_,_,_,_,_,_,h3,_,_,_,_⟩:=hG.cells
 generalize p ^ m=q at *
 clear hG
 go_enter Tryz.func120,Tryz.ntmps120
 go_wp2_with fail
 go_ret
 exact ⟨rfl,rfl⟩
set_option maxHeartbeats 1000000 in
set_option maxRecDepth 100000 in
theorem digits_c (x gb p m B:Nat) (l lg:List Nat) (w:World) (hS:Small p m) (hG:GFAt w B gb p m l lg) (hB:B<=w.heap.size) (hx:x<p ^ m) :
 Calls Tryz.prog 205 #[.pointer (some ⟨gb,0,none⟩),.int .i64 x] w fun e w'=>(∃ g,e=.returned (.slice (some ⟨g,0,none⟩) m m)/\Row w' w.heap.size g m (nz (digs p m x)))/\Below w.heap.size w w':=by
 have HIN:Hid (∀ W,LSt w W->Calls Tryz.prog 158 #[.pointer (some ⟨gb,0,none⟩),.int .i64 x] W fun e w'=>e=.returned (.int .i64 x)/\W=w'):=fun W hW=>in_c x gb p m B l lg W (hG.keep (Below.mono hW hB)) hx
 have HCV:Hid (∀ W,LSt w W->W.cell? ⟨gb,0,none⟩=some (.int .i64 (p:Int))/\W.cell? ⟨gb,1,none⟩=some (.int .i64 (m:Int))):=fun W hW=>by
  obtain ⟨_,A3,n3,c3,ge,ce,gl,cl,h1,_,_⟩:=hG.keep (Below.mono hW hB)
  exact ⟨cell_of_row _ _ 0 _ _ _ h1,cell_of_row _ _ 1 _ _ _ h1⟩
 have hq:=hS.q
 have hp1:=hS.p1
 have hp2:=hS.p2
 have hm2:=hS.m2
 have HDG:Hid (∀ W:World,Calls Tryz.prog 199 #[.int .i64 x,.int .i64 p,.int .i64 m] W fun e w'=>e=.returned (.slice (some ⟨W.heap.size,0,none⟩) m m)/\Row w' W.heap.size W.heap.size m (nz (digs p m x))/\Below W.heap.size W w'):=fun W=>qdX x p m W (by omega) (by omega) (by omega) (by omega)
 have HS0:Hid (LSt w w.drew):=(Below.refl _ _).drew
 clear hG hS
 go_enter Tryz.func205,Tryz.ntmps205
 go_upto_region 1 with fail
 refine qbL 14 (LSt w) [(true,0),(true,1),(true,3),(true,4),(true,5),(true,6),(true,7),(true,8),(true,9),(true,10),(true,11),(true,12),(false,2),(false,13)] default (by kernel_rfl) (by kernel_rfl) (fun _ _ d _ _ h=>by cases d <;> exact h) HS0.out ?_
 have HI1:=Lib.hid (HIN.out w.drew HS0.out)
 generalize w.drew=W1 at *
 simp only [List.map_cons,List.map_nil,List.getD_cons_zero,List.getD_cons_succ]
 iterate 12
  apply qdA rfl
  . intro W hW
    obtain ⟨z0,z1⟩:=HCV.out W hW
    go_simp
    rfl
  go_simp
 apply qdB rfl
 . go_simp
   exact ⟨rfl,rfl⟩
 with_reducible refine HI1.out.mono ?_
 rintro e w' ⟨rfl,rfl⟩
 refine ⟨_,rfl,HS0.out,?_⟩
 go_simp
 apply qdB rfl
 . go_simp
   exact ⟨rfl,rfl⟩
 have HD1:=Lib.hid (HDG.out W1)
 with_reducible refine HD1.out.mono ?_
 rintro e w2 ⟨rfl,hrow,hb⟩
 have HB2:Hid (LSt w w2):=Below.trans HS0.out (hb.mono (Below.size HS0.out))
 have HR2:=Lib.hid (hrow.base (Below.size HS0.out))
 refine ⟨_,rfl,HB2.out,?_⟩
 go_simp
 refine qeU ?_
 clear hrow hb HD1 HI1 HDG HIN HCV
 go_wp2_with fail
 go_ret
 exact ⟨⟨_,rfl,HR2.out⟩,HB2.out⟩
theorem qeH {P:Program} {ops:Array Oper} {rest:List Oper} {o:Oper} {a:Act} {w:World} {Q:Exit->Act->World->Prop} (hgd:o.guard=none) (s x:Operand) (t:TypeId) (ho:o.op=.call { callee:=.builtin .append,args:=#[s,x],argTypes:=#[t,t] }) {v1 v2 v:Value} {w':World} (hs:a.eval s=v1) (hx:a.eval x=v2)
 (hr:(Builtin.append_ #[t,t] o.type #[v1,v2]).run P w=.ok v w') (h:wpList P ops Q rest (a.put o.dst v) w'):wpList P ops Q (o :: rest) a w :=
 wpList_plain hgd fun K hK=>by
  unfold Oper.wp execOp
  simp only [ho,resolve,invoke,builtin,Sem.run_bind,Sem.run_pure,Result.andThen_ok,List.map_toArray,List.map_cons,List.map_nil,hs,hx,hr]
  exact hK _ _ h
def pwN (O:Ops) (r:Nat):Nat->Nat
 | 0=>1
 | k+1=>O.mul (pwN O r k) r
def pwL (O:Ops) (r n:Nat):List Nat:=(List.range n).map (pwN O r)
theorem qdT (O:Ops) (r n:Nat):(pwL O r n).length=n:=by simp [pwL]
theorem pwL_succ (O:Ops) (r n:Nat):pwL O r (n+1)=pwL O r n++[pwN O r n]:=by simp [pwL,List.range_succ]
theorem pwL_at (O:Ops) (r n k:Nat) (h:k<n):(pwL O r n).getD k 0=pwN O r k:=by simp [pwL,List.getD,h]
theorem pwN_lt {O:Ops} {q r:Nat} (hm:∀ x y,x<q->y<q->O.mul x y<q) (h1:1<q) (hr:r<q):∀ k,pwN O r k<q
 | 0=>h1
 | k+1=>hm _ _ (pwN_lt hm h1 hr k) hr
def imN (O:Ops) (p m1 r x:Nat):Nat:=Dv.dotO O 0 (digs p m1 x) (pwL O r m1)
def EmbPost (w:World) (p1 m1:Int) (mod1:List Int) (p:Nat) (O:Ops) (q:Nat) (e:Ending) (w':World):Prop :=
 (∃ (A : Option Addr) (n c : Nat) (z : Int),e = .returned (.tuple #[.slice A n c,.int .i64 z]) /\ (z = 0 -> fieldOK p1 m1 mod1 = true /\ p1 = (p : Int) /\ n = p1.toNat ^ m1.toNat /\
   ∃ r,r<q/\(m1=1\/evN O (mdOf m1 mod1++[1]) r=0)/\IntsAt w' w'.heap.size A (nz ((List.range n).map (imN O p m1.toNat r)))))/\Below w.heap.size w w'
def RelEm (w:World) (f:Nat->Nat) (n go lo:Nat) (v82:Value) (wr:World):Prop :=
 ∃ k:Nat,k<=n/\v82=.int .i64 k/\Row wr lo go n (nz (scK f (List.range n) k))/\Below lo w wr
end Go.Proofs.YtlmglaonldlanaaGreat
