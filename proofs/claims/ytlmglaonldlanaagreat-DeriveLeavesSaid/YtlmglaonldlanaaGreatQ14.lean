/-
 matrix.open. matrix.Canonical.
-/
import Derived.Test.YtlmglaonldlanaaGreatQ13
namespace Go.Proofs.YtlmglaonldlanaaGreat
open Go.RowKit Pln
section
variable {P:Program}
theorem qaE {ops:Array Oper} {rest:List Oper} {o:Oper} {a:Act} {Q:Exit->Act->World->Prop} (hgd:o.guard=none) (ty:TypeId) (x y:Operand) (ho:o.op=.store ty x y)
 (w:World) (b:Nat) (t:TypeId) (c c':Array Value) (hx:a.eval x=.pointer (some ⟨b,0,none⟩)) (hy:a.eval y=.agg c') (hb:w.heap[b]?=some (.cells c t (0,0)))
 (hi:(P.info? ty).map (·.size)=some c'.size) (hs:c.size=c'.size) (h1:c'.all (·.oneCell')=true)
 (h:wpList P ops Q rest (a.put o.dst undef) (w.setRow b c')):wpList P ops Q (o :: rest) a w :=
 wpList_plain hgd fun _ hK=>by
  unfold Oper.wp execOp
  simp only [ho,hx,hy,Instr.storeAt,Instr.sureAddr,Sem.run_bind,Sem.run_pure,Result.andThen_ok,run_storeVar_row w b t ty c c' hb hi hs h1]
  exact hK _ _ h
end
theorem qcK {P:Program} {fn:Func} {p q r:Tmp} {ty:TypeId} (h:fn.results=#[.cell p ty,.tmp q,.tmp r]) (tmps:Array Value) (w:World) (g:Nat) (t:TypeId) (cs:Array Value) (fr:Nat × Nat) (d:TypeDesc) (u v:Value)
 (hp:tmps.getD p undef=.pointer (some ⟨g,0,none⟩)) (hq:tmps.getD q undef=u) (hr:tmps.getD r undef=v) (hg:w.heap[g]?=some (.cells cs t fr))
 (hu:P.underlying ty=some d) (hd:(match d with | .struct _ | .array _ _=>true | _=>false)=true) (hi:(P.info? ty).map (·.size)=some cs.size) :
 (results fn tmps).run P w=.ok (.tuple #[.agg cs,u,v]) w:=by
 have hp':tmps[p]?.getD undef=.pointer (some ⟨g,0,none⟩):=by simpa using hp
 have hq':tmps[q]?.getD undef=u:=by simpa using hq
 have hr':tmps[r]?.getD undef=v:=by simpa using hr
 simp [results,h,hp',hq',hr',asAddr,run_loadVar_row w g t ty cs fr d hg hu hd hi]
theorem qaP {P:Program} {fn:Func} {p q:Tmp} {ty:TypeId} (h:fn.results=#[.cell p ty,.tmp q]) (tmps:Array Value) (w:World) (g:Nat) (t:TypeId) (cs:Array Value) (fr:Nat × Nat) (d:TypeDesc) (u:Value)
 (hp:tmps.getD p undef=.pointer (some ⟨g,0,none⟩)) (hq:tmps.getD q undef=u) (hg:w.heap[g]?=some (.cells cs t fr))
 (hu:P.underlying ty=some d) (hd:(match d with | .struct _ | .array _ _=>true | _=>false)=true) (hi:(P.info? ty).map (·.size)=some cs.size) :
 (results fn tmps).run P w=.ok (.tuple #[.agg cs,u]) w:=by
 have hp':tmps[p]?.getD undef=.pointer (some ⟨g,0,none⟩):=by simpa using hp
 have hq':tmps[q]?.getD undef=u:=by simpa using hq
 simp [results,h,hp',hq',asAddr,run_loadVar_row w g t ty cs fr d hg hu hd hi]
theorem qbI (w:World) (b:Nat) (t:TypeId) (c c':Array Value) (hb:w.heap[b]?=some (.cells c t (0,0))):(w.setRow b c').heap[b]?=some (.cells c' t (0,0)):=by
 simp [World.setRow,Array.getElem?_modify,hb]
theorem matSize:(Tryz.prog.info? 54).map (·.size)=some 2:=by kernel_rfl
def lOf (p m:Int) (mod:List Int):List Nat:=genM (mulM p.toNat m.toNat (mdOf m mod)) (p.toNat ^ m.toNat)
def OpenPost (w:World) (p m:Int) (mod:List Int) (cols:Int) (zs:List (List Int)) (e:Ending) (w':World):Prop :=
 Below w.heap.size w w'/\((fieldOK p m mod=false/\e=.returned (.tuple #[.pointer none,.int .i64 1])) \/
  (fieldOK p m mod=true/\checkZ (p.toNat ^ m.toNat) cols zs≠0/\e=.returned (.tuple #[.pointer none,.int .i64 (checkZ (p.toNat ^ m.toNat) cols zs)])) \/
  (fieldOK p m mod=true/\checkZ (p.toNat ^ m.toNat) cols zs=0/\∃ gb,e=.returned (.tuple #[.pointer (some ⟨gb,0,none⟩),.int .i64 0])/\GFAt w' w'.heap.size gb p.toNat m.toNat (lOf p m mod) (logL (lOf p m mod) (p.toNat ^ m.toNat))))
def RelO (w1:World) (z:Int) (v20:Value) (wr:World):Prop:=∃ k:Nat,k<=1/\v20=.int .i64 k/\Below w1.heap.size w1 wr/\(k=1->z=0)
set_option maxHeartbeats 1000000 in
set_option maxRecDepth 100000 in
theorem open_c (p m:Int) (mod:List Int) (Am:Option Addr) (cm:Nat) (cols:Int) (zs:List (List Int)) (A:Option Addr) (c b cb:Nat) (w:World) (hM:IntsAt w w.heap.size Am mod) (hl:mod.length<=9223372036854775807)
 (hA:RowsAt w w.heap.size A zs) (hlz:zs.length<=9223372036854775807) (hb:w.heap[b]?=some (.cells #[.int .i64 cols,.slice A zs.length c] 54 (0,0))) :
 Calls Tryz.prog 193 #[.agg #[.int .i64 p,.int .i64 m,.slice Am mod.length cm],.slice (some ⟨b,0,none⟩) 1 cb] w (OpenPost w p m mod cols zs):=by
 have HB0:Hid (Below w.heap.size w (w.alloc (.cells #[.int .i64 p,.int .i64 m,.slice Am mod.length cm] 29))):=(Below.refl _ _).alloc (Nat.le_refl _) _
 have HS0:Hid (w.heap.size<=(w.alloc (.cells #[.int .i64 p,.int .i64 m,.slice Am mod.length cm] 29)).heap.size):=by show _<=_;simp
 have HM:=Lib.hid ((hM.keep HB0.out).more HS0.out)
 have HA:=Lib.hid hA
 have HBK:=Lib.hid hb
 have hbl:=qbE hb
 clear hM hA hb
 cases hok:fieldOK p m mod
 . have HC := Lib.hid (fnew_no p m mod Am cm _ HM.out hl hok)
   have HP:Hid (∀ e w',Below w.heap.size w w'->e=.returned (.tuple #[.pointer none,.int .i64 1])->OpenPost w p m mod cols zs e w'):=fun e w' h1 h2=>⟨h1,.inl ⟨hok,h2⟩⟩
   clear hok HM HA
   go_enter Tryz.func193,Tryz.ntmps193
   go_wp2_with fail
   generalize w.alloc (.cells #[.int .i64 p,.int .i64 m,.slice Am mod.length cm] 29)=W0 at *
   (with_reducible refine HC.out.mono ?_)
   rintro e w1 ⟨rfl,hb1⟩
   have HB1:=Lib.hid (HB0.out.trans (hb1.mono HS0.out))
   clear hb1
   go_wp2_with fail
   go_ret2
   exact HP.out _ _ HB1.out rfl
 . have HC := Lib.hid (fnew_ok p m mod Am cm _ HM.out hok)
   have HP1:Hid (∀ e w',Below w.heap.size w w'->checkZ (p.toNat ^ m.toNat) cols zs≠0->e=.returned (.tuple #[.pointer none,.int .i64 (checkZ (p.toNat ^ m.toNat) cols zs)])->OpenPost w p m mod cols zs e w'):=fun e w' h1 h2 h3=>⟨h1,.inr (.inl ⟨hok,h2,h3⟩)⟩
   have HP2:Hid (∀ gb e w',Below w.heap.size w w'->checkZ (p.toNat ^ m.toNat) cols zs=0->e=.returned (.tuple #[.pointer (some ⟨gb,0,none⟩),.int .i64 0])->GFAt w' w'.heap.size gb p.toNat m.toNat (lOf p m mod) (logL (lOf p m mod) (p.toNat ^ m.toNat))->OpenPost w p m mod cols zs e w'):=fun gb e w' h1 h2 h3 h4=>⟨h1,.inr (.inr ⟨hok,h2,gb,h3,h4⟩)⟩
   clear hok HM
   go_enter Tryz.func193,Tryz.ntmps193
   go_wp2_with fail
   generalize w.alloc (.cells #[.int .i64 p,.int .i64 m,.slice Am mod.length cm] 29)=W0 at *
   (with_reducible refine HC.out.mono ?_)
   rintro e w1 ⟨⟨gb,rfl,hgb0,hg⟩,hb1⟩
   have HB1:=Lib.hid (HB0.out.trans (hb1.mono HS0.out))
   have HG:Hid (GFAt w1 w1.heap.size gb p.toNat m.toNat (lOf p m mod) (logL (lOf p m mod) (p.toNat ^ m.toNat))):=hg
   have HA1:=Lib.hid ((HA.out.keep HB1.out).more HB1.out.size)
   have HBK1:=Lib.hid ((HB1.out.block b hbl).trans HBK.out)
   have hbl1:b<w1.heap.size:=Nat.lt_of_lt_of_le hbl HB1.out.size
   clear hb1 hg hgb0 HC HBK HA HB0 HS0 hbl
   clear W0
   go_wp2_with fail
   go_loopw [20] (fun v20 wr=>RelO w1 (checkZ (p.toNat ^ m.toNat) cols zs) v20 wr) (fun v20 _=>1-(intOf v20).toNat)
   case atStart=>exact ⟨0,by omega,rfl,Below.refl _ _,fun h=>by omega⟩
   case round =>
    obtain ⟨k,hk,rfl,hbr,hz⟩:=hrel
    have HBR:=Lib.hid hbr
    have HZ:=Lib.hid hz
    clear hbr hz
    by_cases hk0:k=0
    . subst hk0
      have HRG:Hid (wr.rangeAt b 0 [.int .i64 cols,.slice A zs.length c]):=qaC ((HBR.out.block b hbl1).trans HBK1.out)
      have HBA:Hid (Below w1.heap.size w1 (wr.alloc (.cells #[.int .i64 cols,.slice A zs.length c] 54))):=HBR.out.alloc HBR.out.size _
      have HCC:Hid (∀ W:World,Below w1.heap.size w1 W->Calls Tryz.prog 230 #[.pointer (some ⟨gb,0,none⟩),.agg #[.int .i64 cols,.slice A zs.length c]] W fun e w'=>e=.returned (.int .i64 (checkZ (p.toNat ^ m.toNat) cols zs))/\Below W.heap.size W w') :=
       fun W hW=>check_c gb p.toNat m.toNat w1.heap.size _ _ cols zs A c W (HG.out.keep hW) hW.size ((HA1.out.keep hW).more hW.size) hlz
      go_wp2_with (first | (refine wpList_load_mid rfl 54 (.tmp 22) rfl b 0 rfl [.int .i64 cols,.slice A zs.length c] _ HRG.out Tryz.underlying54 rfl matSize ?_) | (refine qaI rfl 54 (.tmp 9) (.tmp 23) rfl wr _ #[.int .i64 cols,.slice A zs.length c] rfl rfl matSize rfl (by simp [Value.oneCell']) ?_))
      (with_reducible refine (HCC.out _ HBA.out).mono ?_)
      rintro e w3 ⟨rfl,hb3⟩
      have HB3:=Lib.hid (HBA.out.trans (hb3.mono HBA.out.size))
      clear hb3 HBA HCC HRG
      by_cases hcz:checkZ (p.toNat ^ m.toNat) cols zs=0
      . have HCZ := Lib.hid hcz
        rw [hcz]
        clear hcz
        go_wp2_with fail
        go_roundw
        case rel=>exact ⟨1,by omega,by go_num,HB3.out,fun _=>HCZ.out⟩
        case measure=>simp [intOf]
      . have HCZ := Lib.hid hcz
        have hczb:(checkZ (p.toNat ^ m.toNat) cols zs != 0)=true:=by simp [hcz]
        clear hcz
        go_wp2_with fail
        go_ret2
        exact HP1.out _ _ (HB1.out.trans (HB3.out.mono HB1.out.size)) HCZ.out rfl
    . obtain rfl : k = 1 := by omega
      have HZ0:=Lib.hid (HZ.out rfl)
      go_wp2_with fail
      go_ret2
      exact HP2.out gb _ _ (HB1.out.trans (HBR.out.mono HB1.out.size)) HZ0.out rfl ((HG.out.keep HBR.out).more HBR.out.size)
end Go.Proofs.YtlmglaonldlanaaGreat
namespace Go.Proofs.YtlmglaonldlanaaGreat
open Go.RowKit Pln
def natR (zs:List (List Int)):List (List Nat):=zs.map (·.map Int.toNat)
theorem qeE (zs:List (List Int)):(natR zs).length=zs.length:=by simp [natR]
theorem qcT {q:Nat} {cols:Int} {zs:List (List Int)} (h:checkZ q cols zs=0):nzs (natR zs)=zs/\Grid q (natR zs).length cols.toNat (natR zs)/\0<=cols/\cols<=256/\zs.length<=256:=by
 unfold checkZ at h
 by_cases h1:cols<0\/256<cols\/256<zs.length
 . rw [if_pos h1] at h;cases h
 . rw [if_neg h1] at h
   by_cases h2:zs.all (fun r=>decide ((r.length:Int)=cols))=false
   . rw [if_pos h2] at h;cases h
   . rw [if_neg h2] at h
     by_cases h3:zs.all (elemsB q)=false
     . rw [if_pos h3] at h;cases h
     . have h2' := List.all_eq_true.1 ((Bool.not_eq_false _).mp h2)
       have h3':=List.all_eq_true.1 ((Bool.not_eq_false _).mp h3)
       have hin:∀ r∈zs,∀ x∈r,0<=x/\x<(q:Int):=fun r hr x hx=>by
        have h4:=h3' r hr
        unfold elemsB at h4
        have h5:=List.all_eq_true.1 h4 x hx
        unfold inB at h5
        simpa using h5
       refine ⟨?_,⟨rfl,fun r hr=>?_⟩,by omega,by omega,by omega⟩
       . unfold nzs natR
         rw [List.map_map]
         have:∀ r∈zs,(nz ∘ fun x:List Int=>x.map Int.toNat) r=r:=fun r hr=>by
          show nz (r.map Int.toNat)=r
          unfold nz
          rw [List.map_map]
          have:∀ x∈r,((fun x:Nat=>(x:Int)) ∘ Int.toNat) x=x:=fun x hx=>by
           have:=(hin r hr x hx).1
           show ((x.toNat:Nat):Int)=x
           omega
          rw [List.map_congr_left this,List.map_id']
         rw [List.map_congr_left this,List.map_id']
       . unfold natR at hr
         obtain ⟨s,hs,rfl⟩:=List.mem_map.1 hr
         have hl:=h2' s hs
         refine ⟨by simp at hl ⊢;omega,fun x hx=>?_⟩
         obtain ⟨y,hy,rfl⟩:=List.mem_map.1 hx
         have:=hin s hs y hy
         omega
theorem qaW {p m:Int} {mod:List Int} (h:fieldOK p m mod=true):FT p.toNat m.toNat (mdOf m mod) (lOf p m mod):=by
 unfold fieldOK at h
 rw [Bool.and_eq_true] at h
 have hs:=qbJ h.1
 refine ⟨hs.small,genM_tab (qaU (by have:=hs.small.p1;omega) hs.small.m1 _) ?_⟩
 intro e
 rw [e] at h
 simp at h
def canZ (p m:Int) (mod:List Int) (cols:Int) (zs:List (List Int)):List (List Nat):=canonM (opsT p.toNat m.toNat (lOf p m mod)) (natR zs) cols.toNat
def errC (p m:Int) (mod:List Int) (cols:Int) (zs:List (List Int)):Int:=if fieldOK p m mod=true then checkZ (p.toNat ^ m.toNat) cols zs else 1
def CanPost (w:World) (p m:Int) (mod:List Int) (cols:Int) (zs:List (List Int)) (e:Ending) (w':World):Prop :=
 Below w.heap.size w w'/\((errC p m mod cols zs≠0/\e=.returned (.tuple #[.agg #[.int .i64 0,.slice none 0 0],.slice none 0 0,.int .i64 (errC p m mod cols zs)])) \/
  (errC p m mod cols zs=0/\∃ (R:Nat) (VA:Option Addr) (n ck:Nat),e=.returned (.tuple #[.agg #[.int .i64 cols,.slice (some ⟨R,0,none⟩) (canZ p m mod cols zs).length (canZ p m mod cols zs).length],.slice VA n ck,.int .i64 0])/\RowsAt w' w'.heap.size (some ⟨R,0,none⟩) (nzs (canZ p m mod cols zs))))
structure Box4 (w:World) (p m:Int) (Am:Option Addr) (n cm:Nat) (cols:Int) (A:Option Addr) (nz c:Nat) (tt:TypeId) (r:Array Value) (W:World):Prop where
 below:Below w.heap.size w W
 size:w.heap.size+2<W.heap.size
 k0:W.heap[w.heap.size]?=some (.cells [.int .i64 p,.int .i64 m,.slice Am n cm].toArray 29 (0,0))
 k1:W.heap[w.heap.size+1]?=some (.cells [.int .i64 cols,.slice A nz c].toArray 54 (0,0))
 k2:W.heap[w.heap.size+1+1]?=some (.cells r tt (0,0))
section
variable {w:World} {p m:Int} {Am:Option Addr} {n cm:Nat} {cols:Int} {A:Option Addr} {nz c:Nat} {tt:TypeId} {r:Array Value} {W W':World}
theorem Box4.keep (h:Box4 w p m Am n cm cols A nz c tt r W) (hb:Below W.heap.size W W'):Box4 w p m Am n cm cols A nz c tt r W':=by
 have hs:=h.size
 exact ⟨h.below.trans (hb.mono (by omega)),Nat.lt_of_lt_of_le hs hb.size,(hb.block _ (by omega)).trans h.k0,(hb.block _ (by omega)).trans h.k1,(hb.block _ (by omega)).trans h.k2⟩
theorem Box4.set (h:Box4 w p m Am n cm cols A nz c tt r W) (r':Array Value):Box4 w p m Am n cm cols A nz c tt r' (W.setRow (w.heap.size+1+1) r') :=
 ⟨qbD h.below (by omega) r',by simpa using h.size,(setRow_other W _ _ _ (by omega)).trans h.k0,(setRow_other W _ _ _ (by omega)).trans h.k1,qbI W _ _ _ r' h.k2⟩
theorem box3 (w:World) (p m:Int) (Am:Option Addr) (n cm:Nat) (cols:Int) (A:Option Addr) (nz c:Nat) (tt:TypeId) (r:Array Value):Box4 w p m Am n cm cols A nz c tt r
 (((w.alloc (.cells #[.int .i64 p,.int .i64 m,.slice Am n cm] 29)).alloc (.cells #[.int .i64 cols,.slice A nz c] 54)).alloc (.cells r tt)):=by
 refine ⟨((((Below.refl _ _).alloc (Nat.le_refl _) _).alloc (by simp) _).alloc (by simp;omega) _),by simp,?_,?_,?_⟩
 . exact ((Below.heap_alloc _ _ _ (by simp;omega)).trans (Below.heap_alloc _ _ _ (by simp))).trans (heap_alloc_new _ _)
 . refine (Below.heap_alloc _ _ _ (by simp)).trans ?_
   have:=heap_alloc_new (w.alloc (.cells #[.int .i64 p,.int .i64 m,.slice Am n cm] 29)) (.cells #[.int .i64 cols,.slice A nz c] 54)
   rw [show (w.alloc (.cells #[.int .i64 p,.int .i64 m,.slice Am n cm] 29)).heap.size=w.heap.size+1 by simp] at this
   exact this
 . have := heap_alloc_new ((w.alloc (.cells #[.int .i64 p,.int .i64 m,.slice Am n cm] 29)).alloc (.cells #[.int .i64 cols,.slice A nz c] 54)) (.cells r tt)
   rw [show ((w.alloc (.cells #[.int .i64 p,.int .i64 m,.slice Am n cm] 29)).alloc (.cells #[.int .i64 cols,.slice A nz c] 54)).heap.size=w.heap.size+1+1 by simp] at this
   exact this
end
set_option maxHeartbeats 1000000 in
set_option maxRecDepth 100000 in
theorem canonical_c (p m:Int) (mod:List Int) (Am:Option Addr) (cm:Nat) (cols:Int) (zs:List (List Int)) (A:Option Addr) (c:Nat) (w:World) (hM:IntsAt w w.heap.size Am mod) (hl:mod.length<=9223372036854775807)
 (hA:RowsAt w w.heap.size A zs) (hlz:zs.length<=9223372036854775807) (h1:1<=cols) :
 Calls Tryz.prog 141 #[.agg #[.int .i64 p,.int .i64 m,.slice Am mod.length cm],.agg #[.int .i64 cols,.slice A zs.length c]] w (CanPost w p m mod cols zs):=by
 have HX:=Lib.hid ((box3 w p m Am mod.length cm cols A zs.length c 54 #[.int .i64 0,.slice none 0 0]).keep ((Below.refl _ _).alloc (Nat.le_refl _) (.cells #[.int .i64 cols,.slice A zs.length c] 54)))
 have HK3:Hid (((((w.alloc (.cells #[.int .i64 p,.int .i64 m,.slice Am mod.length cm] 29)).alloc (.cells #[.int .i64 cols,.slice A zs.length c] 54)).alloc (.cells #[.int .i64 0,.slice none 0 0] 54)).alloc (.cells #[.int .i64 cols,.slice A zs.length c] 54)).heap[w.heap.size+1+1+1]?=some (.cells #[.int .i64 cols,.slice A zs.length c] 54 (0,0))):=by
  have:=heap_alloc_new (((w.alloc (.cells #[.int .i64 p,.int .i64 m,.slice Am mod.length cm] 29)).alloc (.cells #[.int .i64 cols,.slice A zs.length c] 54)).alloc (.cells #[.int .i64 0,.slice none 0 0] 54)) (.cells #[.int .i64 cols,.slice A zs.length c] 54)
  rw [show (((w.alloc (.cells #[.int .i64 p,.int .i64 m,.slice Am mod.length cm] 29)).alloc (.cells #[.int .i64 cols,.slice A zs.length c] 54)).alloc (.cells #[.int .i64 0,.slice none 0 0] 54)).heap.size=w.heap.size+1+1+1 by simp] at this
  exact this
 have HM:=Lib.hid hM
 have HA:=Lib.hid hA
 clear hM hA
 go_enter Tryz.func141,Tryz.ntmps141
 go_wp2_with fail
 generalize (((w.alloc (.cells #[.int .i64 p,.int .i64 m,.slice Am mod.length cm] 29)).alloc (.cells #[.int .i64 cols,.slice A zs.length c] 54)).alloc (.cells #[.int .i64 0,.slice none 0 0] 54)).alloc (.cells #[.int .i64 cols,.slice A zs.length c] 54)=W0 at *
 have HC:=Lib.hid (open_c p m mod Am cm cols zs A c (w.heap.size+1+1+1) 1 W0 ((HM.out.keep HX.out.below).more HX.out.below.size) hl ((HA.out.keep HX.out.below).more HX.out.below.size) hlz HK3.out)
 (with_reducible refine HC.out.mono ?_)
 rintro e w1 ⟨hb1,hcase⟩
 have HX1:=Lib.hid (HX.out.keep hb1)
 have HA1:=Lib.hid ((HA.out.keep HX1.out.below).more HX1.out.below.size)
 clear HX HM HA HC HK3 hb1
 clear W0
 have HERR:Hid (errC p m mod cols zs=if fieldOK p m mod=true then checkZ (p.toNat ^ m.toNat) cols zs else 1):=rfl
 have HK2:=Lib.hid HX1.out.k2
 rcases hcase with ⟨hok,rfl⟩ | ⟨hok,hz,rfl⟩ | ⟨hok,hz,gb,rfl,hg⟩
 . have HE : Hid (errC p m mod cols zs = 1) := by show _ = _;rw [HERR.out,if_neg (by rw [hok];simp)]
   have HY:=Lib.hid (HX1.out.set #[.int .i64 0,.slice none 0 0])
   clear hok
   go_wp2_with (refine qaE rfl 54 (.tmp 4) (.tmp 20) rfl w1 (w.heap.size+1+1) 54 #[.int .i64 0,.slice none 0 0] #[.int .i64 0,.slice none 0 0] rfl rfl HK2.out matSize rfl (by simp [Value.oneCell']) ?_)
   refine bodyPost_ret (qcK (P:=Tryz.prog) rfl _ _ (w.heap.size+1+1) 54 #[.int .i64 0,.slice none 0 0] (0,0) _ _ _ rfl rfl rfl HY.out.k2 Tryz.underlying54 rfl matSize) rfl ?_
   exact ⟨HY.out.below,.inl ⟨by rw [HE.out];decide,by rw [HE.out];rfl⟩⟩
 . have HE : Hid (errC p m mod cols zs = checkZ (p.toNat ^ m.toNat) cols zs) := by show _ = _;rw [HERR.out,if_pos hok]
   have hzb:(checkZ (p.toNat ^ m.toNat) cols zs != 0)=true:=by simp [hz]
   have HZ:=Lib.hid hz
   have HY:=Lib.hid (HX1.out.set #[.int .i64 0,.slice none 0 0])
   clear hok hz
   go_wp2_with (refine qaE rfl 54 (.tmp 4) (.tmp 20) rfl w1 (w.heap.size+1+1) 54 #[.int .i64 0,.slice none 0 0] #[.int .i64 0,.slice none 0 0] rfl rfl HK2.out matSize rfl (by simp [Value.oneCell']) ?_)
   refine bodyPost_ret (qcK (P:=Tryz.prog) rfl _ _ (w.heap.size+1+1) 54 #[.int .i64 0,.slice none 0 0] (0,0) _ _ _ rfl rfl rfl HY.out.k2 Tryz.underlying54 rfl matSize) rfl ?_
   exact ⟨HY.out.below,.inl ⟨by rw [HE.out];exact HZ.out,by rw [HE.out];rfl⟩⟩
 . have HE : Hid (errC p m mod cols zs = 0) := by show _ = _;rw [HERR.out,if_pos hok,hz]
   obtain ⟨hnn,hgr,hc0,hc1,hn1⟩:=qcT hz
   have HNN:=Lib.hid hnn
   have HA2:Hid (RowsAt w1 w1.heap.size A (nzs (natR zs))):=by
    show RowsAt _ _ _ _
    rw [hnn];exact HA1.out
   have HCA:=Lib.hid (canon_c gb w1.heap.size p.toNat m.toNat cols.toNat (mdOf m mod) (lOf p m mod) (natR zs) A c w1 (qaW hok) hg (Nat.le_refl _) HA2.out hgr (by omega) (by omega) (by rw [qeE];exact hn1))
   rw [qeE,show ((cols.toNat:Nat):Int)=cols by omega] at HCA
   have HCZ:Hid (canonM (opsT p.toNat m.toNat (lOf p m mod)) (natR zs) cols.toNat=canZ p m mod cols zs):=rfl
   rw [HCZ.out] at HCA
   have a0:w1.cell? ⟨w.heap.size+1,0,none⟩=some (.int .i64 cols):=cell_of_row _ _ 0 _ _ _ HX1.out.k1
   have a1:w1.cell? ⟨w.heap.size+1,1,none⟩=some (.slice A zs.length c):=cell_of_row _ _ 1 _ _ _ HX1.out.k1
   clear hok hz hg hnn hgr HA1 HA2
   go_wp2_with fail
   (with_reducible refine HCA.out.mono ?_)
   rintro e w2 ⟨⟨R,VA,n,ck,rfl,hra⟩,hb2⟩
   have HX2:=Lib.hid (HX1.out.keep hb2)
   have HRA:=Lib.hid hra
   have HK22:=Lib.hid HX2.out.k2
   have HX1S:w.heap.size+1+1<w1.heap.size:=HX1.out.size
   clear hra hb2 HCA HK2 HX1 a0 a1
   have a0:w2.cell? ⟨w.heap.size+1,0,none⟩=some (.int .i64 cols):=cell_of_row _ _ 0 _ _ _ HX2.out.k1
   have HY:=Lib.hid (HX2.out.set #[.int .i64 cols,.slice (some ⟨R,0,none⟩) (canZ p m mod cols zs).length (canZ p m mod cols zs).length])
   go_wp2_with (refine qaE rfl 54 (.tmp 4) (.tmp 34) rfl w2 (w.heap.size+1+1) 54 #[.int .i64 0,.slice none 0 0] #[.int .i64 cols,.slice (some ⟨R,0,none⟩) (canZ p m mod cols zs).length (canZ p m mod cols zs).length] rfl rfl HK22.out matSize rfl (by simp [Value.oneCell']) ?_)
   refine bodyPost_ret (qcK (P:=Tryz.prog) rfl _ _ (w.heap.size+1+1) 54 #[.int .i64 cols,.slice (some ⟨R,0,none⟩) (canZ p m mod cols zs).length (canZ p m mod cols zs).length] (0,0) _ _ _ rfl rfl rfl HY.out.k2 Tryz.underlying54 rfl matSize) rfl ?_
   exact ⟨HY.out.below,.inr ⟨HE.out,R,VA,n,ck,rfl,(HRA.out.setRow HX1S _).rowsAt⟩⟩
end Go.Proofs.YtlmglaonldlanaaGreat
namespace Go.Proofs.YtlmglaonldlanaaGreat
open Go.RowKit Pln
theorem viewSize:(Tryz.prog.info? 122).map (·.size)=some 4:=by kernel_rfl
def spZ (p m:Int) (mod:List Int) (cols:Int) (zs:List (List Int)):Int:=if errC p m mod cols zs≠0 then errC p m mod cols zs else if nzs (canZ p m mod cols zs)=zs then 0 else 5
def SpPost (w:World) (z:Int) (e:Ending) (w':World):Prop :=
 Below w.heap.size w w'/\∃ v0 v1 v2 v3:Value,#[v0,v1,v2,v3].all (·.oneCell')=true/\e=.returned (.tuple #[.agg #[v0,v1,v2,v3],.int .i64 z])
theorem canZ_rows {p m:Int} {mod:List Int} {cols:Int} {zs:List (List Int)} (h:errC p m mod cols zs=0) (k:Nat) (hk:k<(nzs (canZ p m mod cols zs)).length):((nzs (canZ p m mod cols zs)).getD k []).length<=9223372036854775807:=by
 have hok:fieldOK p m mod=true:=by
  unfold errC at h
  split at h
  . assumption
  . cases h
 unfold errC at h
 rw [if_pos hok] at h
 obtain ⟨_,hgr,_,hc1,_⟩:=qcT h
 have hg:=(qfR (qeA (qaW hok)) hgr cols.toNat (Nat.le_refl _)).2
 rw [qbC] at hk
 have hk2:k<(elGo (opsT p.toNat m.toNat (lOf p m mod)) (natR zs) cols.toNat).piv.length:=by
  have:=qbH (opsT p.toNat m.toNat (lOf p m mod)) (natR zs) cols.toNat
  unfold canZ at hk
  omega
 have e:(canZ p m mod cols zs).getD k []=(elGo (opsT p.toNat m.toNat (lOf p m mod)) (natR zs) cols.toNat).rows.getD k []:=qcN _ _ _ _ hk2
 have:=(qbW (O:=opsT p.toNat m.toNat (lOf p m mod)) (natR zs) cols.toNat).2
 rw [qcM,qaB,e,(hg.row (i:=k) (by omega)).1]
 omega
theorem canZ_len {p m:Int} {mod:List Int} {cols:Int} {zs:List (List Int)} (h:errC p m mod cols zs=0):(nzs (canZ p m mod cols zs)).length<=256:=by
 have hok:fieldOK p m mod=true:=by
  unfold errC at h
  split at h
  . assumption
  . cases h
 unfold errC at h
 rw [if_pos hok] at h
 obtain ⟨_,hgr,_,_,hn⟩:=qcT h
 rw [qbC]
 have h1:=qbH (opsT p.toNat m.toNat (lOf p m mod)) (natR zs) cols.toNat
 have h2:=(qbW (O:=opsT p.toNat m.toNat (lOf p m mod)) (natR zs) cols.toNat).2
 rw [qeE] at h2
 unfold canZ
 omega
set_option maxHeartbeats 1000000 in
set_option maxRecDepth 100000 in
theorem sopen_c (p m:Int) (mod:List Int) (Am:Option Addr) (cm:Nat) (cols:Int) (zs:List (List Int)) (A:Option Addr) (c:Nat) (w:World) (hM:IntsAt w w.heap.size Am mod) (hl:mod.length<=9223372036854775807)
 (hA:RowsAt w w.heap.size A zs) (hlz:zs.length<=9223372036854775807) (h1:1<=cols) :
 Calls Tryz.prog 97 #[.agg #[.int .i64 p,.int .i64 m,.slice Am mod.length cm],.agg #[.int .i64 cols,.slice A zs.length c]] w (SpPost w (spZ p m mod cols zs)):=by
 have HX:=Lib.hid (box3 w p m Am mod.length cm cols A zs.length c 122 #[.pointer none,.int .i64 0,.slice none 0 0,.slice none 0 0])
 have HM:=Lib.hid hM
 have HA:=Lib.hid hA
 clear hM hA
 go_enter Tryz.func97,Tryz.ntmps97
 go_wp2_with fail
 generalize ((w.alloc (.cells #[.int .i64 p,.int .i64 m,.slice Am mod.length cm] 29)).alloc (.cells #[.int .i64 cols,.slice A zs.length c] 54)).alloc (.cells #[.pointer none,.int .i64 0,.slice none 0 0,.slice none 0 0] 122)=W0 at *
 have HC:=Lib.hid (canonical_c p m mod Am cm cols zs A c W0 ((HM.out.keep HX.out.below).more HX.out.below.size) hl ((HA.out.keep HX.out.below).more HX.out.below.size) hlz h1)
 (with_reducible refine HC.out.mono ?_)
 rintro e w1 ⟨hb1,hcase⟩
 have HX1:=Lib.hid (HX.out.keep hb1)
 clear HX HC hb1
 clear W0
 rcases hcase with ⟨hz,rfl⟩ | ⟨hz,R,VA,n,ck,rfl,hra⟩
 . have HE : Hid (spZ p m mod cols zs = errC p m mod cols zs) := by show _ = _;unfold spZ;rw [if_pos hz]
   have hzb:(errC p m mod cols zs != 0)=true:=by simp [hz]
   clear hz
   have HX2:=Lib.hid (HX1.out.keep ((Below.refl _ _).alloc (Nat.le_refl _) (.cells #[.int .i64 0,.slice none 0 0] 54)))
   go_upto_region 2 with (refine qaI rfl 54 (.tmp 6) (.tmp 14) rfl w1 _ #[.int .i64 0,.slice none 0 0] rfl rfl matSize rfl (by simp [Value.oneCell']) ?_)
   generalize w1.alloc (.cells #[.int .i64 0,.slice none 0 0] 54)=w2 at *
   have HK2:=Lib.hid HX2.out.k2
   have HY:=Lib.hid (HX2.out.set #[.pointer none,.int .i64 0,.slice none 0 0,.slice none 0 0])
   go_wp2_with (refine qaE rfl 122 (.tmp 4) (.tmp 19) rfl w2 (w.heap.size+1+1) 122 #[.pointer none,.int .i64 0,.slice none 0 0,.slice none 0 0] #[.pointer none,.int .i64 0,.slice none 0 0,.slice none 0 0] rfl rfl HK2.out viewSize rfl (by simp [Value.oneCell']) ?_)
   refine bodyPost_ret (qaP (P:=Tryz.prog) rfl _ _ (w.heap.size+1+1) 122 #[.pointer none,.int .i64 0,.slice none 0 0,.slice none 0 0] (0,0) _ _ rfl rfl HY.out.k2 Tryz.underlying122 rfl viewSize) rfl ?_
   exact ⟨HY.out.below,.pointer none,.int .i64 0,.slice none 0 0,.slice none 0 0,by simp [Value.oneCell'],by rw [HE.out];rfl⟩
 . have HRA := Lib.hid hra
   have HROW:=Lib.hid (canZ_rows hz)
   have hok:fieldOK p m mod=true:=by
    unfold errC at hz
    split at hz
    . assumption
    . cases hz
   have HSP:Hid (spZ p m mod cols zs=if nzs (canZ p m mod cols zs)=zs then 0 else 5):=by show _=_;unfold spZ;rw [if_neg (by simp [hz])]
   have HZ0:=Lib.hid hz
   clear hz hra
   have HCL:(nzs (canZ p m mod cols zs)).length<=9223372036854775807:=by
    have:=canZ_len HZ0.out
    omega
   generalize canZ p m mod cols zs=cz at *
   have HXA:=Lib.hid (HX1.out.keep ((Below.refl _ _).alloc (Nat.le_refl _) (.cells #[.int .i64 cols,.slice (some ⟨R,0,none⟩) cz.length cz.length] 54)))
   have HRA2:Hid (RowsAt (w1.alloc (.cells #[.int .i64 cols,.slice (some ⟨R,0,none⟩) cz.length cz.length] 54)) (w1.alloc (.cells #[.int .i64 cols,.slice (some ⟨R,0,none⟩) cz.length cz.length] 54)).heap.size (some ⟨R,0,none⟩) (nzs cz)):=(HRA.out.keep ((Below.refl _ _).alloc (Nat.le_refl _) _)).more (by simp)
   have HKM:Hid ((w1.alloc (.cells #[.int .i64 cols,.slice (some ⟨R,0,none⟩) cz.length cz.length] 54)).cell? ⟨w1.heap.size,1,none⟩=some (.slice (some ⟨R,0,none⟩) cz.length cz.length)):=World.cell?_alloc_new _ _ _ 1
   go_upto_region 4 with (refine qaI rfl 54 (.tmp 6) (.tmp 14) rfl w1 _ #[.int .i64 cols,.slice (some ⟨R,0,none⟩) cz.length cz.length] rfl rfl matSize rfl (by simp [Value.oneCell']) ?_)
   generalize w1.alloc (.cells #[.int .i64 cols,.slice (some ⟨R,0,none⟩) cz.length cz.length] 54)=w2 at *
   have a0:=HKM.out
   have a1:w2.cell? ⟨w.heap.size+1,1,none⟩=some (.slice A zs.length c):=cell_of_row _ _ 1 _ _ _ HXA.out.k1
   have HCE:=Lib.hid (sequalf_c (nzs cz) zs (some ⟨R,0,none⟩) A cz.length c w2 HRA2.out ((HA.out.keep HXA.out.below).more HXA.out.below.size) HCL HROW.out)
   rw [qbC] at HCE
   clear HROW HRA HRA2 HKM HX1
   by_cases heq:nzs cz=zs
   . rw [decide_eq_true heq] at HCE
     have HE:Hid (spZ p m mod cols zs=0):=by show _=_;rw [HSP.out,if_pos heq]
     clear heq HSP
     go_wp2_with fail
     (with_reducible refine HCE.out.mono ?_)
     rintro e w3 ⟨rfl,n3,rfl⟩
     have HX3:=Lib.hid (HXA.out.keep (qaA (Below.refl _ _) n3))
     clear a0 a1 HXA HCE
     generalize w2.drewN n3=w3 at *
     have HRG:=Lib.hid (qaC HX3.out.k0)
     have HCF:=Lib.hid (fnew_ok p m mod Am cm w3 ((HM.out.keep HX3.out.below).more HX3.out.below.size) hok)
     clear hok HM HA
     go_wp2_with (refine wpList_load_mid rfl 29 (.tmp 2) rfl w.heap.size 0 rfl [.int .i64 p,.int .i64 m,.slice Am mod.length cm] _ HRG.out Tryz.underlying29 rfl fieldSize ?_)
     (with_reducible refine HCF.out.mono ?_)
     rintro e w4 ⟨⟨gb,rfl,hgb0,hg⟩,hb4⟩
     have HX4:=Lib.hid (HX3.out.keep hb4)
     clear hgb0 hg hb4 HCF HX3 HRG
     have HRG:=Lib.hid (qaC HX4.out.k1)
     have HK4:=Lib.hid HX4.out.k2
     have HY:=Lib.hid (HX4.out.set #[.pointer (some ⟨gb,0,none⟩),.int .i64 cols,.slice A zs.length c,.slice VA n ck])
     go_wp2_with (first | (refine wpList_load_mid rfl 54 (.tmp 3) rfl (w.heap.size+1) 0 rfl [.int .i64 cols,.slice A zs.length c] _ HRG.out Tryz.underlying54 rfl matSize ?_) | (refine qaE rfl 122 (.tmp 4) (.tmp 36) rfl w4 (w.heap.size+1+1) 122 #[.pointer none,.int .i64 0,.slice none 0 0,.slice none 0 0] #[.pointer (some ⟨gb,0,none⟩),.int .i64 cols,.slice A zs.length c,.slice VA n ck] rfl rfl HK4.out viewSize rfl (by simp [Value.oneCell']) ?_))
     refine bodyPost_ret (qaP (P:=Tryz.prog) rfl _ _ (w.heap.size+1+1) 122 #[.pointer (some ⟨gb,0,none⟩),.int .i64 cols,.slice A zs.length c,.slice VA n ck] (0,0) _ _ rfl rfl HY.out.k2 Tryz.underlying122 rfl viewSize) rfl ?_
     exact ⟨HY.out.below,.pointer (some ⟨gb,0,none⟩),.int .i64 cols,.slice A zs.length c,.slice VA n ck,by simp [Value.oneCell'],by rw [HE.out];rfl⟩
   . rw [decide_eq_false heq] at HCE
     have HE:Hid (spZ p m mod cols zs=5):=by show _=_;rw [HSP.out,if_neg heq]
     clear heq HSP hok
     go_wp2_with fail
     (with_reducible refine HCE.out.mono ?_)
     rintro e w3 ⟨rfl,n3,rfl⟩
     have HX3:=Lib.hid (HXA.out.keep (qaA (Below.refl _ _) n3))
     clear a0 a1 HXA HCE
     generalize w2.drewN n3=w3 at *
     have HK3:=Lib.hid HX3.out.k2
     have HY:=Lib.hid (HX3.out.set #[.pointer none,.int .i64 0,.slice none 0 0,.slice none 0 0])
     go_wp2_with (refine qaE rfl 122 (.tmp 4) (.tmp 27) rfl w3 (w.heap.size+1+1) 122 #[.pointer none,.int .i64 0,.slice none 0 0,.slice none 0 0] #[.pointer none,.int .i64 0,.slice none 0 0,.slice none 0 0] rfl rfl HK3.out viewSize rfl (by simp [Value.oneCell']) ?_)
     refine bodyPost_ret (qaP (P:=Tryz.prog) rfl _ _ (w.heap.size+1+1) 122 #[.pointer none,.int .i64 0,.slice none 0 0,.slice none 0 0] (0,0) _ _ rfl rfl HY.out.k2 Tryz.underlying122 rfl viewSize) rfl ?_
     exact ⟨HY.out.below,.pointer none,.int .i64 0,.slice none 0 0,.slice none 0 0,by simp [Value.oneCell'],by rw [HE.out];rfl⟩
set_option maxHeartbeats 1000000 in
set_option maxRecDepth 100000 in
theorem scheck_c (p m:Int) (mod:List Int) (Am:Option Addr) (cm:Nat) (cols:Int) (zs:List (List Int)) (A:Option Addr) (c:Nat) (w:World) (hM:IntsAt w w.heap.size Am mod) (hl:mod.length<=9223372036854775807)
 (hA:RowsAt w w.heap.size A zs) (hlz:zs.length<=9223372036854775807) (h1:1<=cols) :
 Calls Tryz.prog 48 #[.agg #[.int .i64 p,.int .i64 m,.slice Am mod.length cm],.agg #[.int .i64 cols,.slice A zs.length c]] w fun e w'=>e=.returned (.int .i64 (spZ p m mod cols zs))/\Below w.heap.size w w':=by
 have HB0:Hid (Below w.heap.size w ((w.alloc (.cells #[.int .i64 p,.int .i64 m,.slice Am mod.length cm] 29)).alloc (.cells #[.int .i64 cols,.slice A zs.length c] 54))):=((Below.refl _ _).alloc (Nat.le_refl _) _).alloc (by simp) _
 have HM:=Lib.hid hM
 have HA:=Lib.hid hA
 clear hM hA
 go_enter Tryz.func48,Tryz.ntmps48
 go_wp2_with fail
 generalize (w.alloc (.cells #[.int .i64 p,.int .i64 m,.slice Am mod.length cm] 29)).alloc (.cells #[.int .i64 cols,.slice A zs.length c] 54)=W0 at *
 have HC:=Lib.hid (sopen_c p m mod Am cm cols zs A c W0 ((HM.out.keep HB0.out).more HB0.out.size) hl ((HA.out.keep HB0.out).more HB0.out.size) hlz h1)
 (with_reducible refine HC.out.mono ?_)
 rintro e w1 ⟨hb1,v0,v1,v2,v3,hv,rfl⟩
 have HB1:=Lib.hid (HB0.out.trans (hb1.mono HB0.out.size))
 have HV:=Lib.hid hv
 clear hb1 hv HC HM HA HB0
 clear W0
 have HB2:Hid (Below w.heap.size w (w1.alloc (.cells #[v0,v1,v2,v3] 122))):=HB1.out.alloc HB1.out.size _
 go_wp2_with (refine qaI rfl 122 (.tmp 5) (.tmp 11) rfl w1 _ #[v0,v1,v2,v3] rfl rfl viewSize rfl HV.out ?_)
 go_ret
 exact ⟨rfl,HB2.out⟩
end Go.Proofs.YtlmglaonldlanaaGreat
