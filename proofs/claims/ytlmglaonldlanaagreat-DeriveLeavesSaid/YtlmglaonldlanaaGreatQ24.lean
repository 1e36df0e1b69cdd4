/-
 The reference's matrices: Entries, Check. The reference's elimination: its state.
-/
import Derived.Test.YtlmglaonldlanaaGreatQ23
import Derived.Test.YtlmglaonldlanaaGreatQ11
namespace Go.Proofs.YtlmglaonldlanaaGreat
open Go.RowKit Pln
def RelEn (w:World) (p m:Int) (A:Option Addr) (n c:Nat) (q:Nat) (zs:List Int) (v5:Value) (wr:World):Prop :=
 ∃ k:Nat,k<=zs.length/\v5=.int .i64 k/\(zs.take k).all (inB q)=true/\SBoxF w p m A n c wr
set_option maxHeartbeats 1000000 in
set_option maxRecDepth 100000 in
theorem rentries_c (p m:Int) (A:Option Addr) (n c:Nat) (q:Nat) (zs:List Int) (Az:Option Addr) (cz:Nat) (w:World) (ho:orderM p m=(q:Int)) (hA:IntsAt w w.heap.size Az zs) (hl:zs.length<=9223372036854775807) :
 Calls Tryz.prog 86 #[.agg #[.int .i64 p,.int .i64 m,.slice A n c],.slice Az zs.length cz] w fun e w'=>e=.returned (.int .i64 (errE (elemsB q zs)))/\Below w.heap.size w w':=by
 have HX:=Lib.hid (qbP w p m A n c)
 have HA:=Lib.hid hA
 have HIS:Hid (∀ (x:Int) (W:World),Calls Tryz.prog 41 #[.agg #[.int .i64 p,.int .i64 m,.slice A n c],.int .i64 x] W fun e w'=>e=.returned (.bool (inB q x))/\Below W.heap.size W w'):=fun x W=>by
  have:=ris_c p m A n c x W
  rw [ho] at this
  exact this
 clear hA ho
 go_enter Tryz.func86,Tryz.ntmps86
 go_upto_region 1 with fail
 generalize w.alloc (.cells #[.int .i64 p,.int .i64 m,.slice A n c] 29)=W0 at *
 have HS0:Hid (RelEn w p m A n c q zs (.int .i64 ((0:Nat):Int)) W0):=⟨0,Nat.zero_le _,rfl,by simp,HX.out⟩
 go_wp2_with fail
 go_loopw [5] (fun v5 wr=>RelEn w p m A n c q zs v5 wr) (fun v5 _=>zs.length-(intOf v5).toNat)
 case atStart=>exact HS0.out
 case round =>
  obtain ⟨k,hk,rfl,hall,hx⟩:=hrel
  have HALL:=Lib.hid hall
  have HX1:=Lib.hid hx
  clear hall hx HS0
  by_cases hlt:k<zs.length
  . obtain ⟨b,o,rfl,hb,_⟩ := (HA.out.keep HX1.out.1).at_ hlt
    have HTK:=Lib.hid (qbT (inB q) zs 0 k hlt)
    have HFL:=Lib.hid (qbR (inB q) zs 0 k hlt)
    have HVC:Hid (∀ W,SBoxF w p m A n c W->W.cell? ⟨b,o+k,none⟩=some (.int .i64 (zs.getD k 0))):=fun W hW=>by
     obtain ⟨b',o',e,_,h⟩:=(HA.out.keep hW.1).at_ hlt
     injection e with e
     injection e with e1 e2
     subst e1 e2
     exact h
    have k0:(0:Int)<=(k:Int):=by omega
    have k1:(k:Int)<(zs.length:Int):=by omega
    generalize zs.getD k 0=z at *
    have HCL:Hid (∀ W,SBoxF w p m A n c W->Calls Tryz.prog 41 #[.agg #[.int .i64 p,.int .i64 m,.slice A n c],.int .i64 z] W fun e w'=>e=.returned (.bool (inB q z))/\SBoxF w p m A n c w'):=fun W hW=>(HIS.out z W).mono fun e w' ⟨he,hb⟩=>⟨he,hW.grow hb⟩
    generalize hiz:inB q z=iz at *
    have HIZ:=Lib.hid hiz
    clear hiz
    go_upto_region 4 with fail
    refine qaH (SBoxF w p m A n c) (by kernel_rfl) (by kernel_rfl) (HX1.out.grow (Below.refl _ _).drew) ?_
    repeat (first
     | (refine qbG rfl 29 (.tmp 2) rfl w.heap.size 0 rfl [.int .i64 p,.int .i64 m,.slice A n c] _ (fun W hW => hW.range) Tryz.underlying29 rfl fieldSize ?_
        go_simp)
     | (apply qaM rfl
        . intro W hS
          have yv:=HVC.out W hS
          go_simp
          rfl
        go_simp)
     | (apply qaV rfl
        . intro W hS
          go_simp
          exact ⟨rfl,rfl⟩
        . intro W hS
          exact HCL.out W hS
        go_simp))
    refine qaJ ?_
    intro w2 hS2
    have HS2:=Lib.hid hS2
    clear hS2
    cases iz
    . have HE : Hid (errE (elemsB q zs) = 2) := by show _ = _;unfold elemsB;rw [HFL.out rfl];rfl
      go_wp2_with fail
      go_ret
      exact ⟨qaD HE.out.symm,HS2.out.1⟩
    . go_wp2_with fail
      go_roundw
      case rel=>exact ⟨k+1,by omega,by go_num,by rw [HTK.out,HALL.out];rfl,HS2.out⟩
      case measure=>simp [intOf];omega
  . have HE : Hid (errE (elemsB q zs) = 0) := by
     show _=_
     have:=HALL.out
     rw [List.take_of_length_le (by omega)] at this
     unfold elemsB
     rw [this]
     rfl
    go_wp2_with fail
    go_ret
    exact ⟨qaD HE.out.symm,HX1.out.1⟩
structure Box2 (w:World) (p m:Int) (Am:Option Addr) (n cm:Nat) (cols:Int) (A:Option Addr) (nz c:Nat) (W:World):Prop where
 below:Below w.heap.size w W
 size:w.heap.size+1<W.heap.size
 k0:W.heap[w.heap.size]?=some (.cells [.int .i64 p,.int .i64 m,.slice Am n cm].toArray 29 (0,0))
 k1:W.heap[w.heap.size+1]?=some (.cells [.int .i64 cols,.slice A nz c].toArray 54 (0,0))
section
variable {w:World} {p m:Int} {Am:Option Addr} {n cm:Nat} {cols:Int} {A:Option Addr} {nz c:Nat} {W W':World}
theorem Box2.grow (h:Box2 w p m Am n cm cols A nz c W) (hb:Below W.heap.size W W'):Box2 w p m Am n cm cols A nz c W':=by
 have hs:=h.size
 exact ⟨h.below.trans (hb.mono (by omega)),Nat.lt_of_lt_of_le hs hb.size,(hb.block _ (by omega)).trans h.k0,(hb.block _ (by omega)).trans h.k1⟩
theorem Box2.range (h:Box2 w p m Am n cm cols A nz c W):W.rangeAt w.heap.size 0 [.int .i64 p,.int .i64 m,.slice Am n cm]:=qaC h.k0
theorem Box2.range1 (h:Box2 w p m Am n cm cols A nz c W):W.rangeAt (w.heap.size+1) 0 [.int .i64 cols,.slice A nz c]:=qaC h.k1
theorem Box2.c0 (h:Box2 w p m Am n cm cols A nz c W):W.cell? ⟨w.heap.size+1,0,none⟩=some (.int .i64 cols):=cell_of_row _ _ 0 _ _ _ h.k1
theorem Box2.c1 (h:Box2 w p m Am n cm cols A nz c W):W.cell? ⟨w.heap.size+1,1,none⟩=some (.slice A nz c):=cell_of_row _ _ 1 _ _ _ h.k1
theorem box2_new (w:World) (p m:Int) (Am:Option Addr) (n cm:Nat) (cols:Int) (A:Option Addr) (nz c:Nat):Box2 w p m Am n cm cols A nz c
 ((w.alloc (.cells #[.int .i64 p,.int .i64 m,.slice Am n cm] 29)).alloc (.cells #[.int .i64 cols,.slice A nz c] 54)):=by
 refine ⟨(((Below.refl _ _).alloc (Nat.le_refl _) _).alloc (by simp) _),by simp,(Below.heap_alloc _ _ _ (by simp)).trans (heap_alloc_new _ _),?_⟩
 have:=heap_alloc_new (w.alloc (.cells #[.int .i64 p,.int .i64 m,.slice Am n cm] 29)) (.cells #[.int .i64 cols,.slice A nz c] 54)
 rw [show (w.alloc (.cells #[.int .i64 p,.int .i64 m,.slice Am n cm] 29)).heap.size=w.heap.size+1 by simp] at this
 exact this
end
def SB2 (w:World) (p m:Int) (Am:Option Addr) (n cm:Nat) (cols:Int) (A:Option Addr) (nz c:Nat) (wr W:World):Prop:=Box2 w p m Am n cm cols A nz c W/\Below wr.heap.size wr W
def RelK1 (w:World) (p m:Int) (Am:Option Addr) (n cm:Nat) (cols:Int) (A:Option Addr) (zs:List (List Int)) (c:Nat) (f:List Int->Bool) (v:Value) (wr:World):Prop :=
 ∃ k:Nat,k<=zs.length/\v=.int .i64 k/\(zs.take k).all f=true/\Box2 w p m Am n cm cols A zs.length c wr
set_option maxHeartbeats 1000000 in
set_option maxRecDepth 100000 in
theorem rcheck_c (p m:Int) (mod:List Int) (Am:Option Addr) (cm:Nat) (cols:Int) (zs:List (List Int)) (A:Option Addr) (c:Nat) (w:World) (hM:IntsAt w w.heap.size Am mod) (hl:mod.length<=9223372036854775807)
 (hA:RowsAt w w.heap.size A zs) (hlz:zs.length<=9223372036854775807) :
 Calls Tryz.prog 36 #[.agg #[.int .i64 p,.int .i64 m,.slice Am mod.length cm],.agg #[.int .i64 cols,.slice A zs.length c]] w fun e w'=>e=.returned (.int .i64 (errC p m mod cols zs))/\Below w.heap.size w w':=by
 have HX:=Lib.hid (box2_new w p m Am mod.length cm cols A zs.length c)
 have HM:=Lib.hid hM
 have HA:=Lib.hid hA
 clear hM hA
 go_enter Tryz.func36,Tryz.ntmps36
 go_upto_region 1 with fail
 generalize (w.alloc (.cells #[.int .i64 p,.int .i64 m,.slice Am mod.length cm] 29)).alloc (.cells #[.int .i64 cols,.slice A zs.length c] 54)=W0 at *
 have HRG:=Lib.hid HX.out.range
 have HC:=Lib.hid (rfcheck_c p m mod Am cm W0 ((HM.out.keep HX.out.below).more HX.out.below.size) hl)
 cases hok:fieldOK p m mod
 . have HE : Hid (errC p m mod cols zs = 1) := by show _ = _;unfold errC;rw [if_neg (by rw [hok];simp)]
   rw [hok] at HC
   have HC1:Hid (Calls Tryz.prog 18 #[.agg #[.int .i64 p,.int .i64 m,.slice Am mod.length cm]] W0 fun e w'=>e=.returned (.int .i64 1)/\Below W0.heap.size W0 w'):=HC.out
   clear hok HC
   go_wp2_with (refine wpList_load_mid rfl 29 (.tmp 2) rfl w.heap.size 0 rfl [.int .i64 p,.int .i64 m,.slice Am mod.length cm] _ HRG.out Tryz.underlying29 rfl fieldSize ?_)
   (with_reducible refine HC1.out.mono ?_)
   rintro e w1 ⟨rfl,hb1⟩
   have HX1:=Lib.hid (HX.out.grow hb1)
   clear hb1
   go_wp2_with fail
   go_ret
   exact ⟨qaD HE.out.symm,HX1.out.below⟩
 . have HE : Hid (errC p m mod cols zs = checkZ (p.toNat ^ m.toNat) cols zs) := by show _ = _;unfold errC;rw [if_pos hok]
   have hord:orderM p m=((p.toNat ^ m.toNat:Nat):Int):=by
    unfold fieldOK at hok
    rw [Bool.and_eq_true] at hok
    exact (qbJ hok.1).ord
   rw [hok] at HC
   have HC1:Hid (Calls Tryz.prog 18 #[.agg #[.int .i64 p,.int .i64 m,.slice Am mod.length cm]] W0 fun e w'=>e=.returned (.int .i64 0)/\Below W0.heap.size W0 w'):=HC.out
   have HORD:=Lib.hid hord
   clear hok HC hord
   generalize p.toNat ^ m.toNat=q at *
   go_wp2_with (refine wpList_load_mid rfl 29 (.tmp 2) rfl w.heap.size 0 rfl [.int .i64 p,.int .i64 m,.slice Am mod.length cm] _ HRG.out Tryz.underlying29 rfl fieldSize ?_)
   (with_reducible refine HC1.out.mono ?_)
   rintro e w1 ⟨rfl,hb1⟩
   have HX1:=Lib.hid (HX.out.grow hb1)
   have b0:=HX1.out.c0
   have b1:=HX1.out.c1
   clear hb1 HX HRG HC1
   clear W0
   by_cases h1:cols<0
   . have HN : Hid (errC p m mod cols zs = 3) := by show _ = _;rw [HE.out];exact qfD (.inl h1)
     go_wp2_with fail
     go_ret
     exact ⟨qaD HN.out.symm,HX1.out.below⟩
   . by_cases h2 : 256 < cols
     . have HN : Hid (errC p m mod cols zs = 3) := by show _ = _;rw [HE.out];exact qfD (.inr (.inl h2))
       go_wp2_with fail
       go_ret
       exact ⟨qaD HN.out.symm,HX1.out.below⟩
     . by_cases h3 : 256 < zs.length
       . have HN : Hid (errC p m mod cols zs = 3) := by show _ = _;rw [HE.out];exact qfD (.inr (.inr h3))
         go_wp2_with fail
         go_ret
         exact ⟨qaD HN.out.symm,HX1.out.below⟩
       . have hbig : ¬ (cols < 0 \/ 256 < cols \/ 256 < zs.length) := by omega
         have HZ1:Hid (zs.all (fun r=>decide ((r.length:Int)=cols))=false->errC p m mod cols zs=3):=fun h=>by rw [HE.out];unfold checkZ;rw [if_neg hbig,if_pos h]
         have HZ2:Hid (zs.all (fun r=>decide ((r.length:Int)=cols))=true->zs.all (elemsB q)=false->errC p m mod cols zs=2):=fun h h'=>by rw [HE.out];unfold checkZ;rw [if_neg hbig,if_neg (by simp [h]),if_pos h']
         have HZ3:Hid (zs.all (fun r=>decide ((r.length:Int)=cols))=true->zs.all (elemsB q)=true->errC p m mod cols zs=0):=fun h h'=>by rw [HE.out];unfold checkZ;rw [if_neg hbig,if_neg (by simp [h]),if_neg (by simp [h'])]
         have HK0:Hid (RelK1 w p m Am mod.length cm cols A zs c (fun r=>decide ((r.length:Int)=cols)) (.int .i64 ((0:Nat):Int)) w1):=⟨0,Nat.zero_le _,rfl,by simp,HX1.out⟩
         clear hbig
         go_wp2_with fail
         clear b0 b1
         go_loopw [6] (fun v6 wr=>RelK1 w p m Am mod.length cm cols A zs c (fun r=>decide ((r.length:Int)=cols)) v6 wr) (fun v6 _=>zs.length-(intOf v6).toNat)
         case atStart=>exact HK0.out
         case round =>
          obtain ⟨k,hk,rfl,hall,hx⟩:=hrel
          have HALL:=Lib.hid hall
          have HX2:=Lib.hid hx
          have b0:=hx.c0
          have b1:=hx.c1
          clear hall hx HK0
          by_cases hlt:k<zs.length
          . obtain ⟨b,o,Ai,ci,rfl,hb,_,_⟩ := (HA.out.keep HX2.out.below).at_ hlt
            have HTK:=Lib.hid (qbT (fun r:List Int=>decide ((r.length:Int)=cols)) zs [] k hlt)
            have HFL:=Lib.hid (qbR (fun r:List Int=>decide ((r.length:Int)=cols)) zs [] k hlt)
            have HVC:Hid (∀ W,Box2 w p m Am mod.length cm cols (some ⟨b,o,none⟩) zs.length c W->∃ Ai ci,W.cell? ⟨b,o+k,none⟩=some (.slice Ai (zs.getD k []).length ci)):=fun W hW=>by
             obtain ⟨b',o',Ai,ci,e,_,h,_⟩:=(HA.out.keep hW.below).at_ hlt
             injection e with e
             injection e with e1 e2
             subst e1 e2
             exact ⟨Ai,ci,h⟩
            have k0:(0:Int)<=(k:Int):=by omega
            have k1:(k:Int)<(zs.length:Int):=by omega
            obtain ⟨Ai,ci,yv0⟩:=HVC.out wr HX2.out
            generalize (zs.getD k []).length=n at *
            go_upto_region 9 with fail
            clear b0 b1
            refine qaH (SDrew wr) (by kernel_rfl) (by kernel_rfl) ⟨1,rfl⟩ ?_
            have b0:=HX2.out.c0
            have b1:=HX2.out.c1
            repeat (apply qaM rfl
                    . intro W hS
                      obtain ⟨n',rfl⟩:=hS
                      go_simp
                      rfl
                    go_simp)
            refine qaJ ?_
            intro w2 hS2
            obtain ⟨n2,rfl⟩:=hS2
            have HX3:=Lib.hid (HX2.out.grow (qaA (Below.refl _ _) n2))
            clear b0 b1 yv0
            by_cases hz:(n:Int)=cols
            . have hzb : ((n : Int) != cols) = false := by rw [hz];simp
              have HN:Hid ((zs.take (k+1)).all (fun r=>decide ((r.length:Int)=cols))=true):=by show _=_;rw [HTK.out,HALL.out,hz];simp
              clear hz
              go_wp2_with fail
              go_roundw
              case rel=>exact ⟨k+1,by omega,by go_num,HN.out,HX3.out⟩
              case measure=>simp [intOf];omega
            . have hzb : ((n : Int) != cols) = true := by rw [bne_iff_ne];exact hz
              have HN:Hid (errC p m mod cols zs=3):=HZ1.out (HFL.out (by simp [hz]))
              clear hz
              go_wp2_with fail
              go_ret
              exact ⟨qaD HN.out.symm,HX3.out.below⟩
          . obtain rfl : k = zs.length := by omega
            have HLEN:Hid (zs.all (fun r=>decide ((r.length:Int)=cols))=true):=by
             have:=HALL.out
             rw [List.take_length] at this
             exact this
            have HK1:Hid (RelK1 w p m Am mod.length cm cols A zs c (elemsB q) (.int .i64 ((0:Nat):Int)) wr):=⟨0,Nat.zero_le _,rfl,by simp,HX2.out⟩
            clear HALL HZ1
            go_wp2_with fail
            clear b0 b1
            go_loopw [7] (fun v7 wr=>RelK1 w p m Am mod.length cm cols A zs c (elemsB q) v7 wr) (fun v7 _=>zs.length-(intOf v7).toNat)
            case atStart=>exact HK1.out
            case round =>
             obtain ⟨k,hk,rfl,hall,hx⟩:=hrel
             have HALL:=Lib.hid hall
             have HX3:=Lib.hid hx
             have b0:=hx.c0
             have b1:=hx.c1
             clear hall hx HK1
             by_cases hlt:k<zs.length
             . obtain ⟨b,o,Ai,ci,rfl,hb,hc0,hi0⟩ := (HA.out.keep HX3.out.below).at_ hlt
               have HTK:=Lib.hid (qbT (elemsB q) zs [] k hlt)
               have HFL:=Lib.hid (qbR (elemsB q) zs [] k hlt)
               have hzl:((zs.getD k []).length:Int)=cols:=by simpa using all_at _ zs [] k hlt HLEN.out
               have HVC:Hid (∀ W,Box2 w p m Am mod.length cm cols (some ⟨b,o,none⟩) zs.length c W->Below wr.heap.size wr W->W.cell? ⟨b,o+k,none⟩=some (.slice Ai (zs.getD k []).length ci)):=fun W hW hbW=>(hbW.cell (p:=⟨b,o+k,none⟩) (by show b < _;have:=HX3.out.below.size;omega)).trans hc0
               have HCL:Hid (∀ W,Below wr.heap.size wr W->Calls Tryz.prog 86 #[.agg #[.int .i64 p,.int .i64 m,.slice Am mod.length cm],.slice Ai (zs.getD k []).length ci] W fun e w'=>e=.returned (.int .i64 (errE (elemsB q (zs.getD k []))))/\Below W.heap.size W w'):=fun W hbW =>
                rentries_c p m Am mod.length cm q (zs.getD k []) Ai ci W HORD.out ((hi0.more HX3.out.below.size).keep hbW |>.more hbW.size) (by omega)
               have k0:(0:Int)<=(k:Int):=by omega
               have k1:(k:Int)<(zs.length:Int):=by omega
               clear hc0 hi0 hzl
               generalize zs.getD k []=r at *
               generalize r.length=n at *
               go_upto_region 14 with fail
               clear b0 b1
               refine qaH (SB2 w p m Am mod.length cm cols (some ⟨b,o,none⟩) zs.length c wr) (by kernel_rfl) (by kernel_rfl) ⟨HX3.out.grow (Below.refl _ _).drew,(Below.refl _ _).drew⟩ ?_
               repeat (first
                | (refine qbG rfl 29 (.tmp 2) rfl w.heap.size 0 rfl [.int .i64 p,.int .i64 m,.slice Am mod.length cm] _ (fun W hW => hW.1.range) Tryz.underlying29 rfl fieldSize ?_
                   go_simp)
                | (apply qaM rfl
                   . intro W hS
                     have b1:=hS.1.c1
                     have yv:=HVC.out W hS.1 hS.2
                     go_simp
                     rfl
                   go_simp)
                | (apply qaV rfl
                   . intro W hS
                     go_simp
                     exact ⟨rfl,rfl⟩
                   . intro W hS
                     exact (HCL.out W hS.2).mono fun e w' ⟨he,hb⟩=>⟨he,hS.1.grow hb,hS.2.trans (hb.mono hS.2.size)⟩
                   go_simp))
               refine qaJ ?_
               intro w2 hS2
               have HX4:=Lib.hid hS2.1
               clear hS2
               cases hz:elemsB q r
               . have HN : Hid (errC p m mod cols zs = 2) := HZ2.out HLEN.out (HFL.out hz)
                 have he:errE false=2:=rfl
                 rw [he]
                 clear hz HTK HFL HVC HCL he
                 go_wp2_with fail
                 go_ret
                 exact ⟨qaD HN.out.symm,HX4.out.below⟩
               . have HN : Hid ((zs.take (k + 1)).all (elemsB q) = true) := by show _ = _;rw [HTK.out,HALL.out,hz];rfl
                 have he:errE true=0:=rfl
                 rw [he]
                 clear hz HTK HFL HVC HCL he
                 go_wp2_with fail
                 go_roundw
                 case rel=>exact ⟨k+1,by omega,by go_num,HN.out,HX4.out⟩
                 case measure=>simp [intOf];omega
             . have HN : Hid (errC p m mod cols zs = 0) := HZ3.out HLEN.out (by have := HALL.out;rw [List.take_of_length_le (by omega)] at this;exact this)
               go_wp2_with fail
               go_ret
               exact ⟨qaD HN.out.symm,HX3.out.below⟩
end Go.Proofs.YtlmglaonldlanaaGreat
namespace Go.Proofs.YtlmglaonldlanaaGreat
open Go.RowKit Pln
theorem PivAt.neR {w:World} {base B R cR n:Nat} {v:Value} {piv:List Nat} {rows:List (List Nat)} {bs:List (Nat × Nat)} (hp:PivAt w base v piv n bs) (hg:GridAt w B R cR rows bs):v.ownBlock≠some R:=by
 intro e
 rcases hp.1.2 with ⟨rfl,_⟩ | ⟨g,cap,cur,rfl,_,hh,_⟩
 . cases e
 . have : g = R := by simpa [Value.ownBlock] using e
   subst this
   obtain ⟨c1,e1⟩:=qeC hg.out
   rw [e1] at hh
   injection hh with hh
   injection hh with _ ht
   exact absurd ht (by decide)
theorem GridAt.same {w:World} {B R cR:Nat} {rows:List (List Nat)} {bs:List (Nat × Nat)} (h:GridAt w B R cR rows bs) {i:Nat} (_hi:i<rows.length):GridAt (w.setCell ⟨R,i,none⟩ (hdr rows bs i)) B R cR rows bs:=by
 refine ⟨h.len,?_,fun j hj=>(h.row j hj).far (p:=⟨R,i,none⟩) (h.ne (h.row j hj)) _,h.nd⟩
 have:=(World.ownsRow.stored h.out i (hdr rows bs i)).1
 have e:(hdrs rows bs).set i (hdr rows bs i)=hdrs rows bs:=by
  apply List.ext_getElem
  . simp
  . intro j h1 h2
    rw [List.getElem_set]
    by_cases hij:i=j
    . subst hij
      rw [if_pos rfl]
      simp [hdrs]
    . rw [if_neg hij]
 rw [e] at this
 exact this
def ES (w:World) (p m:Nat) (A:Option Addr) (n cA R cR:Nat) (rows:List (List Nat)) (N:Nat) (v9:Value) (piv:List Nat) (bs:List (Nat × Nat)) (wr:World):Prop :=
 SBoxF w p m A n cA wr/\GridAt wr (w.heap.size+1) R cR rows bs/\PivAt wr (w.heap.size+1) v9 piv N bs/\rows.length=N
section
variable {w:World} {p m:Nat} {A:Option Addr} {n cA R cR:Nat} {rows:List (List Nat)} {N:Nat} {v9:Value} {piv:List Nat} {bs:List (Nat × Nat)} {wr wx:World}
theorem ES.grow (h:ES w p m A n cA R cR rows N v9 piv bs wr) (hb:Below wr.heap.size wr wx):ES w p m A n cA R cR rows N v9 piv bs wx:=by
 obtain ⟨h1,h2,h3,h4⟩:=h
 exact ⟨h1.grow hb,h2.grow hb,h3.grow hb,h4⟩
theorem ES.hd (h:ES w p m A n cA R cR rows N v9 piv bs wr) {q cols:Nat} (hg:Grid q N cols rows) {i:Nat} (hi:i<N):wr.cell? ⟨R,i,none⟩=some (.slice (some ⟨bk bs i,0,none⟩) cols (cp bs i)):=by
 have:=h.2.1.cell (i:=i) (by rw [h.2.2.2];exact hi)
 rw [(hg.row hi).1] at this
 exact this
theorem ES.en (h:ES w p m A n cA R cR rows N v9 piv bs wr) {q cols:Nat} (hg:Grid q N cols rows) {i c:Nat} (hi:i<N) (hc:c<cols):wr.cell? ⟨bk bs i,c,none⟩=some (.int .i64 ((at2 rows i c:Nat):Int)):=by
 have h2:=h.2.1.row i (by rw [h.2.2.2];exact hi)
 have:=h2.cell (j:=c) (by rw [qaB,(hg.row hi).1];exact hc)
 rw [qaF] at this
 exact this
theorem ES.ints (h:ES w p m A n cA R cR rows N v9 piv bs wr) {i:Nat} (hi:i<N):IntsAt wr wr.heap.size (some ⟨bk bs i,0,none⟩) (nz (rows.getD i [])):=by
 have h2:=h.2.1.row i (by rw [h.2.2.2];exact hi)
 exact h2.ints h2.lt.2
theorem ES.swap (h:ES w p m A n cA R cR rows N v9 piv bs wr) {i j:Nat} (hi:i<N) (hj:j<N):∃ bs',ES w p m A n cA R cR (swapRows rows i j) N v9 piv bs' ((wr.setCell ⟨R,i,none⟩ (hdr rows bs j)).setCell ⟨R,j,none⟩ (hdr rows bs i)):=by
 obtain ⟨h1,h2,h3,h4⟩:=h
 have hR:=h2.lt.1
 have hnR:=h3.neR h2
 by_cases hij:i=j
 . subst hij
   refine ⟨bs,(h1.wrote hR _).wrote hR _,?_,?_,by rw [swap_len,h4]⟩
   . rw [swap_self rows i (by omega)]
     exact (h2.same (by omega)).same (by omega)
   . exact (h3.grown (qbQ wr ⟨R,i,none⟩ _) hnR h3.2).grown (qbQ _ ⟨R,i,none⟩ _) hnR h3.2
 . have hb := bk_swap (n := N) (by rw [h2.len,h4]) hi hj (fun b => v9.ownBlock ≠ some b) h3.2
   refine ⟨SwapBs bs i j,(h1.wrote hR _).wrote hR _,h2.swap (by omega) (by omega) hij,?_,by rw [swap_len,h4]⟩
   exact (h3.grown (qbQ wr ⟨R,i,none⟩ _) hnR h3.2).grown (qbQ _ ⟨R,j,none⟩ _) hnR hb
theorem ES.put (h:ES w p m A n cA R cR rows N v9 piv bs wr) (hb:Below wr.heap.size wr wx) {i:Nat} (hi:i<N) {g c:Nat} {r:List Nat} (hr:Row wx wr.heap.size g c (nz r)):ES w p m A n cA R cR (rows.set i r) N v9 piv (bs.set i (g,c)) (wx.setCell ⟨R,i,none⟩ (.slice (some ⟨g,0,none⟩) r.length c)):=by
 have hx:=h.grow hb
 obtain ⟨h1,h2,h3,h4⟩:=hx
 have hsz:w.heap.size+1<=wr.heap.size:=h.1.2.1
 have hrl:=hr.lt.1
 refine ⟨h1.wrote h2.lt.1 _,h2.put (by omega) (hr.base (B':=w.heap.size+1) (by omega)) (fun j hj=>by have:=(h.2.1.row j hj).lt.2;omega),?_,by rw [List.length_set,h4]⟩
 refine h3.grown (qbQ wx ⟨R,i,none⟩ _) (h3.neR h2) (bk_set (n:=N) (by rw [h2.len,h4]) hi (fun b=>v9.ownBlock≠some b) ?_ h3.2)
 intro e
 have:=(h.2.2.1.1.lt g e).2
 omega
end
theorem ES.push {w:World} {p m:Nat} {A:Option Addr} {n cA R cR:Nat} {rows:List (List Nat)} {N:Nat} {v9:Value} {piv:List Nat} {bs:List (Nat × Nat)} {wr w3:World} (h:ES w p m A n cA R cR rows N v9 piv bs wr) {c:Nat} {v':Value} {o:Obj} (hown:w3.ownsRow (w.heap.size+1) 3 1 v' (piv.length+1) ((nz piv).map (Value.int .i64)++[.int .i64 (c:Int)]))
 (hg:(wr.alloc o).grownBy w3 v9.ownBlock) (hat:v'.ownBlock=v9.ownBlock\/v'.ownBlock=some (wr.heap.size+1)):∃ (VA':Option Addr) (Vk':Nat),v'=.slice VA' (piv++[c]).length Vk'/\ES w p m A n cA R cR rows N (.slice VA' (piv++[c]).length Vk') (piv++[c]) bs w3:=by
 have ha:=h.grow ((Below.refl _ _).alloc (Nat.le_refl _) o)
 have hlo:∀ g,v9.ownBlock=some g->w.heap.size+1<=g:=fun g e=>(h.2.2.1.1.lt g e).1
 obtain ⟨h1,h2,h3,h4⟩:=ha
 have hnR:=h3.neR h2
 have hbw:Below w.heap.size (wr.alloc o) w3:=⟨hg.os,hg.tape,hg.output,hg.size,fun k hk=>hg.block k (by have:=h1.2.1;omega) (fun e=>by have:=hlo k e.symm;omega)⟩
 have hx:SBoxF w p m A n cA w3:=⟨h1.1.trans hbw,Nat.lt_of_lt_of_le h1.2.1 hg.size,(hg.block w.heap.size h1.2.1 (fun e=>by have:=hlo _ e.symm;omega)).trans h1.2.2⟩
 have hgd:GridAt w3 (w.heap.size+1) R cR rows bs:=h2.kept hg hnR (fun i hi=>h3.2 i (by omega))
 have e1:(piv++[c]).length=piv.length+1:=by simp
 have e2:(nz (piv++[c])).map (Value.int .i64)=(nz piv).map (Value.int .i64)++[.int .i64 (c:Int)]:=by simp [nz]
 obtain ⟨VA,ck,rfl,_⟩:=qbO hown
 refine ⟨VA,ck,by rw [e1],hx,hgd,⟨by rw [e1,e2];exact hown,fun j hj=>?_⟩,h4⟩
 rw [e1]
 rcases hat with e | e
 . rw [e];exact h3.2 j hj
 . rw [e]
   intro e'
   injection e' with e'
   have:=(h.2.1.row j (by rw [h.2.2.2];exact hj)).lt.2
   omega
theorem hdr_eq {q N cols:Nat} {rows:List (List Nat)} (hg:Grid q N cols rows) (bs:List (Nat × Nat)) {i:Nat} (hi:i<N):hdr rows bs i=.slice (some ⟨bk bs i,0,none⟩) cols (cp bs i):=by
 unfold hdr
 rw [(hg.row hi).1]
end Go.Proofs.YtlmglaonldlanaaGreat
