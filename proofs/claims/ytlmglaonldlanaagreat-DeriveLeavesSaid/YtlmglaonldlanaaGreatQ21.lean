/-
 The reference's field: Check. The reference's field: Is, In, Digits, Value.
-/
import Derived.Test.YtlmglaonldlanaaGreatQ20
namespace Go.Proofs.YtlmglaonldlanaaGreat
open Go.RowKit Pln
theorem fieldOK_order {p m:Int} {mod:List Int} (h:orderM p m=0):fieldOK p m mod=false:=by
 rw [qeY]
 unfold shapeM
 rw [h]
 rfl
theorem fieldOK_prime {p m:Int} {mod:List Int} (h:primeB p.toNat=false):fieldOK p m mod=false:=by
 rw [qeY]
 unfold shapeM primeP
 rw [h]
 simp
theorem shape_of {p m:Int} {mod:List Int} (ho:orderM p m≠0) (hp:primeB p.toNat=true):shapeM p m mod=(if m=1 then mod.length==0 else ((mod.length:Int)==m) && mod.all (inB p)):=by
 have h2:=(orderM_ne ho).2.2.1.p1
 unfold shapeM primeP
 rw [hp,show (orderM p m==0)=false by rw [beq_eq_false_iff_ne];exact ho,show Nat.ble 2 p.toNat=true by rw [Nat.ble_eq];exact h2]
 simp
theorem fieldOK_one {p m:Int} {mod:List Int} (ho:orderM p m≠0) (hp:primeB p.toNat=true) (hm:m=1):fieldOK p m mod=(mod.length==0):=by
 rw [qeY,shape_of ho hp,if_pos hm]
 simp [hm]
theorem fieldOK_more {p m:Int} {mod:List Int} (ho:orderM p m≠0) (hp:primeB p.toNat=true) (hm:m≠1):fieldOK p m mod=(((mod.length:Int)==m) && mod.all (inB p) && irrM p.toNat (mod.map Int.toNat)):=by
 rw [qeY,shape_of ho hp,if_neg hm]
 simp [hm]
theorem map_nz {p:Int} {mod:List Int} (h:mod.all (inB p)=true):nz (mod.map Int.toNat)=mod/\∀ d∈mod.map Int.toNat,d<p.toNat:=by
 have hall:∀ z∈mod,0<=z/\z<p:=fun z hz=>by
  have:=List.all_eq_true.1 h z hz
  simpa [inB] using this
 refine ⟨?_,fun d hd=>?_⟩
 . unfold nz
   rw [List.map_map]
   conv=>rhs;rw [<- List.map_id mod]
   apply List.map_congr_left
   intro z hz
   have:=hall z hz
   simp
   omega
 . obtain ⟨z,hz,rfl⟩ := List.mem_map.1 hd
   have:=hall z hz
   omega
def RelMo (w1:World) (p:Int) (mod:List Int) (v3:Value) (wr:World):Prop:=∃ k n:Nat,k<=mod.length/\v3=.int .i64 k/\(mod.take k).all (inB p)=true/\wr=w1.drewN n
set_option maxHeartbeats 1000000 in
set_option maxRecDepth 100000 in
theorem rfcheck_c (p m:Int) (mod:List Int) (A:Option Addr) (c:Nat) (w:World) (hA:IntsAt w w.heap.size A mod) (hl:mod.length<=9223372036854775807) :
 Calls Tryz.prog 18 #[.agg #[.int .i64 p,.int .i64 m,.slice A mod.length c]] w fun e w'=>e=.returned (.int .i64 (errF (fieldOK p m mod)))/\Below w.heap.size w w':=by
 have HX:Hid (SBoxF w p m A mod.length c (w.alloc (.cells #[.int .i64 p,.int .i64 m,.slice A mod.length c] 29))):=⟨(Below.refl _ _).alloc (Nat.le_refl _) _,by simp,heap_alloc_new _ _⟩
 have HA:=Lib.hid hA
 clear hA
 go_enter Tryz.func18,Tryz.ntmps18
 go_upto_region 1 with fail
 generalize w.alloc (.cells #[.int .i64 p,.int .i64 m,.slice A mod.length c] 29)=W0 at *
 have HRG:Hid (W0.rangeAt w.heap.size 0 [.int .i64 p,.int .i64 m,.slice A mod.length c]):=qaC HX.out.2.2
 have HC:=Lib.hid (rorder_c p m A mod.length c W0)
 by_cases ho:orderM p m=0
 . have HF : Hid (errF (fieldOK p m mod) = 1) := by show _ = _;rw [fieldOK_order ho];rfl
   rw [ho] at HC
   clear ho
   go_wp2_with (refine wpList_load_mid rfl 29 (.tmp 1) rfl w.heap.size 0 rfl [.int .i64 p,.int .i64 m,.slice A mod.length c] _ HRG.out Tryz.underlying29 rfl fieldSize ?_)
   (with_reducible refine HC.out.mono ?_)
   rintro e w1 ⟨rfl,hb1⟩
   have HX1:=Lib.hid (HX.out.grow hb1)
   clear hb1
   go_wp2_with fail
   go_ret
   exact ⟨qaD HF.out.symm,HX1.out.1⟩
 . have HO := Lib.hid ho
   obtain ⟨hp0,hm0,hs,hord⟩:=orderM_ne ho
   have hob:(orderM p m==0)=false:=by rw [beq_eq_false_iff_ne];exact ho
   have HPR:Hid (∀ W:World,Calls Tryz.prog 34 #[.int .i64 p] W fun e w'=>e=.returned (.bool (primeB p.toNat))/\W=w'):=fun W=>by
    have:=rprime_c p.toNat (by have:=hs.p2;omega) W
    rw [hp0] at this
    exact this
   have HP0:=Lib.hid hp0
   have HM0:=Lib.hid hm0
   have HS:=Lib.hid hs
   have hm9:m<=8:=by have:=hs.m2;omega
   have hm1:1<=m:=by have:=hs.m1;omega
   have hp9:p<=256:=by have:=hs.p2;omega
   have hp1:2<=p:=by have:=hs.p1;omega
   have HONE:Hid (primeB p.toNat=true->m=1->fieldOK p m mod=(mod.length==0)):=fun h h'=>fieldOK_one ho h h'
   have HMORE:Hid (primeB p.toNat=true->m≠1->fieldOK p m mod=(((mod.length:Int)==m) && mod.all (inB p) && irrM p.toNat (mod.map Int.toNat))):=fun h h'=>fieldOK_more ho h h'
   clear ho hp0 hm0 hs hord
   generalize orderM p m=q at *
   cases hpr:primeB p.toNat
   . have HF : Hid (errF (fieldOK p m mod) = 1) := by show _ = _;rw [fieldOK_prime hpr];rfl
     rw [hpr] at HPR
     clear hpr
     go_wp2_with (refine wpList_load_mid rfl 29 (.tmp 1) rfl w.heap.size 0 rfl [.int .i64 p,.int .i64 m,.slice A mod.length c] _ HRG.out Tryz.underlying29 rfl fieldSize ?_)
     (with_reducible refine HC.out.mono ?_)
     rintro e w1 ⟨rfl,hb1⟩
     have HX1:=Lib.hid (HX.out.grow hb1)
     have b0:w1.cell? ⟨w.heap.size,0,none⟩=some (.int .i64 p):=cell_of_row _ _ 0 _ _ _ HX1.out.2.2
     clear hb1
     go_wp2_with (go_at_call 34;(with_reducible refine (HPR.out _).mono ?_);rintro e w' ⟨rfl,rfl⟩)
     go_ret
     exact ⟨qaD HF.out.symm,HX1.out.1⟩
   . have HPB := Lib.hid hpr
     rw [hpr] at HPR
     clear hpr
     go_wp2_with (refine wpList_load_mid rfl 29 (.tmp 1) rfl w.heap.size 0 rfl [.int .i64 p,.int .i64 m,.slice A mod.length c] _ HRG.out Tryz.underlying29 rfl fieldSize ?_)
     (with_reducible refine HC.out.mono ?_)
     rintro e w1 ⟨rfl,hb1⟩
     have HX1:=Lib.hid (HX.out.grow hb1)
     have b0:w1.cell? ⟨w.heap.size,0,none⟩=some (.int .i64 p):=cell_of_row _ _ 0 _ _ _ HX1.out.2.2
     have b1:w1.cell? ⟨w.heap.size,1,none⟩=some (.int .i64 m):=cell_of_row _ _ 1 _ _ _ HX1.out.2.2
     have b2:w1.cell? ⟨w.heap.size,2,none⟩=some (.slice A mod.length c):=cell_of_row _ _ 2 _ _ _ HX1.out.2.2
     clear hb1 HC HRG HX
     clear W0
     by_cases hm:m=1
     . have HF1 := Lib.hid (HONE.out HPB.out hm)
       by_cases hz:mod.length=0
       . have HF : Hid (errF (fieldOK p m mod) = 0) := by show _ = _;rw [HF1.out,hz];rfl
         have hzb:((mod.length:Int) != 0)=false:=by rw [hz];rfl
         have hmb:(m==1)=true:=by rw [hm];rfl
         clear hz hm
         go_wp2_with (go_at_call 34;(with_reducible refine (HPR.out _).mono ?_);rintro e w' ⟨rfl,rfl⟩)
         go_ret
         exact ⟨qaD HF.out.symm,HX1.out.1⟩
       . have HF : Hid (errF (fieldOK p m mod) = 1) := by show _ = _;rw [HF1.out,show (mod.length == 0) = false by simpa using hz];rfl
         have hzb:((mod.length:Int) != 0)=true:=by rw [bne_iff_ne];omega
         have hmb:(m==1)=true:=by rw [hm];rfl
         clear hz hm
         go_wp2_with (go_at_call 34;(with_reducible refine (HPR.out _).mono ?_);rintro e w' ⟨rfl,rfl⟩)
         go_ret
         exact ⟨qaD HF.out.symm,HX1.out.1⟩
     . have HF1 := Lib.hid (HMORE.out HPB.out hm)
       have hmb:(m==1)=false:=by rw [beq_eq_false_iff_ne];exact hm
       have HMN:=Lib.hid hm
       clear hm
       by_cases hz:(mod.length:Int)=m
       . have hzb : ((mod.length : Int) != m) = false := by rw [hz];simp
         have HZ:=Lib.hid hz
         have hml:mod.length<=8:=by omega
         clear hz
         have HA1:=Lib.hid ((HA.out.keep HX1.out.1).more HX1.out.1.size)
         have HB1:Hid (∀ n,Below w.heap.size w (w1.drewN n)):=fun n=>qaA HX1.out.1 n
         have HALLF:Hid (mod.all (inB p)=false->errF (fieldOK p m mod)=1):=fun h=>by rw [HF1.out,h,Bool.and_false,Bool.false_and];rfl
         have HALLT:Hid (mod.all (inB p)=true->errF (fieldOK p m mod)=errF (irrM p.toNat (mod.map Int.toNat))):=fun h=>by
          rw [HF1.out,h,show ((mod.length:Int)==m)=true by rw [beq_iff_eq];exact HZ.out]
          rfl
         have HIRR:Hid (mod.all (inB p)=true->∀ n,Calls Tryz.prog 35 #[.slice A mod.length c,.int .i64 p] (w1.drewN n) fun e w'=>e=.returned (.bool (irrM p.toNat (mod.map Int.toNat)))/\Below w1.heap.size (w1.drewN n) w'):=fun h n=>by
          obtain ⟨h1,h2⟩:=map_nz h
          have hml2:(mod.map Int.toNat).length=mod.length:=by simp
          have:=rirr_c p.toNat (mod.map Int.toNat) A c (w1.drewN n) (by have:=HP0.out;omega) (by have:=HP0.out;omega) (by rw [h1];exact HA1.out.keep (qaA (Below.refl _ _) n)) ⟨rfl,h2⟩ (by rw [hml2];exact hml) (by
           rw [hml2]
           have e:mod.length=m.toNat:=by have:=HZ.out;have:=HM0.out;omega
           rw [e]
           exact HS.out.q)
          rw [hml2,HP0.out] at this
          exact this
         clear HF1 HMORE HONE
         go_wp2_with (go_at_call 34;(with_reducible refine (HPR.out _).mono ?_);rintro e w' ⟨rfl,rfl⟩)
         go_loopw [3] (fun v3 wr=>RelMo w1 p mod v3 wr) (fun v3 _=>mod.length-(intOf v3).toNat)
         case atStart=>exact ⟨0,0,by omega,rfl,by simp,rfl⟩
         case round =>
          obtain ⟨k,n,hk,rfl,hall,rfl⟩:=hrel
          have HALL:=Lib.hid hall
          clear hall
          have hkm:(k:Int)<=m:=by have:=HZ.out;omega
          by_cases hlt:k<mod.length
          . obtain ⟨b,o,rfl,hbl,hc⟩ := HA1.out.at_ hlt
            have HTK:=Lib.hid (qbT (inB p) mod 0 k hlt)
            have HFL:=Lib.hid (qbR (inB p) mod 0 k hlt)
            have hkm2:(k:Int)<m:=by have:=HZ.out;omega
            have k0:(0:Int)<=(k:Int):=by omega
            have k1:(k:Int)<(mod.length:Int):=by omega
            generalize mod.getD k 0=z at *
            by_cases hz1:z<0
            . have HE : Hid (errF (fieldOK p m mod) = 1) := HALLF.out (HFL.out (by unfold inB;rw [decide_eq_false (by omega)];rfl))
              clear HTK HFL
              go_upto_region 12 with fail
              refine qaH (SDrew w1) (by kernel_rfl) (by kernel_rfl) ⟨n+1,by rw [<- World.drewN_drewN];rfl⟩ ?_
              repeat (first
               | (apply qaM rfl
                  . intro W hS
                    obtain ⟨n',rfl⟩:=hS
                    go_simp
                    rfl
                  go_simp)
               | (apply qcB rfl
                  . intro W hS
                    obtain ⟨n',rfl⟩:=hS
                    go_simp
                    rfl
                  go_simp)
               | (apply qcJ rfl;go_simp))
              refine qaJ ?_
              intro w2 hS2
              obtain ⟨n2,rfl⟩:=hS2
              go_wp2_with fail
              go_ret
              exact ⟨qaD HE.out.symm,HB1.out _⟩
            . have hz1b : decide (z < 0) = false := decide_eq_false hz1
              by_cases hz2:p<=z
              . have HE : Hid (errF (fieldOK p m mod) = 1) := HALLF.out (HFL.out (by unfold inB;rw [decide_eq_false (p := z < p) (by omega),Bool.and_false]))
                clear HTK HFL
                go_upto_region 12 with fail
                refine qaH (SDrew w1) (by kernel_rfl) (by kernel_rfl) ⟨n+1,by rw [<- World.drewN_drewN];rfl⟩ ?_
                repeat (first
                 | (apply qaM rfl
                    . intro W hS
                      obtain ⟨n',rfl⟩:=hS
                      go_simp
                      rfl
                    go_simp)
                 | (apply qcB rfl
                    . intro W hS
                      obtain ⟨n',rfl⟩:=hS
                      go_simp
                      rfl
                    go_simp)
                 | (apply qcJ rfl;go_simp))
                refine qaJ ?_
                intro w2 hS2
                obtain ⟨n2,rfl⟩:=hS2
                go_wp2_with fail
                go_ret
                exact ⟨qaD HE.out.symm,HB1.out _⟩
              . have hz2b : decide (p <= z) = false := decide_eq_false hz2
                have HN:Hid ((mod.take (k+1)).all (inB p)=true):=by show _=_;rw [HTK.out,HALL.out];unfold inB;rw [decide_eq_true (by omega:0<=z),decide_eq_true (by omega:z<p)];rfl
                clear HTK HFL
                go_upto_region 12 with fail
                refine qaH (SDrew w1) (by kernel_rfl) (by kernel_rfl) ⟨n+1,by rw [<- World.drewN_drewN];rfl⟩ ?_
                repeat (first
                 | (apply qaM rfl
                    . intro W hS
                      obtain ⟨n',rfl⟩:=hS
                      go_simp
                      rfl
                    go_simp)
                 | (apply qcB rfl
                    . intro W hS
                      obtain ⟨n',rfl⟩:=hS
                      go_simp
                      rfl
                    go_simp)
                 | (apply qcJ rfl;go_simp))
                refine qaJ ?_
                intro w2 hS2
                obtain ⟨n2,rfl⟩:=hS2
                go_wp2_with fail
                go_roundw
                case rel=>exact ⟨k+1,n2,by omega,by go_num,HN.out,rfl⟩
                case measure=>simp [intOf];omega
          . have hke : k = mod.length := by omega
            have HAT:Hid (mod.all (inB p)=true):=by
             have:=HALL.out
             rw [hke,List.take_length] at this
             exact this
            have hkm2:¬ (k:Int)<m:=by have:=HZ.out;omega
            have HC2:=Lib.hid (HIRR.out HAT.out n)
            have HE:=Lib.hid (HALLT.out HAT.out)
            clear HALL HIRR HALLT HALLF hke
            generalize irrM p.toNat (mod.map Int.toNat)=ir at *
            go_wp2_with fail
            (with_reducible refine HC2.out.mono ?_)
            rintro e w2 ⟨rfl,hb2⟩
            have HB2:=Lib.hid ((HB1.out n).trans (hb2.mono (by have:=HX1.out.2.1;omega)))
            clear hb2
            cases ir
            . go_wp2_with fail
              go_ret
              exact ⟨qaD HE.out.symm,HB2.out⟩
            . go_wp2_with fail
              go_ret
              exact ⟨qaD HE.out.symm,HB2.out⟩
       . have HF : Hid (errF (fieldOK p m mod) = 1) := by show _ = _;rw [HF1.out,show ((mod.length : Int) == m) = false by rw [beq_eq_false_iff_ne];exact hz];rfl
         have hzb:((mod.length:Int) != m)=true:=by rw [bne_iff_ne];exact hz
         clear hz
         go_wp2_with (go_at_call 34;(with_reducible refine (HPR.out _).mono ?_);rintro e w' ⟨rfl,rfl⟩)
         go_ret
         exact ⟨qaD HF.out.symm,HX1.out.1⟩
end Go.Proofs.YtlmglaonldlanaaGreat
namespace Go.Proofs.YtlmglaonldlanaaGreat
open Go.RowKit Pln
theorem SBoxF.c0 {w:World} {p m:Int} {A:Option Addr} {n c:Nat} {W:World} (h:SBoxF w p m A n c W):W.cell? ⟨w.heap.size,0,none⟩=some (.int .i64 p):=cell_of_row _ _ 0 _ _ _ h.2.2
theorem SBoxF.c1 {w:World} {p m:Int} {A:Option Addr} {n c:Nat} {W:World} (h:SBoxF w p m A n c W):W.cell? ⟨w.heap.size,1,none⟩=some (.int .i64 m):=cell_of_row _ _ 1 _ _ _ h.2.2
theorem SBoxF.c2 {w:World} {p m:Int} {A:Option Addr} {n c:Nat} {W:World} (h:SBoxF w p m A n c W):W.cell? ⟨w.heap.size,2,none⟩=some (.slice A n c):=cell_of_row _ _ 2 _ _ _ h.2.2
theorem SBoxF.range {w:World} {p m:Int} {A:Option Addr} {n c:Nat} {W:World} (h:SBoxF w p m A n c W):W.rangeAt w.heap.size 0 [.int .i64 p,.int .i64 m,.slice A n c]:=qaC h.2.2
theorem qbP (w:World) (p m:Int) (A:Option Addr) (n c:Nat):SBoxF w p m A n c (w.alloc (.cells #[.int .i64 p,.int .i64 m,.slice A n c] 29)):=⟨(Below.refl _ _).alloc (Nat.le_refl _) _,by simp,heap_alloc_new _ _⟩
set_option maxHeartbeats 1000000 in
set_option maxRecDepth 100000 in
theorem ris_c (p m:Int) (A:Option Addr) (n c:Nat) (x:Int) (w:World):Calls Tryz.prog 41 #[.agg #[.int .i64 p,.int .i64 m,.slice A n c],.int .i64 x] w fun e w'=>e=.returned (.bool (inB (orderM p m) x))/\Below w.heap.size w w':=by
 have HX:Hid (SBoxF w p m A n c (w.alloc (.cells #[.int .i64 p,.int .i64 m,.slice A n c] 29))):=⟨(Below.refl _ _).alloc (Nat.le_refl _) _,by simp,heap_alloc_new _ _⟩
 go_enter Tryz.func41,Tryz.ntmps41
 go_upto_region 1 with fail
 generalize w.alloc (.cells #[.int .i64 p,.int .i64 m,.slice A n c] 29)=W0 at *
 have HRG:Hid (W0.rangeAt w.heap.size 0 [.int .i64 p,.int .i64 m,.slice A n c]):=qaC HX.out.2.2
 by_cases h0:x<0
 . have HE : Hid (inB (orderM p m) x = false) := by show _ = _;unfold inB;rw [decide_eq_false (by omega)];rfl
   have hb:decide (0<=x)=false:=decide_eq_false (by omega)
   clear h0
   go_wp2_with fail
   go_ret
   exact ⟨qaO HE.out.symm,HX.out.1⟩
 . have HE : Hid (inB (orderM p m) x = decide (x < orderM p m)) := by show _ = _;unfold inB;rw [decide_eq_true (by omega)];rfl
   have hb:decide (0<=x)=true:=decide_eq_true (by omega)
   have HC:=Lib.hid (rorder_c p m A n c W0)
   have b0:=HX.out.c0
   have b1:=HX.out.c1
   have b2:=HX.out.c2
   clear h0
   go_wp2_with fail
   (with_reducible refine HC.out.mono ?_)
   rintro e w1 ⟨rfl,hb1⟩
   have HX1:=Lib.hid (HX.out.grow hb1)
   clear hb1 b0 b1 b2
   go_wp2_with fail
   go_ret
   exact ⟨qaO HE.out.symm,HX1.out.1⟩
set_option maxHeartbeats 1000000 in
set_option maxRecDepth 100000 in
theorem rin_c (p m:Nat) (A:Option Addr) (n c x:Nat) (w:World) (hs:Small p m) (hx:x<p ^ m):Calls Tryz.prog 22 #[.agg #[.int .i64 p,.int .i64 m,.slice A n c],.int .i64 x] w fun e w'=>e=.returned (.int .i64 x)/\Below w.heap.size w w':=by
 have HX:=Lib.hid (qbP w p m A n c)
 have hin:inB (orderM p m) x=true:=by
  rw [qdD hs.p1 hs.p2 hs.m1 hs.m2,if_neg (by have:=hs.q;omega)]
  unfold inB
  rw [decide_eq_true (by omega),decide_eq_true (by omega)]
  rfl
 have HIN:=Lib.hid hin
 clear hs hx hin
 go_enter Tryz.func22,Tryz.ntmps22
 go_upto_region 1 with fail
 generalize w.alloc (.cells #[.int .i64 (p:Int),.int .i64 (m:Int),.slice A n c] 29)=W0 at *
 have HRG:=Lib.hid HX.out.range
 have HC:=Lib.hid (ris_c p m A n c x W0)
 rw [HIN.out] at HC
 go_wp2_with (refine wpList_load_mid rfl 29 (.tmp 2) rfl w.heap.size 0 rfl [.int .i64 (p:Int),.int .i64 (m:Int),.slice A n c] _ HRG.out Tryz.underlying29 rfl fieldSize ?_)
 (with_reducible refine HC.out.mono ?_)
 rintro e w1 ⟨rfl,hb1⟩
 have HX1:=Lib.hid (HX.out.grow hb1)
 clear hb1
 go_wp2_with fail
 go_ret
 exact ⟨rfl,HX1.out.1⟩
set_option maxHeartbeats 1000000 in
set_option maxRecDepth 100000 in
theorem rdig_c (p m:Nat) (A:Option Addr) (n c x:Nat) (w:World) (hs:Small p m) (hx:x<p ^ m):Calls Tryz.prog 151 #[.agg #[.int .i64 p,.int .i64 m,.slice A n c],.int .i64 x] w fun e w'=>(∃ g,e=.returned (.slice (some ⟨g,0,none⟩) m m)/\Row w' w.heap.size g m (nz (digs p m x)))/\Below w.heap.size w w':=by
 have HX:=Lib.hid (qbP w p m A n c)
 have HIN:Hid (∀ W:World,Calls Tryz.prog 22 #[.agg #[.int .i64 p,.int .i64 m,.slice A n c],.int .i64 x] W fun e w'=>e=.returned (.int .i64 x)/\Below W.heap.size W w'):=fun W=>rin_c p m A n c x W hs hx
 have HDG:Hid (∀ W:World,Calls Tryz.prog 85 #[.int .i64 x,.int .i64 p,.int .i64 m] W fun e w'=>e=.returned (.slice (some ⟨W.heap.size,0,none⟩) m m)/\Row w' W.heap.size W.heap.size m (nz (digs p m x))/\Below W.heap.size W w'):=fun W=>rdigits_c x p m W (by have:=hs.q;omega) (by have:=hs.p1;omega) (by have:=hs.p2;omega) (by have:=hs.m2;omega)
 clear hs hx
 go_enter Tryz.func151,Tryz.ntmps151
 go_upto_region 1 with fail
 generalize w.alloc (.cells #[.int .i64 (p:Int),.int .i64 (m:Int),.slice A n c] 29)=W0 at *
 have z0:=HX.out.c0
 have z1:=HX.out.c1
 have z2:=HX.out.c2
 have hlt0:w.heap.size<W0.heap.size:=HX.out.2.1
 go_region_held3 (fun w'=>w'.cell? ⟨w.heap.size,0,none⟩=some (.int .i64 p)/\w'.cell? ⟨w.heap.size,1,none⟩=some (.int .i64 m)/\w'.cell? ⟨w.heap.size,2,none⟩=some (.slice A n c)/\w.heap.size<w'.heap.size)
  (first | go_keep | (go_split_ands;first | exact ⟨(hbd2.cell (p:=⟨w.heap.size,0,none⟩) (by assumption)).trans (by assumption),(hbd2.cell (p:=⟨w.heap.size,1,none⟩) (by assumption)).trans (by assumption),(hbd2.cell (p:=⟨w.heap.size,2,none⟩) (by assumption)).trans (by assumption),Nat.lt_of_lt_of_le (by assumption) hbd2.size⟩ | exact ⟨(hbd1.cell (p:=⟨w.heap.size,0,none⟩) (by assumption)).trans (by assumption),(hbd1.cell (p:=⟨w.heap.size,1,none⟩) (by assumption)).trans (by assumption),(hbd1.cell (p:=⟨w.heap.size,2,none⟩) (by assumption)).trans (by assumption),Nat.lt_of_lt_of_le (by assumption) hbd1.size⟩))
  (first | ((with_reducible refine (HIN.out _).mono ?_);rintro e wd1 ⟨rfl,hbd1⟩) | ((with_reducible refine (HDG.out _).mono ?_);rintro e wd2 ⟨rfl,hrowa,hbd2⟩))
 have e1:Below W0.heap.size W0 wd1:=⟨hbd1.os,hbd1.tape,hbd1.output,hbd1.size,hbd1.block⟩
 have HB:Hid (Below w.heap.size w wd2):=HX.out.1.trans ((e1.mono (Nat.le_of_lt hlt0)).trans (hbd2.mono (by have:=e1.size;omega)))
 have HR:Hid (Row wd2 w.heap.size wd1.heap.size m (nz (digs p m x))):=hrowa.base (by have:=e1.size;omega)
 clear z0 z1 z2 hrowa hbd1 hbd2
 go_wp2_with fail
 go_ret
 exact ⟨⟨_,rfl,HR.out⟩,HB.out⟩
def RelVa (W0:World) (p:Nat) (l:List Nat) (v5 v6:Value) (wr:World):Prop:=∃ k n:Nat,k<=l.length/\v6=.int .i64 ((k:Int)-1)/\v5=.int .i64 ((val p (l.drop k):Nat):Int)/\wr=W0.drewN n
set_option maxHeartbeats 1000000 in
set_option maxRecDepth 100000 in
theorem rval_c (p m:Nat) (A:Option Addr) (n c:Nat) (l:List Nat) (Al:Option Addr) (cl:Nat) (w:World) (hA:IntsAt w w.heap.size Al (nz l)) (hp:1<=p) (hl:∀ d∈l,d<p) (hq:p ^ l.length<=1000000000) (_hp2:p<=1000000000) (hll:l.length<=1000) :
 Calls Tryz.prog 152 #[.agg #[.int .i64 p,.int .i64 m,.slice A n c],.slice Al l.length cl] w fun e w'=>e=.returned (.int .i64 ((val p l:Nat):Int))/\Below w.heap.size w w':=by
 have HX:=Lib.hid (qbP w p m A n c)
 have HL:=Lib.hid hl
 have HA:=Lib.hid ((hA.keep HX.out.1).more HX.out.1.size)
 clear hA hl
 go_enter Tryz.func152,Tryz.ntmps152
 go_upto_region 1 with fail
 generalize w.alloc (.cells #[.int .i64 (p:Int),.int .i64 (m:Int),.slice A n c] 29)=W0 at *
 have z0:=HX.out.c0
 have HB:Hid (∀ n,Below w.heap.size w (W0.drewN n)):=fun n=>qaA HX.out.1 n
 go_wp2_with fail
 go_loopw [5,6] (fun v5 v6 wr=>RelVa W0 p l v5 v6 wr) (fun _ v6 _=>(intOf v6+1).toNat)
 case atStart=>exact ⟨l.length,0,Nat.le_refl _,rfl,by simp [val],rfl⟩
 case round =>
  obtain ⟨k,n0,hk,rfl,rfl,rfl⟩:=hrel
  rcases k with _ | k
  . go_wp2_with fail
    go_ret
    exact ⟨qaD (by simp),HB.out _⟩
  . obtain ⟨b,o,rfl,hlt,hc⟩ := HA.out.at_ (k := k) (by rw [qaB];omega)
    rw [qaF] at hc
    have HV:=Lib.hid (val_drop p l k (by omega))
    have hv1:=val_drop_lt hp HL.out k
    have hv2:p ^ (l.length-k)<=p ^ l.length:=Nat.pow_le_pow_right hp (by omega)
    have hv3:val p (l.drop k)<=1000000000:=by omega
    have hv0:val p (l.drop (k+1))*p+l.getD k 0<=1000000000:=by rw [<- HV.out];exact hv3
    generalize val p (l.drop (k+1))=y at *
    generalize l.getD k 0=z at *
    have E1:Hid (IntKind.i64.wrap ((y:Int)*(p:Int))=((y*p:Nat):Int)):=by
     show _=_
     rw [<- Int.natCast_mul]
     exact IntWalk.i64_in _ (by omega)
    generalize y*p=yp at *
    have E2:Hid (IntKind.i64.wrap ((yp:Int)+(z:Int))=((yp+z:Nat):Int)):=by
     show _=_
     rw [Int.natCast_add]
     exact IntWalk.i64_in _ (by omega)
    generalize yp+z=yz at *
    have hk1:((k+1:Nat):Int)-1=(k:Int):=by omega
    have k0:(0:Int)<=(k:Int):=by omega
    have k1:(k:Int)<(l.length:Int):=by omega
    rw [hk1]
    clear hv1 hv2 hv3 hv0 hk1
    go_upto_region 5 with fail
    have e1:=E1.out
    have e2:=E2.out
    refine qaH (SDrew W0) (by kernel_rfl) (by kernel_rfl) ⟨n0+1,by rw [<- World.drewN_drewN];rfl⟩ ?_
    repeat (apply qaM rfl
            . intro W hS
              obtain ⟨n',rfl⟩:=hS
              go_simp
              rfl
            go_simp)
    refine qaJ ?_
    intro w2 hS2
    obtain ⟨n2,rfl⟩:=hS2
    clear e1 e2
    go_wp2_with fail
    go_roundw
    case rel=>exact ⟨k,n2,by omega,rfl,by rw [HV.out],rfl⟩
    case measure=>simp [intOf]
end Go.Proofs.YtlmglaonldlanaaGreat
