/-
 The reference's rows: SameInts, SameRows. The reference's spaces and codes: Canon, Check.
-/
import Derived.Test.YtlmglaonldlanaaGreatQ25
namespace Go.Proofs.YtlmglaonldlanaaGreat
open Go.RowKit Pln
set_option maxHeartbeats 1000000 in
set_option maxRecDepth 100000 in
theorem rsame_c (zs ys:List Int) (A A':Option Addr) (c c':Nat) (w:World) (hA:IntsAt w w.heap.size A zs) (hA':IntsAt w w.heap.size A' ys) (hl:zs.length<=9223372036854775807) :
 Calls Tryz.prog 88 #[.slice A zs.length c,.slice A' ys.length c'] w (Quiet (.bool (decide (zs=ys))) w):=by
 have HA:=Lib.hid hA
 have HA':=Lib.hid hA'
 clear hA hA'
 by_cases hle:zs.length=ys.length
 . have HNE : Hid (∀ k,k < zs.length -> zs.getD k 0 ≠ ys.getD k 0 -> decide (zs = ys) = false) := fun k hk h => decide_eq_false (fun e => h (by rw [e]))
   have HEND:Hid (zs.take zs.length=ys.take zs.length->decide (zs=ys)=true):=fun h=>decide_eq_true (by rw [List.take_length,hle,List.take_length] at h;exact h)
   have HST:Hid (∀ k,k<zs.length->zs.take k=ys.take k->zs.getD k 0=ys.getD k 0->zs.take (k+1)=ys.take (k+1)):=fun k hk h he=>qdQ 0 hk (by omega) h he
   have hlb:((zs.length:Int) != (ys.length:Int))=false:=by simp;omega
   have hyl:ys.length<=zs.length:=by omega
   have hyl2:zs.length<=ys.length:=by omega
   clear hle
   go_enter Tryz.func88,Tryz.ntmps88
   go_wp2_with fail
   go_loopw [5] (fun v13 wr=>RelEq zs ys w v13 wr) (fun v13 _=>zs.length-(intOf v13).toNat)
   case atStart=>exact ⟨0,0,by omega,rfl,by simp,rfl⟩
   case round =>
    obtain ⟨k,n,hk,rfl,htk,rfl⟩:=hrel
    have HTK:=Lib.hid htk
    clear htk
    by_cases hlt:k<zs.length
    . obtain ⟨b,o,rfl,hb,hc⟩ := HA.out.at_ hlt
      obtain ⟨b',o',rfl,hb',hc'⟩:=HA'.out.at_ (k:=k) (by omega)
      have HN:=Lib.hid (HNE.out k hlt)
      have HS:=Lib.hid (HST.out k hlt HTK.out)
      generalize zs.getD k 0=z at *
      generalize ys.getD k 0=y at *
      have k0:(0:Int)<=(k:Int):=by omega
      have k1:(k:Int)<(zs.length:Int):=by omega
      have k2:(k:Int)<(ys.length:Int):=by omega
      by_cases hz:z=y
      . have hzb : (z != y) = false := by simp [hz]
        have HS2:=Lib.hid (HS.out hz)
        clear hz
        go_upto_region 6 with fail
        go_quiet (fail)
        go_wp2_with fail
        go_roundw
        case rel=>exact ⟨k+1,n+nq,by omega,by go_num,HS2.out,rfl⟩
        case measure=>simp [intOf];omega
      . have hzb : (z != y) = true := by simp [hz]
        have HN2:=Lib.hid (HN.out hz)
        clear hz
        go_upto_region 6 with fail
        go_quiet (fail)
        go_wp2_with fail
        go_ret
        exact ⟨qaO HN2.out.symm,n+nq,by first | rfl | rw [World.drewN_drewN]⟩
    . obtain rfl : k = zs.length := by omega
      have HE:=Lib.hid (HEND.out HTK.out)
      go_wp2_with fail
      go_ret
      exact ⟨qaO HE.out.symm,n,rfl⟩
 . have hlb : ((zs.length : Int) != (ys.length : Int)) = true := by simp;omega
   have HE:Hid (decide (zs=ys)=false):=decide_eq_false (fun e=>hle (by rw [e]))
   clear hle
   go_enter Tryz.func88,Tryz.ntmps88
   go_wp2_with fail
   go_ret
   exact ⟨qaO HE.out.symm,0,rfl⟩
set_option maxHeartbeats 1000000 in
set_option maxRecDepth 100000 in
theorem rsamerows_c (zs ys:List (List Int)) (A A':Option Addr) (c c':Nat) (w:World) (hA:RowsAt w w.heap.size A zs) (hA':RowsAt w w.heap.size A' ys) (hl:zs.length<=9223372036854775807) (hr:∀ k,k<zs.length->(zs.getD k []).length<=9223372036854775807) :
 Calls Tryz.prog 38 #[.slice A zs.length c,.slice A' ys.length c'] w (Quiet (.bool (decide (zs=ys))) w):=by
 have HA:=Lib.hid hA
 have HA':=Lib.hid hA'
 have HR:=Lib.hid hr
 clear hA hA' hr
 by_cases hle:zs.length=ys.length
 . have HNE : Hid (∀ k,k < zs.length -> zs.getD k [] ≠ ys.getD k [] -> decide (zs = ys) = false) := fun k hk h => decide_eq_false (fun e => h (by rw [e]))
   have HEND:Hid (zs.take zs.length=ys.take zs.length->decide (zs=ys)=true):=fun h=>decide_eq_true (by rw [List.take_length,hle,List.take_length] at h;exact h)
   have HST:Hid (∀ k,k<zs.length->zs.take k=ys.take k->zs.getD k []=ys.getD k []->zs.take (k+1)=ys.take (k+1)):=fun k hk h he=>qdQ [] hk (by omega) h he
   have hlb:((zs.length:Int) != (ys.length:Int))=false:=by simp;omega
   have hyl:ys.length<=zs.length:=by omega
   have hyl2:zs.length<=ys.length:=by omega
   clear hle
   go_enter Tryz.func38,Tryz.ntmps38
   go_wp2_with fail
   go_loopw [5] (fun v17 wr=>RelEq zs ys w v17 wr) (fun v17 _=>zs.length-(intOf v17).toNat)
   case atStart=>exact ⟨0,0,by omega,rfl,by simp,rfl⟩
   case round =>
    obtain ⟨k,n,hk,rfl,htk,rfl⟩:=hrel
    have HTK:=Lib.hid htk
    clear htk
    by_cases hlt:k<zs.length
    . obtain ⟨b,o,Ai,ci,rfl,hb,hc,hi⟩ := HA.out.at_ hlt
      obtain ⟨b',o',Ai',ci',rfl,hb',hc',hi'⟩:=HA'.out.at_ (i:=k) (by omega)
      have HN:=Lib.hid (HNE.out k hlt)
      have HS:=Lib.hid (HST.out k hlt HTK.out)
      have HCA:Hid (∀ n,Calls Tryz.prog 88 #[.slice Ai (zs.getD k []).length ci,.slice Ai' (ys.getD k []).length ci'] (w.drewN n) (Quiet (.bool (decide (zs.getD k []=ys.getD k []))) (w.drewN n))):=fun n =>
       rsame_c (zs.getD k []) (ys.getD k []) Ai Ai' ci ci' (w.drewN n) (hi.keep (qaA (Below.refl _ _) n)) (hi'.keep (qaA (Below.refl _ _) n)) (HR.out k hlt)
      clear hi hi'
      have k0:(0:Int)<=(k:Int):=by omega
      have k1:(k:Int)<(zs.length:Int):=by omega
      have k2:(k:Int)<(ys.length:Int):=by omega
      by_cases hz:zs.getD k []=ys.getD k []
      . have HS2 := Lib.hid (HS.out hz)
        have HZ:Hid (decide (zs.getD k []=ys.getD k [])=true):=decide_eq_true hz
        clear hz HN HS
        have HC3:Hid (∀ W,SDrew w W->Calls Tryz.prog 88 #[.slice Ai (zs.getD k []).length ci,.slice Ai' (ys.getD k []).length ci'] W fun e w'=>e=.returned (.bool true)/\SDrew w w'):=fun W ⟨n',hW⟩=>by
         subst hW
         refine (HCA.out n').mono ?_
         rintro e w' ⟨he,n3,rfl⟩
         exact ⟨by rw [he,HZ.out],n'+n3,by rw [World.drewN_drewN]⟩
        clear HCA HZ
        generalize (zs.getD k []).length=n1 at *
        generalize (ys.getD k []).length=n2 at *
        go_upto_region 6 with fail
        refine qaH (SDrew w) (by kernel_rfl) (by kernel_rfl) ⟨n+1,by rw [<- World.drewN_drewN];rfl⟩ ?_
        repeat (first
         | (apply qaM rfl
            . intro W hS
              obtain ⟨n',rfl⟩:=hS
              go_simp
              rfl
            go_simp)
         | (apply qaV rfl
            . intro W hS
              go_simp
              exact ⟨rfl,rfl⟩
            . intro W hS
              exact HC3.out W hS
            go_simp))
        refine qaJ ?_
        intro w2 hS2
        obtain ⟨n3,rfl⟩:=hS2
        go_wp2_with fail
        go_roundw
        case rel=>exact ⟨k+1,n3,by omega,by go_num,HS2.out,rfl⟩
        case measure=>simp [intOf];omega
      . have HN2 := Lib.hid (HN.out hz)
        have HZ:Hid (decide (zs.getD k []=ys.getD k [])=false):=decide_eq_false hz
        clear hz HN HS
        have HC3:Hid (∀ W,SDrew w W->Calls Tryz.prog 88 #[.slice Ai (zs.getD k []).length ci,.slice Ai' (ys.getD k []).length ci'] W fun e w'=>e=.returned (.bool false)/\SDrew w w'):=fun W ⟨n',hW⟩=>by
         subst hW
         refine (HCA.out n').mono ?_
         rintro e w' ⟨he,n3,rfl⟩
         exact ⟨by rw [he,HZ.out],n'+n3,by rw [World.drewN_drewN]⟩
        clear HCA HZ
        generalize (zs.getD k []).length=n1 at *
        generalize (ys.getD k []).length=n2 at *
        go_upto_region 6 with fail
        refine qaH (SDrew w) (by kernel_rfl) (by kernel_rfl) ⟨n+1,by rw [<- World.drewN_drewN];rfl⟩ ?_
        repeat (first
         | (apply qaM rfl
            . intro W hS
              obtain ⟨n',rfl⟩:=hS
              go_simp
              rfl
            go_simp)
         | (apply qaV rfl
            . intro W hS
              go_simp
              exact ⟨rfl,rfl⟩
            . intro W hS
              exact HC3.out W hS
            go_simp))
        refine qaJ ?_
        intro w2 hS2
        obtain ⟨n3,rfl⟩:=hS2
        go_wp2_with fail
        go_ret
        exact ⟨qaO HN2.out.symm,n3,rfl⟩
    . obtain rfl : k = zs.length := by omega
      have HE:=Lib.hid (HEND.out HTK.out)
      go_wp2_with fail
      go_ret
      exact ⟨qaO HE.out.symm,n,rfl⟩
 . have hlb : ((zs.length : Int) != (ys.length : Int)) = true := by simp;omega
   have HE:Hid (decide (zs=ys)=false):=decide_eq_false (fun e=>hle (by rw [e]))
   clear hle
   go_enter Tryz.func38,Tryz.ntmps38
   go_wp2_with fail
   go_ret
   exact ⟨qaO HE.out.symm,0,rfl⟩
end Go.Proofs.YtlmglaonldlanaaGreat
namespace Go.Proofs.YtlmglaonldlanaaGreat
open Go.RowKit Pln
theorem elGo_nil (O:Ops):∀ c,elGo O [] c=⟨[],[]⟩
 | 0=>rfl
 | c + 1 => by
   unfold elGo
   rw [elGo_nil O c]
   rfl
theorem reliminate_nil (p m:Int) (A:Option Addr) (n cA:Nat) (A2:Option Addr) (c2:Nat) (cols:Int) (h1:1<=cols) (w:World):Calls Tryz.prog 87 #[.agg #[.int .i64 p,.int .i64 m,.slice A n cA],.slice A2 0 c2,.int .i64 cols] w fun e w'=>e=.returned (.tuple #[.slice none 0 0,.slice none 0 0])/\Below w.heap.size w w':=by
 have HX:=Lib.hid (qbP w p m A n cA)
 go_enter Tryz.func87,Tryz.ntmps87
 go_upto_region 1 with fail
 generalize w.alloc (.cells #[.int .i64 p,.int .i64 m,.slice A n cA] 29)=W0 at *
 have HC:=Lib.hid (rcopy_nil A2 c2 W0)
 go_wp2_with (go_at_call 147;(with_reducible refine HC.out.mono ?_);rintro e w' ⟨rfl,rfl⟩)
 go_loop [9,10,11] (fun v9 v10 v11=>v11=.int .i64 0/\v10=.int .i64 0/\v9=.slice none 0 0) (fun _ _ _=>0)
 case atStart=>exact ⟨rfl,rfl,rfl⟩
 case round =>
  obtain ⟨rfl,rfl,rfl⟩:=hrel
  go_wp2_with fail
  go_ret2
  exact ⟨rfl,HX.out.bl⟩
set_option maxHeartbeats 1000000 in
set_option maxRecDepth 100000 in
theorem rcanon_c (p m:Nat) (md:List Nat) (A:Option Addr) (n cA:Nat) (rows:List (List Nat)) (A2:Option Addr) (c2 cols:Nat) (w:World) (hR:RFld p m md A n w.heap.size w) (hf:∃ l,FT p m md l) (hgr:Grid (p ^ m) rows.length cols rows) (hA:RowsAt w w.heap.size A2 (nzs rows)) (h1:1<=cols) (hc:cols<=256) (hn:rows.length<=256) :
 Calls Tryz.prog 37 #[.agg #[.int .i64 p,.int .i64 m,.slice A n cA],.slice A2 rows.length c2,.int .i64 cols] w fun e w'=>(∃ (A':Option Addr) (ck:Nat) (VA:Option Addr) (c3:Nat),e=.returned (.tuple #[.slice A' (canonM (refOps p m md) rows cols).length ck,.slice VA (elGo (refOps p m md) rows cols).piv.length c3])/\RowsUp w' w.heap.size A' (nzs (canonM (refOps p m md) rows cols))/\IntsAt w' w'.heap.size VA (nz (elGo (refOps p m md) rows cols).piv))/\Below w.heap.size w w':=by
 have HX:=Lib.hid (qbP w p m A n cA)
 by_cases hn0:rows.length=0
 . have hcm : canonM (refOps p m md) rows cols = [] := by
    have:rows=[]:=List.length_eq_zero_iff.1 hn0
    subst this
    unfold canonM
    rw [elGo_nil]
    rfl
   have hpz:(elGo (refOps p m md) rows cols).piv=[]:=by
    have:rows=[]:=List.length_eq_zero_iff.1 hn0
    subst this
    rw [elGo_nil]
   rw [hcm,hpz,hn0]
   clear hR hf hgr hA hcm hpz hn hn0
   go_enter Tryz.func37,Tryz.ntmps37
   go_upto_region 1 with fail
   generalize w.alloc (.cells #[.int .i64 (p:Int),.int .i64 (m:Int),.slice A n cA] 29)=W0 at *
   have HRG:=Lib.hid HX.out.range
   have HC:=Lib.hid (reliminate_nil p m A n cA A2 c2 cols (by omega) W0)
   go_wp2_with (refine wpList_load_mid rfl 29 (.tmp 3) rfl w.heap.size 0 rfl [.int .i64 (p:Int),.int .i64 (m:Int),.slice A n cA] _ HRG.out Tryz.underlying29 rfl fieldSize ?_)
   (with_reducible refine HC.out.mono ?_)
   rintro e w1 ⟨rfl,hb1⟩
   have HX1:=Lib.hid (HX.out.grow hb1)
   clear hb1
   go_wp2_with fail
   go_ret2
   exact ⟨⟨none,0,none,0,rfl,(fun h=>by simp [nzs] at h),fun h=>by simp [nz] at h⟩,HX1.out.bl⟩
 . have HC : Hid (∀ W,Below w.heap.size w W -> Calls Tryz.prog 87 #[.agg #[.int .i64 p,.int .i64 m,.slice A n cA],.slice A2 rows.length c2,.int .i64 cols] W (RElPost W (refOps p m md) rows cols)) := fun W hW =>
    reliminate_c p m md A n cA rows A2 c2 cols W ((hR.keep hW).more hW.size) hf hgr ((hA.keep hW).more hW.size) h1 hc (by omega) hn
   have HK:=Lib.hid (qbH (refOps p m md) rows cols)
   have HK2:=Lib.hid (qbW (O:=refOps p m md) rows cols)
   have HRL:=Lib.hid (qcW (O:=refOps p m md) rows cols)
   have HGD:=Lib.hid (qcN (refOps p m md) rows cols)
   clear hR hf hgr hA hn0
   generalize refOps p m md=O at *
   go_enter Tryz.func37,Tryz.ntmps37
   go_upto_region 1 with fail
   generalize w.alloc (.cells #[.int .i64 (p:Int),.int .i64 (m:Int),.slice A n cA] 29)=W0 at *
   have HRG:=Lib.hid HX.out.range
   go_wp2_with (refine wpList_load_mid rfl 29 (.tmp 3) rfl w.heap.size 0 rfl [.int .i64 (p:Int),.int .i64 (m:Int),.slice A n cA] _ HRG.out Tryz.underlying29 rfl fieldSize ?_)
   (with_reducible refine (HC.out W0 HX.out.bl).mono ?_)
   rintro e w1 ⟨⟨R,cR,VA,ck,bs,rfl,hgd,hpv⟩,hb1⟩
   have HPV:=Lib.hid hpv
   have HX1:=Lib.hid (HX.out.grow hb1)
   have HRA:Hid (RowsUp w1 w.heap.size (some ⟨R,0,none⟩) (nzs (canonM O rows cols))):=(hgd.rowsAt (canonM O rows cols) (by rw [HK.out,HRL.out];exact HK2.out.2) (fun i hi=>HGD.out i (by rw [<- HK.out];exact hi))).lower (by have:=HX.out.bl.size;omega)
   have hk1:(elGo O rows cols).piv.length<=rows.length:=HK2.out.2
   obtain ⟨cur,hcur⟩:=qeC hgd.out
   have hcap:rows.length<=cR:=by
    have h:=hgd.out.2
    rcases h with ⟨h1,_⟩ | ⟨g,cap,cur',hv,_,_,h5,_⟩
    . cases h1
    . simp only [Value.slice.injEq] at hv
      have:=HRL.out
      omega
   rw [<- HK.out] at hk1
   have HK3:=Lib.hid HK.out.symm
   clear hb1 hgd hpv HK HK2 HRL HGD hcur
   rw [HK3.out]
   go_wp2_with fail
   go_ret2
   refine ⟨⟨some ⟨R,0,none⟩,cR,VA,ck,?_,HRA.out,HPV.out⟩,HX1.out.bl⟩
   first
    | rfl
    | (rw [HK3.out];done)
    | (rw [HK3.out];rfl)
set_option maxHeartbeats 1000000 in
set_option maxRecDepth 100000 in
theorem rspcheck_c (p m:Int) (mod:List Int) (Am:Option Addr) (cm:Nat) (cols:Int) (zs:List (List Int)) (A:Option Addr) (c:Nat) (w:World) (hM:IntsAt w w.heap.size Am mod) (hl:mod.length<=9223372036854775807)
 (hA:RowsAt w w.heap.size A zs) (hlz:zs.length<=9223372036854775807) (h1:1<=cols) :
 Calls Tryz.prog 19 #[.agg #[.int .i64 p,.int .i64 m,.slice Am mod.length cm],.agg #[.int .i64 cols,.slice A zs.length c]] w fun e w'=>e=.returned (.int .i64 (spZ p m mod cols zs))/\Below w.heap.size w w':=by
 have HX:=Lib.hid (box2_new w p m Am mod.length cm cols A zs.length c)
 have HM:=Lib.hid hM
 have HA:=Lib.hid hA
 clear hM hA
 go_enter Tryz.func19,Tryz.ntmps19
 go_upto_region 1 with fail
 generalize (w.alloc (.cells #[.int .i64 p,.int .i64 m,.slice Am mod.length cm] 29)).alloc (.cells #[.int .i64 cols,.slice A zs.length c] 54)=W0 at *
 have HRG:=Lib.hid HX.out.range
 have HRG1:=Lib.hid HX.out.range1
 have HC:=Lib.hid (rcheck_c p m mod Am cm cols zs A c W0 ((HM.out.keep HX.out.below).more HX.out.below.size) hl ((HA.out.keep HX.out.below).more HX.out.below.size) hlz)
 go_wp2_with (first | (refine wpList_load_mid rfl 29 (.tmp 2) rfl w.heap.size 0 rfl [.int .i64 p,.int .i64 m,.slice Am mod.length cm] _ HRG.out Tryz.underlying29 rfl fieldSize ?_) | (refine wpList_load_mid rfl 54 (.tmp 3) rfl (w.heap.size+1) 0 rfl [.int .i64 cols,.slice A zs.length c] _ HRG1.out Tryz.underlying54 rfl matSize ?_))
 (with_reducible refine HC.out.mono ?_)
 rintro e w1 ⟨rfl,hb1⟩
 have HX1:=Lib.hid (HX.out.grow hb1)
 clear hb1 HX HC HRG HRG1
 clear W0
 by_cases hz:errC p m mod cols zs=0
 . rw [hz]
   have hok:fieldOK p m mod=true:=by
    unfold errC at hz
    split at hz
    . assumption
    . cases hz
   have hcz:checkZ (p.toNat ^ m.toNat) cols zs=0:=by
    unfold errC at hz
    rw [if_pos hok] at hz
    exact hz
   obtain ⟨hnn,hgr,hc0,hc1,hn1⟩:=qcT hcz
   have hsh:shapeM p m mod=true:=by unfold fieldOK at hok;rw [Bool.and_eq_true] at hok;exact hok.1
   have hs:=qbJ hsh
   have hft:=qaW hok
   have hmdl:(mdOf m mod).length=m.toNat:=by
    by_cases hm:m=1
    . rw [hm];simp [mdOf]
    . unfold mdOf;rw [if_neg hm,List.length_map];exact hs.len hm
   have hcan:canonM (refOps p.toNat m.toNat (mdOf m mod)) (natR zs) cols.toNat=canZ p m mod cols zs:=(canon_eq (ops_eq hft hmdl) hgr).symm
   have HRF:Hid (RFld p.toNat m.toNat (mdOf m mod) Am mod.length w1.heap.size w1):=⟨hs.small,hmdl,hs.lt,fun h2=>by
    have hm:m≠1:=by intro e;rw [e] at h2;exact absurd h2 (by decide)
    exact ⟨hs.len hm,by rw [hs.nat hm];exact (HM.out.keep HX1.out.below).more HX1.out.below.size⟩⟩
   have HCA:=Lib.hid (rcanon_c p.toNat m.toNat (mdOf m mod) Am mod.length cm (natR zs) A c cols.toNat w1 HRF.out ⟨_,hft⟩ hgr (by rw [hnn];exact (HA.out.keep HX1.out.below).more HX1.out.below.size) (by omega) (by omega) (by rw [qeE];exact hn1))
   rw [qeE,hcan,hs.p0,hs.m0,show ((cols.toNat:Nat):Int)=cols by omega] at HCA
   have HSP:Hid (spZ p m mod cols zs=if nzs (canZ p m mod cols zs)=zs then 0 else 5):=by show _=_;unfold spZ;rw [if_neg (by simp [hz])]
   have HROW:=Lib.hid (canZ_rows hz)
   have HCL:=Lib.hid (canZ_len hz)
   clear hz hok hcz hnn hgr hsh hs hft hmdl hcan HRF HM
   generalize canZ p m mod cols zs=cz at *
   have HRG:=Lib.hid HX1.out.range
   have b0:=HX1.out.c0
   have b1:=HX1.out.c1
   go_wp2_with (refine wpList_load_mid rfl 29 (.tmp 2) rfl w.heap.size 0 rfl [.int .i64 p,.int .i64 m,.slice Am mod.length cm] _ HRG.out Tryz.underlying29 rfl fieldSize ?_)
   (with_reducible refine HCA.out.mono ?_)
   rintro e w2 ⟨⟨A',ck,VA,c3,rfl,hra,_⟩,hb2⟩
   have HX2:=Lib.hid (HX1.out.grow hb2)
   have HSR:=Lib.hid (rsamerows_c (nzs cz) zs A' A ck c w2 hra.rowsAt ((HA.out.keep HX2.out.below).more HX2.out.below.size) (by have:=HCL.out;omega) HROW.out)
   rw [qbC] at HSR
   have b1':=HX2.out.c1
   clear hra hb2 b0 b1 HCA HROW HCL HX1 HRG HA
   by_cases heq:nzs cz=zs
   . rw [decide_eq_true heq] at HSR
     have HE:Hid (spZ p m mod cols zs=0):=by show _=_;rw [HSP.out,if_pos heq]
     clear heq HSP
     go_wp2_with fail
     (with_reducible refine HSR.out.mono ?_)
     rintro e w3 ⟨rfl,n4,rfl⟩
     have HB:=Lib.hid (qaA HX2.out.below n4)
     clear b1'
     go_wp2_with fail
     go_ret
     exact ⟨qaD HE.out.symm,HB.out⟩
   . rw [decide_eq_false heq] at HSR
     have HE:Hid (spZ p m mod cols zs=5):=by show _=_;rw [HSP.out,if_neg heq]
     clear heq HSP
     go_wp2_with fail
     (with_reducible refine HSR.out.mono ?_)
     rintro e w3 ⟨rfl,n4,rfl⟩
     have HB:=Lib.hid (qaA HX2.out.below n4)
     clear b1'
     go_wp2_with fail
     go_ret
     exact ⟨qaD HE.out.symm,HB.out⟩
 . have HE : Hid (spZ p m mod cols zs = errC p m mod cols zs) := by show _ = _;unfold spZ;rw [if_pos hz]
   have hzb:(errC p m mod cols zs != 0)=true:=by rw [bne_iff_ne];exact hz
   clear hz
   go_wp2_with fail
   go_ret
   exact ⟨qaD HE.out.symm,HX1.out.below⟩
set_option maxHeartbeats 1000000 in
set_option maxRecDepth 100000 in
theorem qdO (p m:Int) (mod:List Int) (Am:Option Addr) (cm:Nat) (N:Int) (zs:List (List Int)) (A:Option Addr) (c:Nat) (w:World) (hM:IntsAt w w.heap.size Am mod) (hl:mod.length<=9223372036854775807)
 (hA:RowsAt w w.heap.size A zs) (hlz:zs.length<=9223372036854775807) :
 Calls Tryz.prog 8 #[.agg #[.int .i64 p,.int .i64 m,.slice Am mod.length cm,.int .i64 N,.slice A zs.length c]] w fun e w'=>e=.returned (.int .i64 (codeZ p m mod N zs))/\Below w.heap.size w w':=by
 have HX:Hid (SBoxC w [.int .i64 p,.int .i64 m,.slice Am mod.length cm,.int .i64 N,.slice A zs.length c] (w.alloc (.cells #[.int .i64 p,.int .i64 m,.slice Am mod.length cm,.int .i64 N,.slice A zs.length c] 32))) :=
  ⟨heap_alloc_new _ _,(Below.refl _ _).alloc (Nat.le_refl _) _,by simp⟩
 have HM:=Lib.hid hM
 have HA:=Lib.hid hA
 clear hM hA
 go_enter Tryz.func8,Tryz.ntmps8
 go_upto_region 1 with fail
 generalize w.alloc (.cells #[.int .i64 p,.int .i64 m,.slice Am mod.length cm,.int .i64 N,.slice A zs.length c] 32)=W0 at *
 have HRG:=Lib.hid HX.out.range3
 have HC:=Lib.hid (rfcheck_c p m mod Am cm W0 ((HM.out.keep HX.out.2.1).more HX.out.2.1.size) hl)
 go_wp2_with (refine wpList_load_mid rfl 29 (.tmp 4) rfl w.heap.size 0 rfl [.int .i64 p,.int .i64 m,.slice Am mod.length cm] _ HRG.out Tryz.underlying29 rfl fieldSize ?_)
 (with_reducible refine HC.out.mono ?_)
 rintro e w1 ⟨rfl,hb1⟩
 have HX1:=Lib.hid (HX.out.grow hb1)
 clear hb1 HX HC HRG
 clear W0
 cases hok:fieldOK p m mod
 . have HE : Hid (codeZ p m mod N zs = 1) := by show _ = _;unfold codeZ;rw [if_pos hok]
   have he:errF false=1:=rfl
   rw [he]
   clear hok he
   go_wp2_with fail
   go_ret
   exact ⟨qaD HE.out.symm,HX1.out.2.1⟩
 . have he : errF true = 0 := rfl
   rw [he]
   have a3:w1.cell? ⟨w.heap.size,3,none⟩=some (.int .i64 N):=cell_of_row _ _ 3 _ _ _ HX1.out.1
   have a4:w1.cell? ⟨w.heap.size,4,none⟩=some (.slice A zs.length c):=cell_of_row _ _ 4 _ _ _ HX1.out.1
   clear he
   by_cases hn1:N<1
   . have HE : Hid (codeZ p m mod N zs = 4) := by
      have hl4:lengthZ N=4:=by unfold lengthZ;rw [if_pos (by omega)]
      show _=_
      unfold codeZ
      rw [if_neg (by simp [hok]),if_pos (by rw [hl4];decide)]
     clear hok
     go_wp2_with fail
     go_ret
     exact ⟨qaD HE.out.symm,HX1.out.2.1⟩
   . by_cases hn2 : 64 < N
     . have HE : Hid (codeZ p m mod N zs = 4) := by
        have hl4:lengthZ N=4:=by unfold lengthZ;rw [if_pos (by omega)]
        show _=_
        unfold codeZ
        rw [if_neg (by simp [hok]),if_pos (by rw [hl4];decide)]
       clear hok
       go_wp2_with fail
       go_ret
       exact ⟨qaD HE.out.symm,HX1.out.2.1⟩
     . have HE : Hid (codeZ p m mod N zs = spZ p m mod N zs) := by
        have hl0:lengthZ N=0:=by unfold lengthZ;rw [if_neg (by omega)]
        show _=_
        unfold codeZ
        rw [if_neg (by simp [hok]),if_neg (by rw [hl0];decide)]
       have HSC:=Lib.hid (rspcheck_c p m mod Am cm N zs A c w1 ((HM.out.keep HX1.out.2.1).more HX1.out.2.1.size) hl ((HA.out.keep HX1.out.2.1).more HX1.out.2.1.size) hlz (by omega))
       have HRG:=Lib.hid HX1.out.range3
       clear hok HM HA
       go_wp2_with (refine wpList_load_mid rfl 29 (.tmp 18) rfl w.heap.size 0 rfl [.int .i64 p,.int .i64 m,.slice Am mod.length cm] _ HRG.out Tryz.underlying29 rfl fieldSize ?_)
       (with_reducible refine HSC.out.mono ?_)
       rintro e w2 ⟨rfl,hb2⟩
       have HX2:=Lib.hid (HX1.out.grow hb2)
       clear hb2
       go_wp2_with fail
       go_ret
       exact ⟨qaD HE.out.symm,HX2.out.2.1⟩
end Go.Proofs.YtlmglaonldlanaaGreat
