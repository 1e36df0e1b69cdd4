/-
 grs.elements, grs.twice, grs.open at any description. grs.open at any description: an error, or what its answer says. grs.generator, the walk.
-/
import Derived.Test.YtlmglaonldlanaaGreatQ44
import Derived.Test.YtlmglaonldlanaaGreatQ42
namespace Go.Proofs.YtlmglaonldlanaaGreat
open Go.RowKit Pln
theorem all_getD {zs:List Int} {P:Int->Prop} (h:∀ k,k<zs.length->P (zs.getD k 0)):∀ z∈zs,P z:=fun z hz=>by
 obtain ⟨k,hk,rfl⟩:=List.getElem_of_mem hz
 have:=h k hk
 rwa [show zs.getD k 0=zs[k] by simp [List.getD,hk]] at this
set_option maxHeartbeats 1000000 in
set_option maxRecDepth 100000 in
theorem elements_any (gb p m B:Nat) (l lg:List Nat) (zs:List Int) (A:Option Addr) (c:Nat) (w:World) (hG:GFAt w B gb p m l lg) (hA:IntsAt w w.heap.size A zs) (hl:zs.length<=1000000) :
 Calls Tryz.prog 164 #[.pointer (some ⟨gb,0,none⟩),.slice A zs.length c] w fun e w'=>(∃ b:Bool,e=.returned (.bool b)/\(b=true->∀ z∈zs,0<=z/\z<((p ^ m:Nat):Int)))/\w=w':=by
 have HA:=Lib.hid hA
 have HIS:Hid (∀ x:Int,Calls Tryz.prog 196 #[.pointer (some ⟨gb,0,none⟩),.int .i64 x] w fun e w'=>e=.returned (.bool (decide (0<=x) && decide (x<((p ^ m:Nat):Int))))/\w=w'):=fun x=>is_c x gb p m B l lg w hG
 clear hA hG
 generalize ((p ^ m:Nat):Int)=q at *
 go_enter Tryz.func164,Tryz.ntmps164
 go_wp2_with fail
 go_loopw [9] (fun v9 wr=>∃ k:Nat,k<=zs.length/\v9=.int .i64 k/\wr=w/\∀ i,i<k->0<=zs.getD i 0/\zs.getD i 0<q) (fun v9 _=>zs.length-(intOf v9).toNat)
 case atStart=>exact ⟨0,by omega,rfl,rfl,fun i h=>absurd h (by omega)⟩
 case round =>
  obtain ⟨k,hk,rfl,rfl,hp⟩:=hrel
  have HP:=Lib.hid hp
  clear hp
  by_cases hlt:k<zs.length
  . obtain ⟨b,o,rfl,hbl,hc⟩ := HA.out.at_ (k := k) hlt
    have HC:=Lib.hid (HIS.out (zs.getD k 0))
    have HS:Hid (0<=zs.getD k 0/\zs.getD k 0<q->∀ i,i<k+1->0<=zs.getD i 0/\zs.getD i 0<q):=fun h i hi=>by
     rcases Nat.lt_succ_iff_lt_or_eq.1 hi with h1 | rfl
     . exact HP.out i h1
     . exact h
    have k0:(0:Int)<=(k:Int):=by omega
    have k1:(k:Int)<(zs.length:Int):=by omega
    by_cases hx:0<=zs.getD k 0/\zs.getD k 0<q
    . have HS1 := Lib.hid (HS.out hx)
      rw [decide_eq_true hx.1,decide_eq_true hx.2] at HC
      clear hx HS
      generalize zs.getD k 0=x at *
      go_wp2_with fail
      (with_reducible refine HC.out.mono ?_)
      rintro e w2 ⟨rfl,rfl⟩
      go_wp2_with fail
      go_roundw
      case rel=>exact ⟨k+1,by omega,by go_num,(by first | rfl | trivial),HS1.out⟩
      case measure=>simp [intOf];omega
    . have e1 : (decide (0 <= zs.getD k 0) && decide (zs.getD k 0 < q)) = false := by
       cases h1:decide (0<=zs.getD k 0)
       . rfl
       . cases h2 : decide (zs.getD k 0 < q)
         . rfl
         . exact absurd ⟨of_decide_eq_true h1,of_decide_eq_true h2⟩ hx
      rw [e1] at HC
      clear hx e1 HS
      generalize zs.getD k 0=x at *
      go_wp2_with fail
      (with_reducible refine HC.out.mono ?_)
      rintro e w2 ⟨rfl,rfl⟩
      go_wp2_with fail
      go_ret
      exact ⟨⟨_,rfl,fun h=>by cases h⟩,rfl⟩
  . obtain rfl : k = zs.length := by omega
    go_wp2_with fail
    go_ret
    exact ⟨⟨_,rfl,fun _=>all_getD HP.out⟩,rfl⟩
def TwPost (zs:List Int) (w:World) (e:Ending) (w':World):Prop:=(∃ b:Bool,e=.returned (.bool b)/\(b=false->∀ i j,j<i->i<zs.length->zs.getD i 0≠zs.getD j 0))/\w'=w
set_option maxHeartbeats 1000000 in
set_option maxRecDepth 100000 in
theorem twice_any (zs:List Int) (A:Option Addr) (c:Nat) (w:World) (hA:IntsAt w w.heap.size A zs) (hl:zs.length<=1000000) (hc:zs.length<=c) :
 Calls Tryz.prog 165 #[.slice A zs.length c] w (TwPost zs w):=by
 have HA:=Lib.hid hA
 clear hA
 go_enter Tryz.func165,Tryz.ntmps165
 go_wp2_with fail
 go_loopw [9] (fun v9 wr=>∃ k:Nat,k<=zs.length/\v9=.int .i64 k/\wr=w/\∀ i j,j<i->i<k->zs.getD i 0≠zs.getD j 0) (fun v9 _=>zs.length-(intOf v9).toNat)
 case atStart=>exact ⟨0,by omega,rfl,rfl,fun i j _ h=>absurd h (by omega)⟩
 case round =>
  obtain ⟨k,hk,rfl,rfl,hp⟩:=hrel
  have HP:=Lib.hid hp
  clear hp
  by_cases hlt:k<zs.length
  . obtain ⟨b,o,rfl,hbl,hcx⟩ := HA.out.at_ (k := k) hlt
    have k0:(0:Int)<=(k:Int):=by omega
    have k1:(k:Int)<(zs.length:Int):=by omega
    have k2:(k:Int)<=(c:Int):=by omega
    have HX:Hid (∃ x,zs.getD k 0=x):=⟨_,rfl⟩
    obtain ⟨x,hx⟩:=HX.out
    rw [hx] at hcx
    have HXE:=Lib.hid hx
    clear hx HX
    obtain ⟨w2,rfl⟩:∃ w',w'=wr:=⟨wr,rfl⟩
    go_wp2_with fail
    go_loopw [18] (fun v18 wr=>∃ j:Nat,j<=k/\v18=.int .i64 j/\wr=w2/\∀ i,i<j->x≠zs.getD i 0) (fun v18 _=>k-(intOf v18).toNat)
    case atStart=>exact ⟨0,by omega,rfl,rfl,fun i h=>absurd h (by omega)⟩
    case round =>
     obtain ⟨j,hj,rfl,rfl,hq⟩:=hrel
     have HQ:=Lib.hid hq
     clear hq
     by_cases hjl:j<k
     . obtain ⟨b',o',e,hbl',hcy⟩ := HA.out.at_ (k := j) (by omega)
       injection e with e
       injection e with e1 e2 _
       subst e1 e2
       have j0:(0:Int)<=(j:Int):=by omega
       have j1:(j:Int)<(k:Int):=by omega
       by_cases hne:x=zs.getD j 0
       . have heq : (x == zs.getD j 0) = true := beq_iff_eq.2 hne
         clear hne HQ
         generalize zs.getD j 0=y at *
         go_wp2_with fail
         go_ret
         exact And.intro ⟨true,rfl,fun h=>by cases h⟩ rfl
       . have heq : (x == zs.getD j 0) = false := beq_false_of_ne hne
         have HS:Hid (∀ i,i<j+1->x≠zs.getD i 0):=fun i hi=>by
          rcases Nat.lt_succ_iff_lt_or_eq.1 hi with h1 | rfl
          . exact HQ.out i h1
          . exact hne
         clear hne HQ
         generalize zs.getD j 0=y at *
         go_wp2_with fail
         go_roundw
         case rel=>exact ⟨j+1,by omega,by go_num,(by first | rfl | trivial),HS.out⟩
         case measure=>simp [intOf];omega
     . obtain rfl : j = k := by omega
       have HS:Hid (∀ i i',i'<i->i<j+1->zs.getD i 0≠zs.getD i' 0):=fun i i' hii hi=>by
        rcases Nat.lt_succ_iff_lt_or_eq.1 hi with h1 | rfl
        . exact HP.out i i' hii h1
        . rw [HXE.out]
          exact HQ.out i' hii
       go_wp2_with fail
       go_roundw
       case rel=>exact ⟨j+1,by omega,by go_num,(by first | rfl | trivial),HS.out⟩
       case measure=>simp [intOf];omega
  . obtain rfl : k = zs.length := by omega
    go_wp2_with fail
    go_ret
    exact ⟨⟨_,rfl,fun _=>HP.out⟩,rfl⟩
end Go.Proofs.YtlmglaonldlanaaGreat
namespace Go.Proofs.YtlmglaonldlanaaGreat
open Go.RowKit Pln
structure GrsOk (p m:Int) (mod:List Int) (K:Int) (ps qs:List Int):Prop where
 ok:fieldOK p m mod=true
 n1:1<=ps.length
 n2:ps.length<=64
 len:qs.length=ps.length
 pq:∀ z∈ps,0<=z/\z<((p.toNat ^ m.toNat:Nat):Int)
 qq:∀ z∈qs,0<=z/\z<((p.toNat ^ m.toNat:Nat):Int)
 dis:∀ i j,j<i->i<ps.length->ps.getD i 0≠ps.getD j 0
 q0:∀ z∈qs,z≠0
 k0:0<=K
 k1:K<=(ps.length:Int)
def GopPost (w:World) (p m:Int) (mod:List Int) (K:Int) (ps qs:List Int) (e:Ending) (w':World):Prop :=
 (∃ (go:Option Addr) (z:Int),e=.returned (.tuple #[.pointer go,.int .i64 z])/\(z=0->∃ gb,go=some ⟨gb,0,none⟩/\GFAt w' w'.heap.size gb p.toNat m.toNat (lOf p m mod) (logL (lOf p m mod) (p.toNat ^ m.toNat))/\GrsOk p m mod K ps qs))/\Below w.heap.size w w'
set_option maxHeartbeats 4000000 in
set_option maxRecDepth 100000 in
theorem gopen_any (p m:Int) (mod:List Int) (Am:Option Addr) (cm:Nat) (K:Int) (ps:List Int) (Ap:Option Addr) (cp:Nat) (qs:List Int) (Aq:Option Addr) (cq:Nat) (w:World) (hM:IntsAt w w.heap.size Am mod) (hml:mod.length<=9223372036854775807)
 (hL:IntsAt w w.heap.size Ap ps) (hQ:IntsAt w w.heap.size Aq qs) (hcp:ps.length<=cp) (hpl:ps.length<=9223372036854775807) :
 Calls Tryz.prog 112 #[.agg #[.int .i64 p,.int .i64 m,.slice Am mod.length cm,.int .i64 K,.slice Ap ps.length cp,.slice Aq qs.length cq]] w (GopPost w p m mod K ps qs):=by
 have HB0:Hid (Below w.heap.size w (w.alloc (.cells #[.int .i64 p,.int .i64 m,.slice Am mod.length cm,.int .i64 K,.slice Ap ps.length cp,.slice Aq qs.length cq] 87))):=(Below.refl _ _).alloc (Nat.le_refl _) _
 have HK0:Hid ((w.alloc (.cells #[.int .i64 p,.int .i64 m,.slice Am mod.length cm,.int .i64 K,.slice Ap ps.length cp,.slice Aq qs.length cq] 87)).heap[w.heap.size]?=some (.cells [.int .i64 p,.int .i64 m,.slice Am mod.length cm,.int .i64 K,.slice Ap ps.length cp,.slice Aq qs.length cq].toArray 87 (0,0))):=heap_alloc_new _ _
 have HM:=Lib.hid hM
 have HL:=Lib.hid hL
 have HQ:=Lib.hid hQ
 clear hM hL hQ
 go_enter Tryz.func112,Tryz.ntmps112
 go_upto_region 1 with fail
 generalize w.alloc (.cells #[.int .i64 p,.int .i64 m,.slice Am mod.length cm,.int .i64 K,.slice Ap ps.length cp,.slice Aq qs.length cq] 87)=W0 at *
 have hlt0:w.heap.size<W0.heap.size:=qbE HK0.out
 have HBAD:Hid (∀ (z:Int) (W:World),z≠0->Below w.heap.size w W->GopPost w p m mod K ps qs (.returned (.tuple #[.pointer none,.int .i64 z])) W):=fun z W hz hW=>⟨⟨none,z,rfl,fun h=>absurd h hz⟩,hW⟩
 have HRG:Hid (W0.rangeAt w.heap.size 0 [.int .i64 p,.int .i64 m,.slice Am mod.length cm]):=fun j v hv=>(qaC HK0.out) j v (by
  match j,hv with
  | 0,hv=>exact hv
  | 1,hv=>exact hv
  | 2,hv=>exact hv
  | j+3,hv=>simp at hv)
 have HC:=Lib.hid (qeN p m mod Am cm W0 ((HM.out.keep HB0.out).more HB0.out.size) hml)
 go_wp2_with (refine wpList_load_mid rfl 29 (.tmp 10) rfl w.heap.size 0 rfl [.int .i64 p,.int .i64 m,.slice Am mod.length cm] _ HRG.out Tryz.underlying29 rfl fieldSize ?_)
 (with_reducible refine HC.out.mono ?_)
 rintro e w1 ⟨hcase,hb1⟩
 have HB1:=Lib.hid (HB0.out.trans (hb1.mono HB0.out.size))
 have K1:=Lib.hid ((hb1.block _ hlt0).trans HK0.out)
 have y3:w1.cell? ⟨w.heap.size,3,none⟩=some (.int .i64 K):=cell_of_row _ _ 3 _ _ _ K1.out
 have y4:w1.cell? ⟨w.heap.size,4,none⟩=some (.slice Ap ps.length cp):=cell_of_row _ _ 4 _ _ _ K1.out
 have y5:w1.cell? ⟨w.heap.size,5,none⟩=some (.slice Aq qs.length cq):=cell_of_row _ _ 5 _ _ _ K1.out
 have HL1:=Lib.hid ((HL.out.keep HB1.out).more HB1.out.size)
 have HQ1:=Lib.hid ((HQ.out.keep HB1.out).more HB1.out.size)
 clear hb1 HC HRG HK0 HB0 K1 HM HL HQ
 rcases hcase with ⟨_,rfl⟩ | ⟨hok,gb,rfl,hgb,hg⟩
 . go_wp2_with fail
   go_ret2
   exact HBAD.out 1 _ (by decide) HB1.out
 have HG:=Lib.hid hg.gf
 have HOK:=Lib.hid hok
 clear hg hok hgb
 by_cases hn1:ps.length<1
 . have e1 : decide ((ps.length : Int) < 1) = true := decide_eq_true (by omega)
   have e2:(ps.length:Int)<1:=by omega
   clear y3 y5 HL1 HQ1 HG HOK
   go_wp2_with fail
   go_ret2
   exact HBAD.out 4 _ (by decide) HB1.out
 by_cases hn2:64<ps.length
 . have e2 : ¬ (ps.length : Int) < 1 := by omega
   have e3:(64:Int)<(ps.length:Int):=by omega
   have e4:64<ps.length:=hn2
   clear y3 y5 HL1 HQ1 HG HOK
   go_wp2_with fail
   go_ret2
   exact HBAD.out 4 _ (by decide) HB1.out
 have e2:¬ (ps.length:Int)<1:=by omega
 have e3:¬ (64:Int)<(ps.length:Int):=by omega
 by_cases hlen:qs.length=ps.length
 rotate_left
 . have e4 : ((qs.length : Int) != (ps.length : Int)) = true := bne_iff_ne.2 (by omega)
   clear y3 HL1 HQ1 HG HOK
   go_wp2_with fail
   go_ret2
   exact HBAD.out 10 _ (by decide) HB1.out
 have HLN:=Lib.hid hlen
 rw [hlen] at y5
 have HEL:=Lib.hid (elements_any gb p.toNat m.toNat w1.heap.size _ _ ps Ap cp w1 HG.out HL1.out (by omega))
 have HEM:=Lib.hid (elements_any gb p.toNat m.toNat w1.heap.size _ _ qs Aq cq w1 HG.out HQ1.out (by omega))
 have HTW:=Lib.hid (twice_any ps Ap cp w1 HL1.out (by omega) hcp)
 rw [hlen] at HEM
 clear hlen hn1 hn2
 go_wp2_with fail
 (with_reducible refine HEL.out.mono ?_)
 rintro e w2 ⟨⟨b,rfl,hbp⟩,rfl⟩
 cases b
 . clear y3 HL1 HQ1 HG HOK HEM HTW
   go_wp2_with fail
   go_ret2
   exact HBAD.out 2 _ (by decide) HB1.out
 have HPQ:=Lib.hid (hbp rfl)
 clear hbp HEL
 go_wp2_with fail
 (with_reducible refine HEM.out.mono ?_)
 rintro e w2 ⟨⟨b,rfl,hbp⟩,rfl⟩
 cases b
 . clear y3 HL1 HQ1 HG HOK HTW
   go_wp2_with fail
   go_ret2
   exact HBAD.out 2 _ (by decide) HB1.out
 have HQQ:=Lib.hid (hbp rfl)
 clear hbp HEM
 go_wp2_with fail
 (with_reducible refine HTW.out.mono ?_)
 rintro e w2 ⟨⟨b,rfl,hbp⟩,rfl⟩
 cases b
 rotate_left
 . clear y3 HL1 HQ1 HG HOK
   go_wp2_with fail
   go_ret2
   exact HBAD.out 18 _ (by decide) HB1.out
 have HDIS:=Lib.hid (hbp rfl)
 clear hbp HTW
 go_wp2_with fail
 go_loopw [53] (fun v53 wr=>∃ k:Nat,k<=ps.length/\v53=.int .i64 k/\wr=w2/\∀ i,i<k->qs.getD i 0≠0) (fun v53 _=>ps.length-(intOf v53).toNat)
 case atStart=>exact ⟨0,by omega,rfl,rfl,fun i h=>absurd h (by omega)⟩
 case round =>
  obtain ⟨k,hk,rfl,rfl,hp⟩:=hrel
  have HP:=Lib.hid hp
  clear hp
  by_cases hlt:k<ps.length
  . obtain ⟨b,o,rfl,hbl,hc⟩ := HQ1.out.at_ (k := k) (by rw [HLN.out];exact hlt)
    have k0:(0:Int)<=(k:Int):=by omega
    have k1:(k:Int)<(ps.length:Int):=by omega
    by_cases hx:qs.getD k 0=0
    . rw [hx] at hc
      clear hx
      go_wp2_with fail
      go_ret2
      exact HBAD.out 7 _ (by decide) HB1.out
    . have hxb : (qs.getD k 0 == 0) = false := beq_false_of_ne hx
      have HS:Hid (∀ i,i<k+1->qs.getD i 0≠0):=fun i hi=>by
       rcases Nat.lt_succ_iff_lt_or_eq.1 hi with h1 | rfl
       . exact HP.out i h1
       . exact hx
      clear hx
      generalize qs.getD k 0=x at *
      go_wp2_with fail
      go_roundw
      case rel=>exact ⟨k+1,by omega,by go_num,(by first | rfl | trivial),HS.out⟩
      case measure=>simp [intOf];omega
  . obtain rfl : k = ps.length := by omega
    by_cases hK0:K<0
    . clear HP
      go_wp2_with fail
      go_ret2
      exact HBAD.out 6 _ (by decide) HB1.out
    by_cases hK1:(ps.length:Int)<K
    . clear HP
      go_wp2_with fail
      go_ret2
      exact HBAD.out 6 _ (by decide) HB1.out
    have HKK:Hid (0<=K/\K<=(ps.length:Int)):=⟨by omega,by omega⟩
    have HNN:Hid (1<=ps.length/\ps.length<=64):=⟨by omega,by omega⟩
    go_wp2_with fail
    go_ret2
    exact ⟨⟨_,0,rfl,fun _=>⟨gb,rfl,HG.out,HOK.out,HNN.out.1,HNN.out.2,HLN.out,HPQ.out,HQQ.out,HDIS.out,all_getD (fun i hi=>HP.out i (by rw [<- HLN.out];exact hi)),HKK.out.1,HKK.out.2⟩⟩,HB1.out⟩
end Go.Proofs.YtlmglaonldlanaaGreat
namespace Go.Proofs.YtlmglaonldlanaaGreat
open Go.RowKit Pln
def RelGen (w:World) (b B g0 c0:Nat) (n:Int) (rows:List (List Nat)) (O:Ops) (M L:List Nat) (K:Nat) (v19:Value) (wr:World):Prop :=
 ∃ (k:Nat) (v:Value) (bs:List (Nat × Nat)),k<=K/\v19=.int .i64 k/\GS w b B g0 c0 n rows k v bs (rowG O M L k) wr
def RelG2 (w:World) (b B g0 c0:Nat) (n:Int) (rows:List (List Nat)) (O:Ops) (M L:List Nat) (k:Nat) (v:Value) (bs:List (Nat × Nat)) (v32:Value) (wr:World):Prop :=
 ∃ j:Nat,j<=L.length/\v32=.int .i64 j/\GS w b B g0 c0 n rows (k+1) v bs (rowH O (rowG O M L k) L j) wr
set_option maxHeartbeats 4000000 in
set_option maxRecDepth 100000 in
theorem ggen_c (gb Bg p m:Nat) (md l:List Nat) (pf mf:Int) (Am:Option Addr) (nm cm K:Nat) (L:List Nat) (Ap:Option Addr) (cp:Nat) (M:List Nat) (Aq:Option Addr) (cq:Nat) (w:World) (hF:FT p m md l) (hG:GFAt w Bg gb p m l (logL l (p ^ m))) (hBg:Bg<=w.heap.size)
 (hL:IntsAt w w.heap.size Ap (nz L)) (hQ:IntsAt w w.heap.size Aq (nz M)) (hn:M.length=L.length) (h1:1<=L.length) (h2:L.length<=64) (hLq:∀ x∈L,x<p ^ m) (hMq:∀ x∈M,x<p ^ m) (hK:K<=64) :
 Calls Tryz.prog 114 #[.pointer (some ⟨gb,0,none⟩),.agg #[.int .i64 pf,.int .i64 mf,.slice Am nm cm,.int .i64 (K:Int),.slice Ap L.length cp,.slice Aq L.length cq]] w fun e w'=>(∃ A' c',e=.returned (.agg #[.int .i64 (L.length:Int),.slice A' K c'])/\RowsUp w' w.heap.size A' (nzs (genG (opsT p m l) M L K)))/\Below w.heap.size w w':=by
 obtain ⟨i0,hi,hz0,hz1,hz2⟩:=qaG infoInt
 obtain ⟨i00,hi',hz0',hz1',hz2'⟩:=qaG infoInts
 have HI:=Lib.hid hi
 have HZ0:=Lib.hid hz0
 have HZ1:=Lib.hid hz1
 have HZ2:=Lib.hid hz2
 have HI':=Lib.hid hi'
 have HZ0':=Lib.hid hz0'
 have HZ1':=Lib.hid hz1'
 have HZ2':=Lib.hid hz2'
 have HL:=Lib.hid hL
 have HQ:=Lib.hid hQ
 have HB0:Hid (Below w.heap.size w ((w.alloc (.cells #[.int .i64 pf,.int .i64 mf,.slice Am nm cm,.int .i64 (K:Int),.slice Ap L.length cp,.slice Aq L.length cq] 87)).alloc (.cells #[.int .i64 0,.slice none 0 0] 54))):=((Below.refl _ _).alloc (Nat.le_refl _) _).alloc (by simp) _
 have HS0:Hid (w.heap.size+1<((w.alloc (.cells #[.int .i64 pf,.int .i64 mf,.slice Am nm cm,.int .i64 (K:Int),.slice Ap L.length cp,.slice Aq L.length cq] 87)).alloc (.cells #[.int .i64 0,.slice none 0 0] 54)).heap.size):=by show _ < _;simp
 have HK0:Hid (((w.alloc (.cells #[.int .i64 pf,.int .i64 mf,.slice Am nm cm,.int .i64 (K:Int),.slice Ap L.length cp,.slice Aq L.length cq] 87)).alloc (.cells #[.int .i64 0,.slice none 0 0] 54)).heap[w.heap.size]?=some (.cells [.int .i64 pf,.int .i64 mf,.slice Am nm cm,.int .i64 (K:Int),.slice Ap L.length cp,.slice Aq L.length cq].toArray 87 (0,0))):=(heap_alloc_old _ _ (by simp)).trans (heap_alloc_new _ _)
 have HK1:Hid (((w.alloc (.cells #[.int .i64 pf,.int .i64 mf,.slice Am nm cm,.int .i64 (K:Int),.slice Ap L.length cp,.slice Aq L.length cq] 87)).alloc (.cells #[.int .i64 0,.slice none 0 0] 54)).heap[w.heap.size+1]?=some (.cells #[.int .i64 0,.slice none 0 0] 54 (0,0))):=qbM (by simp) _
 have HMUL:Hid (∀ (W:World) (x y:Nat),Below w.heap.size w W->x<p ^ m->y<p ^ m->Calls Tryz.prog 142 #[.pointer (some ⟨gb,0,none⟩),.int .i64 (x:Int),.int .i64 (y:Int)] W (Quiet (.int .i64 (((opsT p m l).mul x y:Nat):Int)) W)):=fun W x y hW hx hy =>
  mul_c x y gb p m Bg md l W hF (hG.keep (hW.mono hBg)) hx hy
 have HRL:Hid (∀ k,(rowG (opsT p m l) M L k).length=L.length):=rowG_len _ _ _ hn
 have HRQ:Hid (∀ k,∀ x∈rowG (opsT p m l) M L k,x<p ^ m):=rowG_lt (qeA hF) hMq hLq
 have HLQ:=Lib.hid hLq
 have HGL:Hid ((genG (opsT p m l) M L K).length=K):=genG_len _ _ _ _
 have HGA:Hid (∀ k,k<K->(genG (opsT p m l) M L K).getD k []=rowG (opsT p m l) M L k):=fun k hk=>genG_at _ _ _ _ k hk
 have HR0:Hid (rowG (opsT p m l) M L 0=M):=rfl
 have HRS:Hid (∀ k,rowG (opsT p m l) M L (k+1)=List.zipWith (opsT p m l).mul (rowG (opsT p m l) M L k) L):=fun k=>rfl
 clear hi hz0 hz1 hz2 hi' hz0' hz1' hz2' hL hQ hF hG hLq hMq
 generalize genG (opsT p m l) M L K=out at *
 generalize opsT p m l=O at *
 generalize p ^ m=q at *
 go_enter Tryz.func114,Tryz.ntmps114
 go_upto_region 1 with fail
 generalize (w.alloc (.cells #[.int .i64 pf,.int .i64 mf,.slice Am nm cm,.int .i64 (K:Int),.slice Ap L.length cp,.slice Aq L.length cq] 87)).alloc (.cells #[.int .i64 0,.slice none 0 0] 54)=W0 at *
 have y4:W0.cell? ⟨w.heap.size,4,none⟩=some (.slice Ap L.length cp):=cell_of_row _ _ 4 _ _ _ HK0.out
 have hs0:=HS0.out
 have HB1:Hid (Below W0.heap.size W0 (W0.alloc (.cells #[.int .i64 (L.length:Int),.slice none 0 0] 54))):=(Below.refl _ _).alloc (Nat.le_refl _) _
 have HKB:Hid ((W0.alloc (.cells #[.int .i64 (L.length:Int),.slice none 0 0] 54)).heap[W0.heap.size]?=some (.cells [.int .i64 (L.length:Int),.slice none 0 0].toArray 54 (0,0))):=heap_alloc_new _ _
 have HZ:Hid ((W0.alloc (.cells #[.int .i64 (L.length:Int),.slice none 0 0] 54)).heap.size=W0.heap.size+1):=by show _=_;simp
 go_upto_region 2 with (refine qaI rfl 54 (.tmp 5) (.tmp 12) rfl W0 _ #[.int .i64 (L.length:Int),.slice none 0 0] rfl rfl matSize rfl (by simp [Value.oneCell']) ?_)
 generalize W0.alloc (.cells #[.int .i64 (L.length:Int),.slice none 0 0] 54)=W1 at *
 have HBW:=Lib.hid (HB0.out.trans (HB1.out.mono HB0.out.size))
 have hw0:=HB0.out.size
 have y5:W1.cell? ⟨w.heap.size,5,none⟩=some (.slice Aq L.length cq):=cell_of_row _ _ 5 _ _ _ ((HB1.out.block _ (by omega)).trans HK0.out)
 have y3:W1.cell? ⟨w.heap.size,3,none⟩=some (.int .i64 (K:Int)):=cell_of_row _ _ 3 _ _ _ ((HB1.out.block _ (by omega)).trans HK0.out)
 obtain ⟨bq,oq,rfl,hbq,hcq⟩:=(HQ.out.keep HBW.out) (by rw [qaB,hn];omega)
 have HOE:Hid ((W1.alloc (.cells #[] 3)).ownsRow W1.heap.size 3 1 (.slice (some ⟨W1.heap.size,0,none⟩) 0 0) 0 []):=World.ownsRow_made W1 #[] 0 (Nat.le_refl _) (by unfold maxLen;omega) rfl
 have HNEW:Hid (∀ (j:Nat) (u:Value),((nz M).map (Value.int .i64))[j]?=some u->(W1.alloc (.cells #[] 3)).cell? ((⟨bq,oq,none⟩:Addr).add j)=some u):=(((HQ.out.keep HBW.out).keep (((Below.refl w.heap.size W1).alloc HBW.out.size (.cells #[] 3))))).news
 have hw1:w.heap.size<W1.heap.size:=by have:=HZ.out;omega
 clear y4 hcq
 go_wp2_with (at_builtin;refine wpList_append_lies _ rfl (.tmp 13) (.tmp 15) 23 rfl W1.heap.size 3 i0 _ 1 8 Tryz.underlying23 HI.out HZ0.out HZ1.out HZ2.out rfl (by decide) (.slice (some ⟨W1.heap.size,0,none⟩) 0 0) 0 [] rfl HOE.out ⟨bq,oq,none⟩ L.length cq ((nz M).map (Value.int .i64)) rfl ?c0 HNEW.out ?c2 h1 ?c3 ?c4 ?c5 _ rfl ?_)
 case c0=>simp [nz,hn]
 case c2=>intro u hu;obtain ⟨z,_,rfl⟩:=List.mem_map.1 hu;rfl
 case c3=>unfold maxLen;omega
 case c4=>omega
 case c5=>simp
 intro g0 c0 w3 hown hgr hat hlt
 have HR:Hid (Row w3 W1.heap.size g0 c0 (nz M)):=by
  show w3.ownsRow _ _ _ _ _ _
  rw [qaB,hn]
  exact hown
 have HB3:Hid (Below W1.heap.size W1 w3):=((Below.refl _ _).alloc (Nat.le_refl _) _).grown hgr (by simp) (fun k hk=>by simp [Value.ownBlock] at hk;omega)
 have hb3:=HB3.out.size
 have hz1:=HZ.out
 have hgl:=HR.out.lt
 have HGS0:Hid (RelGen W0 W0.heap.size w3.heap.size g0 c0 L.length out O M L K (.int .i64 ((0:Nat):Int)) w3):=by
  refine ⟨0,.slice none 0 0,[],by omega,rfl,HB1.out.trans (HB3.out.mono HB1.out.size),⟨Nat.le_refl _,by omega,by omega,hgl.2,by omega,Nat.le_refl _⟩,(HB3.out.block _ (by omega)).trans HKB.out,⟨rfl,Nat.zero_le _,World.ownsRow_nil _ _ _ _,fun i hi=>by omega,fun i hi=>by omega⟩,?_⟩
  rw [HR0.out]
  exact HR.out.base (by omega)
 have HGC:Hid (∀ W,Below W0.heap.size W0 W->W.cell? ⟨w.heap.size,3,none⟩=some (.int .i64 (K:Int))/\W.cell? ⟨w.heap.size,4,none⟩=some (.slice Ap L.length cp)):=fun W hW=>⟨cell_of_row _ _ 3 _ _ _ ((hW.block _ (by omega)).trans HK0.out),cell_of_row _ _ 4 _ _ _ ((hW.block _ (by omega)).trans HK0.out)⟩
 have z3:=(HGC.out w3 (HB1.out.trans (HB3.out.mono HB1.out.size))).1
 have hB:W0.heap.size+1<=w3.heap.size:=by omega
 clear hown hgr hat hlt y3 y5 HNEW HOE HR HKB HBW HK0 HQ hz1
 go_wp2_with fail
 go_loopw [19] (fun v19 wr=>RelGen W0 W0.heap.size w3.heap.size g0 c0 L.length out O M L K v19 wr) (fun v19 _=>K-(intOf v19).toNat)
 case atStart=>exact HGS0.out
 case round =>
  obtain ⟨k,v,bs,hk,rfl,hgs⟩:=hrel
  obtain ⟨VA,ck,rfl,_⟩:=qbO hgs.grid.out
  have HGS:=Lib.hid hgs
  clear hgs HGS0
  by_cases hlt:k<K
  . obtain ⟨wr,rfl⟩ : ∃ w',w' = wr := ⟨wr,rfl⟩
    have hrl:=HRL.out k
    have HOA:=Lib.hid (HGA.out k hlt)
    have hlo:=HGS.out.lo
    have HS0:Hid (LSt wr wr.drew):=(Below.refl _ _).drew
    have HCV:Hid (∀ W,LSt wr W->W.cell? ⟨W0.heap.size,1,none⟩=some (.slice VA k ck)):=fun W hW=>(HGS.out.grow hW).cell1
    have hOE:((wr.alloc (.cells #[] 3)).drew).ownsRow wr.heap.size 3 1 (.slice (some ⟨wr.heap.size,0,none⟩) 0 0) 0 []:=World.ownsRow_made wr #[] 0 (Nat.le_refl _) (by unfold maxLen;omega) rfl
    have hRI:IntsAt wr wr.heap.size (some ⟨g0,0,none⟩) (nz (rowG O M L k)):=HGS.out.run.ints HGS.out.run.lt.2
    have hbA:Below wr.heap.size wr ((wr.alloc (.cells #[] 3)).drew):=((Below.refl _ _).alloc (Nat.le_refl _) _).drew
    have hNW:=(hRI.keep hbA).news
    have HOE:=Lib.hid hOE
    have HNW:=Lib.hid hNW
    have HBA:=Lib.hid hbA
    clear hOE hRI hbA hNW
    go_upto_region 5 with fail
    refine qbL 6 (LSt wr) [(true,0),(true,1),(true,3),(false,2),(false,4),(false,5)] default (by kernel_rfl) (by kernel_rfl) (fun _ _ d _ _ h=>by cases d <;> exact h) HS0.out ?_
    simp only [List.map_cons,List.map_nil,List.getD_cons_zero,List.getD_cons_succ]
    iterate 3
     apply qdA rfl
     . intro W hW
       have z0:=HCV.out W hW
       go_simp
       rfl
     go_simp
    apply qfB rfl
    . go_simp
      exact ⟨rfl,rfl⟩
    . exact HBA.out
    go_simp
    refine mix_append_lies rfl _ _ 23 rfl wr.heap.size 3 i0 _ 1 8 Tryz.underlying23 HI.out HZ0.out HZ1.out HZ2.out rfl (by decide) (.slice (some ⟨wr.heap.size,0,none⟩) 0 0) 0 [] rfl HOE.out ⟨g0,0,none⟩ L.length c0 ((nz (rowG O M L k)).map (Value.int .i64)) rfl ?c0 HNW.out ?c2 h1 ?c3 ?c4 ?c5 ?_
    case c0=>simp [nz,hrl]
    case c2=>intro u hu;obtain ⟨z,_,rfl⟩:=List.mem_map.1 hu;rfl
    case c3=>unfold maxLen;omega
    case c4=>omega
    case c5=>exact HBA.out.size
    intro g cap w5 hown hgr hat hlt5
    have HB5:Hid (Below wr.heap.size wr w5):=HBA.out.grown hgr HBA.out.size (fun j hj=>by simp [Value.ownBlock] at hj;omega)
    have HR5:Hid (Row w5 wr.heap.size g cap (nz (out.getD k []))):=by
     show w5.ownsRow _ _ _ _ _ _
     rw [HOA.out,qaB,hrl]
     rw [Nat.zero_add,List.nil_append] at hown
     exact hown
    refine ⟨HB5.out,?_⟩
    go_simp
    clear hown hgr hat
    have HB6:Hid (LSt wr (w5.alloc (.cells #[.slice (some ⟨g,0,none⟩) L.length cap] 23))):=HB5.out.alloc HB5.out.size _
    apply qfB rfl
    . go_simp
      exact ⟨rfl,rfl⟩
    . exact HB6.out
    go_simp
    refine qeU ?_
    have hol:(out.getD k []).length=L.length:=by rw [HOA.out,hrl]
    have y1:=HCV.out _ HB6.out
    have HOW:=Lib.hid (HGS.out.own HB5.out (.cells #[.slice (some ⟨g,0,none⟩) L.length cap] 23))
    have hws2:=HB5.out.size
    have hkl:=HGS.out.grid.le
    have hgl2:=HGL.out
    go_wp2_with (at_builtin;refine wpList_append_own_at _ rfl (.tmp 22) (.tmp 26) 30 rfl w3.heap.size 23 i00 _ 1 24 Tryz.underlying30 HI'.out HZ0'.out HZ1'.out HZ2'.out rfl (by decide) (.slice VA k ck) k ((List.range k).map (hdr out bs)) rfl HOW.out ⟨w5.heap.size,0,none⟩ 1 1 [.slice (some ⟨g,0,none⟩) L.length cap] rfl rfl ?d1 ?d2 ?d3 ?d4 ?d5 ?_)
    case d1=>exact World.news_of_block (cs:=#[.slice (some ⟨g,0,none⟩) L.length cap]) (t:=23) (fr:=(0,0)) (heap_alloc_new w5 _)
    case d2=>intro u hu;simp at hu;subst hu;rfl
    case d3=>unfold maxLen;omega
    case d4=>omega
    case d5=>simp;omega
    intro v' w7 hown' hgw _ hat
    obtain ⟨VA',ck',rfl,_⟩:=qbO hown'
    have HX3:=Lib.hid (HGS.out.step (g:=g) (c:=cap) (by omega) HB5.out HR5.out (by rw [hol];exact hown') hgw (by simpa using hat))
    have hb7:w7.heap[W0.heap.size]?=(w5.alloc (.cells #[.slice (some ⟨g,0,none⟩) L.length cap] 23)).heap[W0.heap.size]?:=hgw.block _ (by simp;omega) (fun e=>by have:=(HGS.out.grid.out.lt _ e.symm).1;omega)
    rw [heap_alloc_old _ _ (by omega),(HGS.out.grow HB5.out).box] at hb7
    have y2:w7.cell? ⟨W0.heap.size,1,none⟩=some (.slice VA k ck):=cell_of_row _ _ 1 _ _ _ hb7
    have y3:w7.frozen? ⟨W0.heap.size,1,none⟩=false:=by simp [World.frozen?,hb7]
    clear hown' hgw hat HOW y1 hb7
    go_upto_region 6 with fail
    generalize w7.setCell ⟨W0.heap.size,1,none⟩ (.slice VA' (k+1) ck')=w8 at *
    have HL8:Hid (∀ W,Below W0.heap.size W0 W->IntsAt W W.heap.size Ap (nz L)):=fun W hW=>((HL.out.keep HB0.out).keep (hW.mono hw0)).more (Nat.le_trans hw0 hW.size)
    have HG20:Hid (RelG2 W0 W0.heap.size w3.heap.size g0 c0 L.length out O M L k (.slice VA' (k+1) ck') (bs++[(g,cap)]) (.int .i64 ((0:Nat):Int)) w8):=⟨0,by omega,rfl,by rw [show rowH O (rowG O M L k) L 0=rowG O M L k by simp [rowH]];exact HX3.out⟩
    have z4:=(HGC.out w8 HX3.out.below).2
    clear y2 y3 HX3
    go_wp2_with fail
    go_loopw [32] (fun v32 wr=>RelG2 W0 W0.heap.size w3.heap.size g0 c0 L.length out O M L k (.slice VA' (k+1) ck') (bs++[(g,cap)]) v32 wr) (fun v32 _=>L.length-(intOf v32).toNat)
    case atStart=>exact HG20.out
    case round =>
     obtain ⟨j,hj,rfl,hgs⟩:=hrel
     have HG2:=Lib.hid hgs
     clear hgs HG20
     by_cases hjl:j<L.length
     . obtain ⟨bl,ol,rfl,hbl,hcl⟩ := (HL8.out wr HG2.out.below).at_ (k := j) (by rw [qaB];exact hjl)
       rw [qaF] at hcl
       have hjr:j<(rowG O M L k).length:=by omega
       have c0':=HG2.out.run.cell (j:=j) (by rw [qaB,rowH_len O _ L hrl j (by omega)];exact hjr)
       rw [qaF,rowH_at O _ L hrl j hjr] at c0'
       have f0:=HG2.out.run.frozen j
       have hxq:(rowG O M L k).getD j 0<q:=by
        have:∀ (l:List Nat) (hj:j<l.length),l.getD j 0=l[j]:=fun l hj=>by simp [List.getD,hj]
        rw [this _ hjr]
        exact HRQ.out k _ (List.getElem_mem _)
       have hyq:L.getD j 0<q:=by
        have:∀ (l:List Nat) (hj:j<l.length),l.getD j 0=l[j]:=fun l hj=>by simp [List.getD,hj]
        rw [this _ hjl]
        exact HLQ.out _ (List.getElem_mem _)
       have HST:=Lib.hid (rowH_set O _ L hrl j hjr)
       have HMC:=Lib.hid (HMUL.out wr ((rowG O M L k).getD j 0) (L.getD j 0) (HB0.out.trans (HG2.out.below.mono hw0)) hxq hyq)
       have j0:(0:Int)<=(j:Int):=by omega
       have j1:(j:Int)<(L.length:Int):=by omega
       clear hxq hyq
       generalize (rowG O M L k).getD j 0=xv at *
       generalize L.getD j 0=yv at *
       go_wp2_with fail
       (with_reducible refine HMC.out.mono ?_)
       rintro e w9 ⟨rfl,n9,rfl⟩
       go_wp2_with fail
       go_roundw
       case rel =>
        refine ⟨j+1,by omega,by go_num,?_⟩
        rw [<- HST.out]
        exact (HG2.out.grow (qaA (Below.refl _ _) n9)).set j _
       case measure=>simp [intOf];omega
     . obtain rfl : j = L.length := by omega
       have HGF:Hid (GS W0 W0.heap.size w3.heap.size g0 c0 L.length out (k+1) (.slice VA' (k+1) ck') (bs++[(g,cap)]) (rowG O M L (k+1)) wr):=by
        have:=HG2.out
        rw [<- hrl,rowH_end O _ L hrl,<- HRS.out k] at this
        rw [hrl] at this
        exact this
       go_wp2_with fail
       go_roundw
       case rel=>exact ⟨k+1,_,_,by omega,by go_num,HGF.out⟩
       case measure=>simp [intOf];omega
  . obtain rfl : k = K := by omega
    have HRG:=Lib.hid HGS.out.range
    have HK1W:Hid (wr.heap[w.heap.size+1]?=some (.cells #[.int .i64 0,.slice none 0 0] 54 (0,0))):=(HGS.out.below.block _ hs0).trans HK1.out
    have HYK:Hid ((wr.setRow (w.heap.size+1) #[.int .i64 (L.length:Int),.slice VA k ck]).heap[w.heap.size+1]?=some (.cells #[.int .i64 (L.length:Int),.slice VA k ck] 54 (0,0))):=qbI _ _ _ _ _ HK1W.out
    have HRU:Hid (RowsUp wr w3.heap.size VA (nzs out)):=by
     have hgd:=HGS.out.grid
     have hg2:=HGL.out
     rw [<- hg2] at hgd
     exact hgd.up
    have hBL:Below w.heap.size w wr:=HB0.out.trans (HGS.out.below.mono hw0)
    have HBL:=Lib.hid hBL
    clear hBL
    go_wp2_with (first | (refine wpList_load_mid rfl 54 (.tmp 5) rfl W0.heap.size 0 rfl [.int .i64 (L.length:Int),.slice VA k ck] _ HRG.out Tryz.underlying54 rfl matSize ?_) | (refine qaE rfl 54 (.tmp 4) (.tmp 49) rfl wr (w.heap.size+1) 54 #[.int .i64 0,.slice none 0 0] #[.int .i64 (L.length:Int),.slice VA k ck] rfl rfl HK1W.out matSize rfl (by simp [Value.oneCell']) ?_))
    refine bodyPost_ret (results_cell_row (P:=Tryz.prog) rfl _ _ (w.heap.size+1) 54 #[.int .i64 (L.length:Int),.slice VA k ck] (0,0) _ rfl HYK.out Tryz.underlying54 rfl matSize) rfl ?_
    refine ⟨⟨VA,ck,rfl,?_⟩,qbD HBL.out (by omega) _⟩
    have h9:=HRU.out.setRow (show w.heap.size+1<w3.heap.size by omega) #[.int .i64 (L.length:Int),.slice VA k ck]
    exact h9.lower (by omega)
end Go.Proofs.YtlmglaonldlanaaGreat
