/-
 bch.value, extension. bch.extension. bch.Zeros$1; slices.ContainsFunc over the rows with it. bch.Zeros.
-/
import Derived.Test.YtlmglaonldlanaaGreatQ39
import Derived.Test.YtlmglaonldlanaaGreatQ13
namespace Go.Proofs.YtlmglaonldlanaaGreat
open Go.RowKit Pln
def valN (O:Ops) (im r:List Nat) (x:Nat):Nat:=evN O (r.map (fun y=>im.getD y 0)) x
set_option maxHeartbeats 1000000 in
set_option maxRecDepth 100000 in
theorem value_c (gb p m B:Nat) (md l im r:List Nat) (x:Nat) (Ai Ar:Option Addr) (ci cr:Nat) (w:World) (hF:FT p m md l) (hG:GFAt w B gb p m l (logL l (p ^ m))) (hB:B<=w.heap.size) (him:∀ a∈im,a<p ^ m) (hr:∀ y∈r,y<im.length) (hx:x<p ^ m)
 (hI:IntsAt w B Ai (nz im)) (hR:IntsAt w B Ar (nz r)) (hl:r.length<=1000) (_hil:im.length<=1000000) :
 Calls Tryz.prog 107 #[.pointer (some ⟨gb,0,none⟩),.slice Ai im.length ci,.slice Ar r.length cr,.int .i64 x] w fun e w'=>e=.returned (.int .i64 ((valN (opsT p m l) im r x:Nat):Int))/\Below w.heap.size w w':=by
 obtain ⟨i0,hi,hz0,hz1,hz2⟩:=qaG infoInt
 have HI:=Lib.hid hi
 have HZ0:=Lib.hid hz0
 have HZ1:=Lib.hid hz1
 have HB2:=Lib.hid (show i0.bytes*r.length<=281474976710656 by rw [hz2];omega)
 have HB3:=Lib.hid (show r.length<=maxLen by unfold maxLen;omega)
 have HIM:=Lib.hid hI
 have HRW:=Lib.hid hR
 have HY:Hid (∀ k,k<r.length->r.getD k 0<im.length):=fun k hk=>by
  have:r.getD k 0=r[k]:=by simp [List.getD,hk]
  rw [this]
  exact hr _ (List.getElem_mem hk)
 have HV:Hid (∀ (w2:World) (g:Nat),Below w.heap.size w w2->IntsAt w2 w2.heap.size (some ⟨g,0,none⟩) (nz (r.map (fun y=>im.getD y 0)))->Calls Tryz.prog 162 #[.pointer (some ⟨gb,0,none⟩),.slice (some ⟨g,0,none⟩) r.length r.length,.int .i64 x] w2 (Quiet (.int .i64 ((valN (opsT p m l) im r x:Nat):Int)) w2)):=fun w2 g hb hg=>by
  have h:=eval_c gb p m w2.heap.size md l (r.map (fun y=>im.getD y 0)) x (some ⟨g,0,none⟩) r.length w2 hF ((hG.keep (hb.mono hB)).more (Nat.le_trans hB hb.size)) (fun a ha=>by
   obtain ⟨y,hy,rfl⟩:=List.mem_map.1 ha
   have h1:=hr y hy
   have:im.getD y 0=im[y]:=by simp [List.getD,h1]
   rw [this]
   exact him _ (List.getElem_mem h1)) hx hg (by simpa using hl)
  rw [List.length_map] at h
  exact h
 obtain ⟨f,hf⟩:∃ f:Nat->Nat,(fun y=>im.getD y 0)=f:=⟨_,rfl⟩
 have HF:Hid (∀ y,im.getD y 0=f y):=fun y=>by rw [<- hf]
 rw [hf] at HV
 obtain ⟨vv,hvv⟩:∃ vv,valN (opsT p m l) im r x=vv:=⟨_,rfl⟩
 rw [hvv] at HV ⊢
 clear hi hz0 hz1 hz2 hI hR hF hG hr him hf hvv
 go_enter Tryz.func107,Tryz.ntmps107
 go_wp2_with (refine wpList_make_full w rfl (.tmp 13) (.tmp 13) 23 rfl w.heap.size 3 i0 (.int .i64 0) 1 Tryz.underlying23 HI.out HZ0.out HZ1.out .i64 .i64 r.length r.length r.length rfl rfl rfl rfl HB2.out HB3.out (Nat.le_refl _) ?_;intro w1 hown hgr)
 have HS:Hid (RelSc w f r (.int .i64 ((0:Nat):Int)) w1):=⟨0,by omega,rfl,by have:=Row.of_make hown;exact this,qaL hgr⟩
 clear hown hgr
 go_loopw [17] (fun v17 wr=>RelSc w f r v17 wr) (fun v17 _=>r.length-(intOf v17).toNat)
 case atStart=>exact HS.out
 case round =>
  obtain ⟨k,hk,rfl,hrow,hb⟩:=hrel
  have HR:=Lib.hid hrow
  have HB:=Lib.hid hb
  clear hrow hb HS
  by_cases hlt:k<r.length
  . obtain ⟨b,o,rfl,hbl,hc⟩ := (HRW.out.keep (HB.out.mono hB)).at_ (k := k) (by rw [qaB];exact hlt)
    rw [qaF] at hc
    have hyq:=HY.out k hlt
    have HST:=Lib.hid (scK_set f r k hlt)
    have f0:=HR.out.frozen k
    have c0:=HR.out.cell (j:=k) (by rw [qaB,scK_len f r k hk];exact hlt)
    generalize r.getD k 0=y at *
    obtain ⟨b2,o2,rfl,hbl2,hc2⟩:=(HIM.out.keep (HB.out.mono hB)).at_ (k:=y) (by rw [qaB];exact hyq)
    rw [qaF,HF.out] at hc2
    have hyi:(y:Int)<(im.length:Int):=by omega
    go_wp2_with fail
    go_roundw
    case rel =>
     refine ⟨k+1,by omega,by go_num,?_,HB.out.setCell (p:=⟨w.heap.size,k,none⟩) (Nat.le_refl _) _⟩
     rw [<- HST.out,<- qbX]
     exact Row.set HR.out k _
    case measure=>simp [intOf];omega
  . obtain rfl : k = r.length := by omega
    have hrow:=HR.out
    unfold scK at hrow
    rw [Nat.sub_self,List.replicate_zero,List.append_nil,List.take_length] at hrow
    have HE:=Lib.hid (HV.out wr w.heap.size HB.out (Row.ints hrow (Row.lt hrow).2))
    clear hrow
    go_wp2_with fail
    with_reducible refine HE.out.mono ?_
    rintro e w2 ⟨rfl,n,rfl⟩
    go_wp2_with fail
    go_ret
    exact ⟨rfl,qaA HB.out n⟩
end Go.Proofs.YtlmglaonldlanaaGreat
namespace Go.Proofs.YtlmglaonldlanaaGreat
open Go.RowKit Pln
theorem qcX {fn:Func} {t u v x:Tmp} (h:fn.results=#[.tmp t,.tmp u,.tmp v,.tmp x]) (tmps:Array Value) (P:Program) (w:World) :
 (results fn tmps).run P w=.ok (.tuple #[tmps.getD t undef,tmps.getD u undef,tmps.getD v undef,tmps.getD x undef]) w:=by
 unfold results
 rw [h]
 simp
structure ExtOk (w':World) (p1 m1:Int) (mod1:List Int) (p m:Int) (mod:List Int) (n:Int) (gv:Option Addr) (A:Option Addr) (nA:Nat) (a:Int) (gb r:Nat):Prop where
 g:gv=some ⟨gb,0,none⟩
 ok:fieldOK p m mod=true
 ok1:fieldOK p1 m1 mod1=true
 pp:p1=p
 len:nA=p1.toNat ^ m1.toNat
 gf:GFM w' w'.heap.size gb p.toNat m.toNat mod (lOf p m mod) (logL (lOf p m mod) (p.toNat ^ m.toNat))
 rq:r<p.toNat ^ m.toNat
 root:m1=1\/evN (opsT p.toNat m.toNat (lOf p m mod)) (mdOf m1 mod1++[1]) r=0
 im:IntsAt w' w'.heap.size A (nz ((List.range nA).map (imN (opsT p.toNat m.toNat (lOf p m mod)) p.toNat m1.toNat r)))
 ro:RootOk p m mod n a
 n1:1<=n
 n2:n<=64
def ExtPost (w:World) (p1 m1:Int) (mod1:List Int) (p m:Int) (mod:List Int) (n:Int) (e:Ending) (w':World):Prop :=
 (∃ (gv A:Option Addr) (nA cA:Nat) (a z:Int),e=.returned (.tuple #[.pointer gv,.slice A nA cA,.int .i64 a,.int .i64 z])/\(z=0->∃ gb r,ExtOk w' p1 m1 mod1 p m mod n gv A nA a gb r))/\Below w.heap.size w w'
set_option maxHeartbeats 4000000 in
set_option maxRecDepth 100000 in
theorem extension_c (p1 m1:Int) (mod1:List Int) (A1:Option Addr) (c1:Nat) (p m:Int) (mod:List Int) (A:Option Addr) (c:Nat) (n:Int) (w:World) (hA1:IntsAt w w.heap.size A1 mod1) (hl1:mod1.length<=9223372036854775807) (hA:IntsAt w w.heap.size A mod) (hl:mod.length<=9223372036854775807) :
 Calls Tryz.prog 104 #[.agg #[.int .i64 p1,.int .i64 m1,.slice A1 mod1.length c1],.agg #[.int .i64 p,.int .i64 m,.slice A mod.length c],.int .i64 n] w (ExtPost w p1 m1 mod1 p m mod n):=by
 have HX:=Lib.hid (b2_new w [.int .i64 p1,.int .i64 m1,.slice A1 mod1.length c1] 29 [.int .i64 p,.int .i64 m,.slice A mod.length c] 29)
 have HA1:=Lib.hid hA1
 have HA:=Lib.hid hA
 clear hA1 hA
 go_enter Tryz.func104,Tryz.ntmps104
 go_upto_region 1 with fail
 generalize (w.alloc (.cells #[.int .i64 p1,.int .i64 m1,.slice A1 mod1.length c1] 29)).alloc (.cells #[.int .i64 p,.int .i64 m,.slice A mod.length c] 29)=W0 at *
 have HR1:Hid (∀ W,Below W0.heap.size W0 W->W.rangeAt w.heap.size 0 [.int .i64 p1,.int .i64 m1,.slice A1 mod1.length c1]/\W.rangeAt (w.heap.size+1) 0 [.int .i64 p,.int .i64 m,.slice A mod.length c]):=fun W hW=>⟨(HX.out.grow hW).range,qaC (HX.out.grow hW).2.1⟩
 have HLW:Hid (∀ W,Below W0.heap.size W0 W->Below w.heap.size w W/\w.heap.size<=W0.heap.size):=fun W hW=>⟨(HX.out.grow hW).below,HX.out.below.size⟩
 have HN:Hid (∀ W,Below W0.heap.size W0 W->_):=fun W hW=>qeN p m mod A c W ((HA.out.keep (HLW.out W hW).1).more (HLW.out W hW).1.size) hl
 have HRO:Hid (∀ W,Below W0.heap.size W0 W->_):=fun W hW=>root_c p m mod A c n W ((HA.out.keep (HLW.out W hW).1).more (HLW.out W hW).1.size) hl
 have HBAD:Hid (∀ (z:Int) (W:World),z≠0->Below W0.heap.size W0 W->ExtPost w p1 m1 mod1 p m mod n (.returned (.tuple #[.pointer none,.slice none 0 0,.int .i64 0,.int .i64 z])) W):=fun z W hz hW=>⟨⟨_,_,_,_,_,z,rfl,fun h=>absurd h hz⟩,(HLW.out W hW).1⟩
 have hr0:=Lib.hid (HR1.out W0 (Below.refl _ _)).2
 have HN1:=Lib.hid (HN.out W0 (Below.refl _ _))
 go_wp2_with (refine wpList_load_mid rfl 29 (.tmp 4) rfl (w.heap.size+1) 0 rfl [.int .i64 p,.int .i64 m,.slice A mod.length c] _ hr0.out Tryz.underlying29 rfl fieldSize ?_)
 (with_reducible refine HN1.out.mono ?_)
 rintro e w1 ⟨hcase,hb1⟩
 have HB1:=Lib.hid hb1
 rcases hcase with ⟨hok,rfl⟩ | ⟨hok,gb,rfl,hge,hgf⟩
 . clear hok HN HN1 HRO
   go_wp2_with fail
   refine bodyPost_ret (qcX rfl _ _ _) rfl ?_
   exact HBAD.out 1 _ (by decide) HB1.out
 have HG:=Lib.hid hgf
 have HOK:=Lib.hid hok
 have hsm:=(qaW hok).small
 have hml:mod.length<=1000000:=by
  have hs:=qbJ (by unfold fieldOK at hok;rw [Bool.and_eq_true] at hok;exact hok.1:shapeM p m mod=true)
  by_cases hm1:m=1
  . rw [hs.one hm1];simp
  . rw [hs.len hm1];have:=hs.small.m2;omega
 have HEM:Hid (Calls Tryz.prog 160 #[.agg #[.int .i64 p1,.int .i64 m1,.slice A1 mod1.length c1],.pointer (some ⟨gb,0,none⟩)] w1 (EmbPost w1 p1 m1 mod1 p.toNat (opsT p.toNat m.toNat (lOf p m mod)) (p.toNat ^ m.toNat))) :=
  embed_c p1 m1 mod1 A1 c1 gb p.toNat m.toNat mod (mdOf m mod) (lOf p m mod) w1 ((HA1.out.keep (HLW.out w1 hb1).1).more (HLW.out w1 hb1).1.size) hl1 (qaW hok) hgf hml
 clear hok hgf hb1 HN HN1 hsm hml hge
 by_cases hn:n<1\/64<n
 . by_cases hn1 : n < 1
   . go_wp2_with fail
     refine bodyPost_ret (qcX rfl _ _ _) rfl ?_
     exact HBAD.out 4 _ (by decide) HB1.out
   . have hn2 : 64 < n := by omega
     go_wp2_with fail
     refine bodyPost_ret (qcX rfl _ _ _) rfl ?_
     exact HBAD.out 4 _ (by decide) HB1.out
 have hn1:¬ n<1:=by omega
 have hn2:¬ 64<n:=by omega
 have hr1:=Lib.hid (HR1.out w1 HB1.out).1
 go_wp2_with (refine wpList_load_mid rfl 29 (.tmp 3) rfl w.heap.size 0 rfl [.int .i64 p1,.int .i64 m1,.slice A1 mod1.length c1] _ hr1.out Tryz.underlying29 rfl fieldSize ?_)
 (with_reducible refine HEM.out.mono ?_)
 rintro e w2 ⟨⟨Ai,ni,ci,z,rfl,hz⟩,hb2⟩
 have hs01:W0.heap.size<=w1.heap.size:=HB1.out.size
 have HB2:Hid (Below W0.heap.size W0 w2):=HB1.out.trans (hb2.mono hs01)
 have HG2:=Lib.hid ((HG.out.keep hb2).more hb2.size)
 by_cases hz0:z=0
 rotate_left
 . have hzb : (z != 0) = true := bne_iff_ne.2 hz0
   have HZ0:=Lib.hid hz0
   clear HG HG2 hz hz0 HEM HRO
   go_wp2_with fail
   refine bodyPost_ret (qcX rfl _ _ _) rfl ?_
   exact HBAD.out z _ HZ0.out HB2.out
 have HZZ:=Lib.hid (hz hz0)
 subst hz0
 clear hz hb2 HG HEM
 have hr2:=Lib.hid (HR1.out w2 HB2.out).2
 have HRO1:=Lib.hid (HRO.out w2 HB2.out)
 go_wp2_with (refine wpList_load_mid rfl 29 (.tmp 4) rfl (w.heap.size+1) 0 rfl [.int .i64 p,.int .i64 m,.slice A mod.length c] _ hr2.out Tryz.underlying29 rfl fieldSize ?_)
 (with_reducible refine HRO1.out.mono ?_)
 rintro e w3 ⟨⟨x,z,rfl,hx⟩,hb3⟩
 have HXX:=Lib.hid hx
 have HB3:=Lib.hid hb3
 clear hx hb3 HRO1 HRO
 go_wp2_with fail
 refine bodyPost_ret (qcX rfl _ _ _) rfl ?_
 refine ⟨⟨_,_,_,_,_,_,rfl,fun h=>?_⟩,(HLW.out w3 (HB2.out.trans (HB3.out.mono HB2.out.size))).1⟩
 obtain ⟨h1,h2,h3,r,h4,h5,h6⟩:=HZZ.out
 have hpe:p1=p:=by
  have:=(qbJ (by have:=HOK.out;unfold fieldOK at this;rw [Bool.and_eq_true] at this;exact this.1:shapeM p m mod=true)).p0
  omega
 exact ⟨gb,r,rfl,HOK.out,h1,hpe,h3,(HG2.out.keep HB3.out).more HB3.out.size,h4,h5,(h6.keep HB3.out).more HB3.out.size,HXX.out h,by omega,by omega⟩
end Go.Proofs.YtlmglaonldlanaaGreat
namespace Go.Proofs.YtlmglaonldlanaaGreat
open Go.RowKit Pln
set_option maxHeartbeats 1000000 in
set_option maxRecDepth 100000 in
theorem zeros1_c (gb p m B:Nat) (md l im r:List Nat) (x b1 b2 b3:Nat) (Ai Ar:Option Addr) (ci cr:Nat) (w:World) (hF:FT p m md l) (hG:GFAt w B gb p m l (logL l (p ^ m))) (hB:B<=w.heap.size) (him:∀ a∈im,a<p ^ m) (hr:∀ y∈r,y<im.length) (hx:x<p ^ m)
 (hI:IntsAt w B Ai (nz im)) (hR:IntsAt w B Ar (nz r)) (hl:r.length<=1000) (hil:im.length<=1000000) (c1:w.cell? ⟨b1,0,none⟩=some (.pointer (some ⟨gb,0,none⟩))) (c2:w.cell? ⟨b2,0,none⟩=some (.slice Ai im.length ci)) (c3:w.cell? ⟨b3,0,none⟩=some (.int .i64 (x:Int))) :
 Calls Tryz.prog 106 #[.slice Ar r.length cr,.pointer (some ⟨b1,0,none⟩),.pointer (some ⟨b2,0,none⟩),.pointer (some ⟨b3,0,none⟩)] w fun e w'=>(∃ b:Bool,e=.returned (.bool b)/\(b=false->valN (opsT p m l) im r x=0))/\Below w.heap.size w w':=by
 have HV:=Lib.hid (value_c gb p m B md l im r x Ai Ar ci cr w hF hG hB him hr hx hI hR hl hil)
 obtain ⟨vv,hvv⟩:∃ vv,valN (opsT p m l) im r x=vv:=⟨_,rfl⟩
 rw [hvv] at HV ⊢
 clear hF hG him hr hI hR hvv
 go_enter Tryz.func106,Tryz.ntmps106
 go_wp2_with fail
 with_reducible refine HV.out.mono ?_
 rintro e w' ⟨rfl,hb⟩
 have HB:=Lib.hid hb
 clear hb
 go_wp2_with fail
 go_ret
 exact ⟨⟨_,rfl,fun h=>by simpa using h⟩,HB.out⟩
def RelIz (w:World) (n:Nat) (P:Nat->Prop) (v8:Value) (wr:World):Prop:=∃ k:Nat,k<=n/\v8=.int .i64 k/\Below w.heap.size w wr/\∀ i,i<k->P i
set_option maxHeartbeats 2000000 in
set_option maxRecDepth 100000 in
theorem indexzero_c (R:List (List Int)) (P:Nat->Prop) (A:Option Addr) (c b1 b2 b3:Nat) (w:World) (hA:RowsAt w w.heap.size A R) (hl:R.length<=1000)
 (hf:∀ (k:Nat) (Ao:Option Addr) (co:Nat) (W:World),k<R.length->Below w.heap.size w W->IntsAt W W.heap.size Ao (R.getD k [])->Calls Tryz.prog 106 #[.slice Ao (R.getD k []).length co,.pointer (some ⟨b1,0,none⟩),.pointer (some ⟨b2,0,none⟩),.pointer (some ⟨b3,0,none⟩)] W fun e w'=>(∃ b:Bool,e=.returned (.bool b)/\(b=false->P k))/\Below W.heap.size W w') :
 Calls Tryz.prog 159 #[.slice A R.length c,.func (.func 106) #[] #[.pointer (some ⟨b1,0,none⟩),.pointer (some ⟨b2,0,none⟩),.pointer (some ⟨b3,0,none⟩)]] w fun e w'=>(∃ z:Int,e=.returned (.int .i64 z)/\(z<0->∀ i,i<R.length->P i))/\Below w.heap.size w w':=by
 have HA:=Lib.hid hA
 have HF:=Lib.hid hf
 clear hA hf
 go_enter Tryz.func159,Tryz.ntmps159
 go_wp2_with fail
 go_loopw [8] (fun v8 wr=>RelIz w R.length P v8 wr) (fun v8 _=>R.length-(intOf v8).toNat)
 case atStart=>exact ⟨0,by omega,rfl,Below.refl _ _,fun i h=>absurd h (by omega)⟩
 case round =>
  obtain ⟨k,hk,rfl,hb,hp⟩:=hrel
  have HB:=Lib.hid hb
  have HP:=Lib.hid hp
  clear hb hp
  by_cases hlt:k<R.length
  . obtain ⟨b,o,Ai,ci,rfl,hbl,hcr,hir⟩ := (HA.out.keep HB.out).at_ (i := k) hlt
    have HC:=Lib.hid (HF.out k Ai ci wr hlt HB.out (hir.more HB.out.size))
    have k0:(0:Int)<=(k:Int):=by omega
    have k1:(k:Int)<(R.length:Int):=by omega
    have hw1:IntKind.i64.wrap ((k:Int)+1)=(k:Int)+1:=IntWalk.i64_in _ (by omega)
    clear hir
    generalize R.getD k []=r at *
    go_wp2_with fail
    with_reducible refine HC.out.mono ?_
    rintro e w' ⟨⟨bb,rfl,hbb⟩,hb2⟩
    have HB2:Hid (Below w.heap.size w w'):=HB.out.trans (hb2.mono HB.out.size)
    have HBB:=Lib.hid hbb
    clear hb2 hbb
    cases bb
    . go_wp2_with fail
      go_roundw
      case rel=>exact ⟨k+1,by omega,by go_num,HB2.out,fun i hi=>by
       rcases Nat.lt_succ_iff_lt_or_eq.1 hi with h | rfl
       . exact HP.out i h
       . first | exact HBB.out rfl | exact HBB.out trivial⟩
      case measure=>simp [intOf];omega
    . go_wp2_with fail
      go_ret
      exact ⟨⟨_,rfl,fun h=>by omega⟩,HB2.out⟩
  . obtain rfl : k = R.length := by omega
    go_wp2_with fail
    go_ret
    exact ⟨⟨_,rfl,fun _=>HP.out⟩,HB.out⟩
set_option maxHeartbeats 1000000 in
set_option maxRecDepth 100000 in
theorem containszero_c (R:List (List Int)) (P:Nat->Prop) (A:Option Addr) (c b1 b2 b3:Nat) (w:World) (hA:RowsAt w w.heap.size A R) (hl:R.length<=1000)
 (hf:∀ (k:Nat) (Ao:Option Addr) (co:Nat) (W:World),k<R.length->Below w.heap.size w W->IntsAt W W.heap.size Ao (R.getD k [])->Calls Tryz.prog 106 #[.slice Ao (R.getD k []).length co,.pointer (some ⟨b1,0,none⟩),.pointer (some ⟨b2,0,none⟩),.pointer (some ⟨b3,0,none⟩)] W fun e w'=>(∃ b:Bool,e=.returned (.bool b)/\(b=false->P k))/\Below W.heap.size W w') :
 Calls Tryz.prog 102 #[.slice A R.length c,.func (.func 106) #[] #[.pointer (some ⟨b1,0,none⟩),.pointer (some ⟨b2,0,none⟩),.pointer (some ⟨b3,0,none⟩)]] w fun e w'=>(∃ b:Bool,e=.returned (.bool b)/\(b=false->∀ i,i<R.length->P i))/\Below w.heap.size w w':=by
 have HC:=Lib.hid (indexzero_c R P A c b1 b2 b3 w hA hl hf)
 clear hA hf
 go_enter Tryz.func102,Tryz.ntmps102
 go_wp2_with fail
 refine HC.out.mono ?_
 rintro e w' ⟨⟨z,rfl,hz⟩,hb⟩
 have HZ:=Lib.hid hz
 have HB:=Lib.hid hb
 clear hz hb
 by_cases h0:0<=z
 . go_wp2_with fail
   go_ret
   exact ⟨⟨_,rfl,fun h=>by simp at h <;> omega⟩,HB.out⟩
 . have HN : Hid (z < 0) := by show z < 0;omega
   clear h0
   go_wp2_with fail
   go_ret
   exact ⟨⟨_,rfl,fun _=>HZ.out HN.out⟩,HB.out⟩
end Go.Proofs.YtlmglaonldlanaaGreat
namespace Go.Proofs.YtlmglaonldlanaaGreat
open Go.RowKit Pln
theorem powT_lt {p m:Nat} {md l:List Nat} (h:FT p m md l) {x:Nat} (_hx:x<p ^ m) (n:Nat):powT l (logL l (p ^ m)) (p ^ m) x n<p ^ m:=by
 have hq1:=(Al.fld_of h).q1
 unfold powT
 split
 . exact hq1
 . split
   . omega
   . have hr : (logL l (p ^ m)).getD x 0 * (n % (p ^ m - 1)) % (p ^ m - 1) < l.length := by
      rw [h.tab.len]
      exact Nat.mod_lt _ (by omega)
     generalize (logL l (p ^ m)).getD x 0*(n % (p ^ m-1)) % (p ^ m-1)=j at *
     have:l.getD j 0=l[j]:=by simp [List.getD,hr]
     rw [this]
     exact h.tab.lt _ (List.getElem_mem hr)
theorem dotO_ltq {O:Ops} {q:Nat} (ha:∀ x y,x<q->y<q->O.add x y<q) (hm:∀ x y,x<q->y<q->O.mul x y<q):∀ (s:Nat) (u v:List Nat),s<q->(∀ x∈u,x<q)->(∀ x∈v,x<q)->Dv.dotO O s u v<q
 | s,[],v,hs,_,_=>by cases v <;> exact hs
 | s,_ :: _,[],hs,_,_=>hs
 | s,x :: u,y :: v,hs,hu,hv=>dotO_ltq ha hm _ u v (ha _ _ hs (hm _ _ (hu x (by simp)) (hv y (by simp)))) (fun z hz=>hu z (List.mem_cons_of_mem _ hz)) (fun z hz=>hv z (List.mem_cons_of_mem _ hz))
theorem imN_lt {p m:Nat} {md l:List Nat} (h:FT p m md l) {r:Nat} (hr:r<p ^ m) (m1 x:Nat):imN (opsT p m l) p m1 r x<p ^ m:=by
 have hq1:=(Al.fld_of h).q1
 have hp:0<p:=by have:=h.small.p1;omega
 have hpq:p<=p ^ m:=Nat.le_self_pow (by have:=h.small.m1;omega) p
 have hm:∀ x y,x<p ^ m->y<p ^ m->(opsT p m l).mul x y<p ^ m:=fun x y hx hy=>qcZ h hx hy
 refine dotO_ltq (fun x y _ _=>qeO hp m x y) hm 0 _ _ (by omega) (fun y hy=>?_) (fun y hy=>?_)
 . have := qeQ hp m1 x y hy
   omega
 . obtain ⟨k,_,rfl⟩ := List.mem_map.1 hy
   exact pwN_lt hm hq1 hr k
def imL (O:Ops) (p m1 r q1:Nat):List Nat:=(List.range q1).map (imN O p m1 r)
structure ExtF (p1 m1:Int) (mod1:List Int) (p m:Int) (mod:List Int) (n:Nat) (a r:Nat):Prop where
 ok:fieldOK p m mod=true
 ok1:fieldOK p1 m1 mod1=true
 pp:p1=p
 rq:r<p.toNat ^ m.toNat
 root:m1=1\/evN (opsT p.toNat m.toNat (lOf p m mod)) (mdOf m1 mod1++[1]) r=0
 aq:a<p.toNat ^ m.toNat
 a0:a≠0
 ord:(n:Int)=((ordT (logL (lOf p m mod) (p.toNat ^ m.toNat)) (p.toNat ^ m.toNat) a:Nat):Int)
 n1:1<=n
 n2:n<=64
def ZeroN (p1 m1 p m:Int) (mod:List Int) (rows:List (List Nat)) (a r z:Nat):Prop :=
 ∀ i,i<rows.length->valN (opsT p.toNat m.toNat (lOf p m mod)) (imL (opsT p.toNat m.toNat (lOf p m mod)) p.toNat m1.toNat r (p1.toNat ^ m1.toNat)) (rows.getD i []) (powT (lOf p m mod) (logL (lOf p m mod) (p.toNat ^ m.toNat)) (p.toNat ^ m.toNat) a z)=0
def ZrPost (w:World) (p1 m1:Int) (mod1:List Int) (p m:Int) (mod:List Int) (n:Nat) (rows:List (List Nat)) (e:Ending) (w':World):Prop :=
 (∃ (VA:Option Addr) (k c:Nat) (z:Int),e=.returned (.tuple #[.slice VA k c,.int .i64 z])/\(z=0->∃ (zs:List Nat) (a r:Nat),k=zs.length/\zs.length<=64/\IntsAt w' w'.heap.size VA (nz zs)/\ExtF p1 m1 mod1 p m mod n a r/\∀ z∈zs,z<n/\ZeroN p1 m1 p m mod rows a r z))/\Below w.heap.size w w'
def RelZr (w4:World) (B n:Nat) (Z:Nat->Prop) (v11 v36:Value) (wr:World):Prop :=
 ∃ (k:Nat) (zs:List Nat),k<=n/\v36=.int .i64 k/\zs.length<=k/\Num wr B v11 zs/\(∀ z∈zs,z<n/\Z z)/\Below B w4 wr
set_option maxHeartbeats 8000000 in
set_option maxRecDepth 100000 in
theorem zeros_c (p1 m1:Int) (mod1:List Int) (A1:Option Addr) (c1 n:Nat) (rows:List (List Nat)) (AR:Option Addr) (cR:Nat) (p m:Int) (mod:List Int) (A:Option Addr) (c:Nat) (w:World) (hA1:IntsAt w w.heap.size A1 mod1) (hl1:mod1.length<=9223372036854775807) (hA:IntsAt w w.heap.size A mod) (hl:mod.length<=9223372036854775807)
 (hR:RowsAt w w.heap.size AR (rows.map nz)) (hrl:rows.length<=1000) (hro:∀ r∈rows,r.length<=1000/\∀ y∈r,y<p1.toNat ^ m1.toNat) (hz:codeZ p1 m1 mod1 (n:Int) (rows.map nz)=0) :
 Calls Tryz.prog 51 #[.agg #[.int .i64 p1,.int .i64 m1,.slice A1 mod1.length c1,.int .i64 n,.slice AR rows.length cR],.agg #[.int .i64 p,.int .i64 m,.slice A mod.length c]] w (ZrPost w p1 m1 mod1 p m mod n rows):=by
 have HX:=Lib.hid (b2_new w [.int .i64 p1,.int .i64 m1,.slice A1 mod1.length c1,.int .i64 n,.slice AR rows.length cR] 32 [.int .i64 p,.int .i64 m,.slice A mod.length c] 29)
 have HA1:=Lib.hid hA1
 have HA:=Lib.hid hA
 have HR:=Lib.hid hR
 have HRO:=Lib.hid hro
 have HZ:=Lib.hid hz
 clear hA1 hA hR hro hz
 go_enter Tryz.func51,Tryz.ntmps51
 go_upto_region 1 with fail
 generalize (w.alloc (.cells #[.int .i64 p1,.int .i64 m1,.slice A1 mod1.length c1,.int .i64 n,.slice AR rows.length cR] 32)).alloc (.cells #[.int .i64 p,.int .i64 m,.slice A mod.length c] 29)=W0 at *
 have HCK:Hid (Calls Tryz.prog 27 #[.agg #[.int .i64 p1,.int .i64 m1,.slice A1 mod1.length c1,.int .i64 n,.slice AR rows.length cR]] W0 fun e w'=>e=.returned (.int .i64 0)/\Below W0.heap.size W0 w'):=by
  have h:=qcS p1 m1 mod1 A1 c1 n (rows.map nz) AR cR W0 ((HA1.out.keep HX.out.below).more HX.out.below.size) hl1 ((HR.out.keep HX.out.below).more HX.out.below.size) (by rw [List.length_map];omega)
  rw [HZ.out,List.length_map] at h
  exact h
 have hr0:=Lib.hid HX.out.range
 go_wp2_with (refine wpList_load_mid rfl 32 (.tmp 2) rfl w.heap.size 0 rfl [.int .i64 p1,.int .i64 m1,.slice A1 mod1.length c1,.int .i64 n,.slice AR rows.length cR] _ hr0.out Tryz.underlying32 rfl codeSize ?_)
 (with_reducible refine HCK.out.mono ?_)
 rintro e w1 ⟨rfl,hb1⟩
 have HX1:=Lib.hid (HX.out.grow hb1)
 clear hb1 HX HCK hr0
 have y3:w1.cell? ⟨w.heap.size,3,none⟩=some (.int .i64 n):=HX1.out.cell rfl
 have hr1:=Lib.hid HX1.out.field
 have hr2:=Lib.hid (qaC HX1.out.2.1)
 have HEX:=Lib.hid (extension_c p1 m1 mod1 A1 c1 p m mod A c n w1 ((HA1.out.keep HX1.out.below).more HX1.out.below.size) hl1 ((HA.out.keep HX1.out.below).more HX1.out.below.size) hl)
 go_wp2_with (first
  | (refine wpList_load_mid rfl 29 (.tmp 21) rfl w.heap.size 0 rfl [.int .i64 p1,.int .i64 m1,.slice A1 mod1.length c1] _ hr1.out Tryz.underlying29 rfl fieldSize ?_)
  | (refine wpList_load_mid rfl 29 (.tmp 3) rfl (w.heap.size+1) 0 rfl [.int .i64 p,.int .i64 m,.slice A mod.length c] _ hr2.out Tryz.underlying29 rfl fieldSize ?_))
 (with_reducible refine HEX.out.mono ?_)
 rintro e w2 ⟨⟨gv,Ai,nA,cA,a,z,rfl,hzz⟩,hb2⟩
 have HX2:=Lib.hid (HX1.out.grow hb2)
 have HZZ:=Lib.hid hzz
 clear hb2 hzz HX1 HEX y3 hr1 hr2
 have hs2:w.heap.size+1<w2.heap.size:=HX2.out.2.2.2
 go_upto_region 5 with fail
 have hba:Below w2.heap.size w2 ((w2.alloc (.cells #[.pointer gv] 100)).alloc (.cells #[.slice Ai nA cA] 23)):=((Below.refl _ _).alloc (Nat.le_refl _) _).alloc (by simp) _
 have hk7:((w2.alloc (.cells #[.pointer gv] 100)).alloc (.cells #[.slice Ai nA cA] 23)).heap[w2.heap.size]?=some (.cells #[.pointer gv] 100 (0,0)):=(heap_alloc_old _ _ (by simp)).trans (heap_alloc_new _ _)
 have hk8:((w2.alloc (.cells #[.pointer gv] 100)).alloc (.cells #[.slice Ai nA cA] 23)).heap[w2.heap.size+1]?=some (.cells #[.slice Ai nA cA] 23 (0,0)):=qbM (by simp) _
 have HX4:=Lib.hid (HX2.out.grow hba)
 have HBA:=Lib.hid hba
 have HK7:=Lib.hid hk7
 have HK8:=Lib.hid hk8
 clear hba hk7 hk8
 generalize (w2.alloc (.cells #[.pointer gv] 100)).alloc (.cells #[.slice Ai nA cA] 23)=w4 at *
 have hs4:w2.heap.size+1<w4.heap.size:=qbE HK8.out
 by_cases hz0:z=0
 rotate_left
 . have hzb : (z != 0) = true := bne_iff_ne.2 hz0
   have HZ0:=Lib.hid hz0
   clear hz0 HZZ HK7 HK8
   go_wp2_with fail
   go_ret2
   exact ⟨⟨_,_,_,z,rfl,fun h=>absurd h HZ0.out⟩,HX4.out.below⟩
 obtain ⟨gb,r,hE⟩:=HZZ.out hz0
 subst hz0
 obtain ⟨_,a',ha',haq,ha0,hord⟩:=hE.ro
 have HEF:Hid (ExtF p1 m1 mod1 p m mod n a' r):=⟨hE.ok,hE.ok1,hE.pp,hE.rq,hE.root,haq,ha0,hord,by have:=hE.n1;omega,by have:=hE.n2;omega⟩
 have hgv:=hE.g
 have hn2:n<=64:=HEF.out.n2
 subst ha'
 subst hgv
 have HFT:=Lib.hid (qaW hE.ok)
 have HG4:=Lib.hid ((hE.gf.gf.keep HBA.out).more HBA.out.size)
 have HIM:=Lib.hid ((hE.im.keep HBA.out).more HBA.out.size)
 have HLEN:=Lib.hid hE.len
 clear hE hord ha0 HZZ HX2
 have hil:nA<=256:=by
  have:=(qbJ (by have:=HEF.out.ok1;unfold fieldOK at this;rw [Bool.and_eq_true] at this;exact this.1:shapeM p1 m1 mod1=true)).small.q
  rw [HLEN.out]
  exact this
 obtain ⟨pw,hpw⟩:∃ pw:Nat->Nat,(fun k=>powT (lOf p m mod) (logL (lOf p m mod) (p.toNat ^ m.toNat)) (p.toNat ^ m.toNat) a' k)=pw:=⟨_,rfl⟩
 have hpk:∀ k,powT (lOf p m mod) (logL (lOf p m mod) (p.toNat ^ m.toNat)) (p.toNat ^ m.toNat) a' k=pw k:=fun k=>by rw [<- hpw]
 have HPOW:Hid (∀ (k:Nat) (W:World),k<=1000->Below w4.heap.size w4 W->Calls Tryz.prog 105 #[.pointer (some ⟨gb,0,none⟩),.int .i64 (a':Int),.int .i64 (k:Int)] W (Quiet (.tuple #[.int .i64 ((pw k:Nat):Int),.int .i64 0]) W)):=fun k W hk hW=>by
  have h:=pow_c a' k gb p.toNat m.toNat w4.heap.size (mdOf m mod) (lOf p m mod) W HFT.out (HG4.out.keep hW) haq (by omega)
  rw [hpk] at h
  exact h
 have HPL:Hid (∀ k,pw k<p.toNat ^ m.toNat):=fun k=>by
  rw [<- hpk]
  exact powT_lt HFT.out haq k
 obtain ⟨Z,hZ⟩:∃ Z:Nat->Prop,ZeroN p1 m1 p m mod rows a' r=Z:=⟨_,rfl⟩
 have HZF:Hid (∀ k,(∀ i,i<(rows.map nz).length->valN (opsT p.toNat m.toNat (lOf p m mod)) (imL (opsT p.toNat m.toNat (lOf p m mod)) p.toNat m1.toNat r nA) (rows.getD i []) (pw k)=0)->Z k):=fun k h=>by
  rw [<- hZ]
  intro i hi
  rw [hpk,<- HLEN.out]
  exact h i (by rw [List.length_map];exact hi)
 have HCZ:Hid (∀ (k b3:Nat) (W:World),Below w4.heap.size w4 W->b3<W.heap.size->W.cell? ⟨b3,0,none⟩=some (.int .i64 ((pw k:Nat):Int))->Calls Tryz.prog 102 #[.slice AR rows.length cR,.func (.func 106) #[] #[.pointer (some ⟨w2.heap.size,0,none⟩),.pointer (some ⟨w2.heap.size+1,0,none⟩),.pointer (some ⟨b3,0,none⟩)]] W fun e w'=>(∃ b:Bool,e=.returned (.bool b)/\(b=false->Z k))/\Below W.heap.size W w'):=fun k b3 W hW hb3 hc3=>by
  have hlo:w.heap.size<=w4.heap.size:=by omega
  have h:=containszero_c (rows.map nz) (fun i=>valN (opsT p.toNat m.toNat (lOf p m mod)) (imL (opsT p.toNat m.toNat (lOf p m mod)) p.toNat m1.toNat r nA) (rows.getD i []) (pw k)=0) AR cR w2.heap.size (w2.heap.size+1) b3 W (((HR.out.keep HX4.out.below).keep (hW.mono hlo)).more (Nat.le_trans hlo hW.size)) (by rw [List.length_map];exact hrl) (fun kk Ao co W' hk hW' hi=>by
   rw [List.length_map] at hk
   have e1:(rows.map nz).getD kk []=nz (rows.getD kk []):=by simp [List.getD,hk]
   have e2:rows.getD kk []∈rows:=by
    have:rows.getD kk []=rows[kk]:=by simp [List.getD,hk]
    rw [this]
    exact List.getElem_mem hk
   rw [e1] at hi ⊢
   rw [qaB]
   have hb4:Below w4.heap.size w4 W':=hW.trans (hW'.mono hW.size)
   have h:=zeros1_c gb p.toNat m.toNat W'.heap.size (mdOf m mod) (lOf p m mod) (imL (opsT p.toNat m.toNat (lOf p m mod)) p.toNat m1.toNat r nA) (rows.getD kk []) (pw k) w2.heap.size (w2.heap.size+1) b3 Ai Ao cA co W' HFT.out ((HG4.out.keep hb4).more hb4.size) (Nat.le_refl _) (fun x hx=>by
    obtain ⟨y,_,rfl⟩:=List.mem_map.1 hx
    exact imN_lt HFT.out HEF.out.rq _ _) (fun y hy=>by
    rw [imL,List.length_map,List.length_range,HLEN.out]
    exact (HRO.out _ e2).2 y hy) (HPL.out k) ((HIM.out.keep hb4).more hb4.size) hi (HRO.out _ e2).1 (by rw [imL,List.length_map,List.length_range];omega)
    ((hb4.cell (p := ⟨w2.heap.size,0,none⟩) (by show w2.heap.size < _;omega)).trans (cell_of_row _ _ 0 _ _ _ HK7.out)) (by
      rw [imL,List.length_map,List.length_range]
      exact (hb4.cell (p:=⟨w2.heap.size+1,0,none⟩) hs4).trans (cell_of_row _ _ 0 _ _ _ HK8.out)) ((hW'.cell (p:=⟨b3,0,none⟩) hb3).trans hc3)
   exact h)
  rw [List.length_map] at h
  refine h.mono fun e w' h=>⟨?_,h.2⟩
  obtain ⟨⟨b,h1,h2⟩,_⟩:=h
  exact ⟨b,h1,fun hb=>HZF.out k (by rw [List.length_map];exact h2 hb)⟩
 have HFIN:Hid (∀ (VA:Option Addr) (c:Nat) (zs:List Nat) (W:World),zs.length<=n->IntsAt W W.heap.size VA (nz zs)->(∀ z∈zs,z<n/\Z z)->Below w4.heap.size w4 W->ZrPost w p1 m1 mod1 p m mod n rows (.returned (.tuple #[.slice VA zs.length c,.int .i64 0])) W):=fun VA c zs W h1 h2 h3 h4 =>
  ⟨⟨VA,zs.length,c,0,rfl,fun _=>⟨zs,a',r,rfl,by omega,h2,HEF.out,by rw [hZ];exact h3⟩⟩,HX4.out.below.trans (h4.mono (by omega))⟩
 have y3:w4.cell? ⟨w.heap.size,3,none⟩=some (.int .i64 n):=HX4.out.cell rfl
 have y4:w4.cell? ⟨w.heap.size,4,none⟩=some (.slice AR rows.length cR):=HX4.out.cell rfl
 have y7:w4.cell? ⟨w2.heap.size,0,none⟩=some (.pointer (some ⟨gb,0,none⟩)):=cell_of_row _ _ 0 _ _ _ HK7.out
 clear hpw hpk hZ HZF HPL HIM HG4 HFT HLEN hil haq HEF HK7 HK8 HR HRO HZ HA HA1
 generalize ZrPost w p1 m1 mod1 p m mod n rows=POST at *
 obtain ⟨i0,hi,hz0,hz1,hz2⟩:=qaG infoInt
 have HI:=Lib.hid hi
 have HZ0:=Lib.hid hz0
 have HZ1:=Lib.hid hz1
 have HZ2:=Lib.hid hz2
 clear hi hz0 hz1 hz2
 go_wp2_with fail
 go_loopw [11,36] (fun v11 v36 wr=>RelZr w4 w4.heap.size n Z v11 v36 wr) (fun _ v36 _=>n-(intOf v36).toNat)
 case atStart=>exact ⟨0,[],by omega,rfl,by simp,Num.nil _ _,(fun z h=>by cases h),Below.refl _ _⟩
 case round =>
  obtain ⟨k,zs,hk,rfl,hzk,hnum,hzs,hb⟩:=hrel
  obtain ⟨VA,ck,rfl⟩:=hnum.slice
  have HNU:=Lib.hid hnum
  have HB:=Lib.hid hb
  have HZS:=Lib.hid hzs
  have hbs:=hb.size
  clear hnum hb hzs
  by_cases hlt:k<n
  . have k0 : (0 : Int) <= (k : Int) := by omega
    have k1:(k:Int)<(n:Int):=by omega
    have hw1:IntKind.i64.wrap ((k:Int)+1)=(k:Int)+1:=IntWalk.i64_in _ (by omega)
    have z7:wr.cell? ⟨w2.heap.size,0,none⟩=some (.pointer (some ⟨gb,0,none⟩)):=(HB.out.cell (p:=⟨w2.heap.size,0,none⟩) (by show w2.heap.size < _;omega)).trans y7
    have HPW1:=Lib.hid (HPOW.out k wr (by omega) HB.out)
    go_wp2_with fail
    with_reducible refine HPW1.out.mono ?_
    rintro e w' ⟨rfl,j,rfl⟩
    have HB5:Hid (Below wr.heap.size wr (wr.drewN j)):=qaA (Below.refl _ _) j
    have hs5:wr.heap.size<=(wr.drewN j).heap.size:=HB5.out.size
    clear z7 HPW1
    generalize wr.drewN j=w5 at *
    go_upto_region 12 with fail
    have hba:Below wr.heap.size wr (w5.alloc (.cells #[.int .i64 ((pw k:Nat):Int)] 3)):=HB5.out.alloc hs5 _
    have hk13:(w5.alloc (.cells #[.int .i64 ((pw k:Nat):Int)] 3)).heap[w5.heap.size]?=some (.cells #[.int .i64 ((pw k:Nat):Int)] 3 (0,0)):=heap_alloc_new _ _
    have HB6:=Lib.hid hba
    have hs6:w5.heap.size<(w5.alloc (.cells #[.int .i64 ((pw k:Nat):Int)] 3)).heap.size:=qbE hk13
    have HCZ1:=Lib.hid (HCZ.out k w5.heap.size (w5.alloc (.cells #[.int .i64 ((pw k:Nat):Int)] 3)) (HB.out.trans (hba.mono hbs)) hs6 (cell_of_row _ _ 0 _ _ _ hk13))
    clear hba hk13
    generalize w5.alloc (.cells #[.int .i64 ((pw k:Nat):Int)] 3)=w6 at *
    have z4:w6.cell? ⟨w.heap.size,4,none⟩=some (.slice AR rows.length cR):=((HB.out.trans (HB6.out.mono hbs)).cell (p:=⟨w.heap.size,4,none⟩) (by show w.heap.size < _;omega)).trans y4
    go_wp2_with fail
    with_reducible refine HCZ1.out.mono ?_
    rintro e w7 ⟨⟨b,rfl,hbz⟩,hb7⟩
    have HB7:Hid (Below wr.heap.size wr w7):=HB6.out.trans (hb7.mono (by omega))
    have HBZ:=Lib.hid hbz
    have hs7:wr.heap.size<=w7.heap.size:=HB7.out.size
    have HNU7:=Lib.hid (HNU.out.grow HB7.out)
    have HB47:=Lib.hid (HB.out.trans (HB7.out.mono hbs))
    clear hb7 hbz HCZ1 z4 HB5 HB6 HNU HB HB7
    cases b
    . have HZK : Hid (Z k) := by first | exact HBZ.out rfl | exact HBZ.out trivial
      have HOW:Hid ((w7.alloc (.cells #[.int .i64 (k:Int)] 3)).ownsRow w4.heap.size 3 1 (.slice VA zs.length ck) zs.length ((nz zs).map (Value.int .i64))):=World.ownsRow.alloc HNU7.out _
      go_wp2_with (at_builtin;refine wpList_append_own_at _ rfl (.tmp 51) (.tmp 53) 23 rfl w4.heap.size 3 i0 _ 1 8 Tryz.underlying23 HI.out HZ0.out HZ1.out HZ2.out rfl (by decide) (.slice VA zs.length ck) zs.length ((nz zs).map (Value.int .i64)) rfl HOW.out ⟨w7.heap.size,0,none⟩ 1 1 [.int .i64 (k:Int)] rfl rfl ?d1 ?d2 ?d3 ?d4 ?d5 ?_)
      case d1=>exact World.news_of_block (cs:=#[.int .i64 (k:Int)]) (t:=3) (fr:=(0,0)) (heap_alloc_new w7 _)
      case d2=>intro u hu;simp at hu;subst hu;rfl
      case d3=>unfold maxLen;omega
      case d4=>omega
      case d5=>simp;omega
      intro v' w8 hown' hgw _ hat
      have HN8:Hid (Num w8 w4.heap.size v' (zs++[k])):=Num.step hown'
      have HB8:Hid (Below w4.heap.size w4 w8):=(HB47.out.alloc (by omega) _).grown hgw (by simp;omega) (fun j hj=>(World.ownsRow.lt HNU7.out j hj).1)
      clear hown' hgw hat HOW
      go_wp2_with fail
      go_roundw
      case rel=>exact ⟨k+1,zs++[k],by omega,by go_num,by simp;omega,HN8.out,(fun z hz=>by
       rcases List.mem_append.1 hz with h | h
       . exact HZS.out z h
       . have : z = k := by simpa using h
         rw [this]
         exact ⟨hlt,HZK.out⟩),HB8.out⟩
      case measure=>simp [intOf];omega
    . go_wp2_with fail
      go_roundw
      case rel=>exact ⟨k+1,zs,by omega,by go_num,by omega,HNU7.out,HZS.out,HB47.out⟩
      case measure=>simp [intOf];omega
  . obtain rfl : n = k := by omega
    have HQ:=Lib.hid (HFIN.out VA ck zs wr hzk (HNU.out.up.ints) HZS.out HB.out)
    go_wp2_with fail
    exact HQ.out
end Go.Proofs.YtlmglaonldlanaaGreat
