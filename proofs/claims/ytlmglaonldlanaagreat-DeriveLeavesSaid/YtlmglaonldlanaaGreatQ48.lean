/-
 The reference: Few of a derivation; the law's few. The law's few. The plain law: an accepted step by divisibility makes a true claim if its premise does. The law's local at the rule of divisible codes. The law's local at the rules 0 to 3. Printed by mkum.py.
-/
import Derived.Test.YtlmglaonldlanaaGreatQ47
import Derived.Test.YtlmglaonldlanaaGreatQ18
import Derived.Test.YtlmglaonldlanaaGreatQ30
import Derived.Test.YtlmglaonldlanaaGreatQ16
namespace Go.Proofs.YtlmglaonldlanaaGreat
open Go.RowKit Pln
theorem StsAt.more' {w:World} {B B':Nat} {A:Option Addr} {ds:List StD} (h:StsAt w B A ds) (hB:B<=B'):StsAt w B' A ds:=fun hz=>by
 obtain ⟨b,o,e,hlt,hc⟩:=h hz
 refine ⟨b,o,e,by omega,fun i d hd=>?_⟩
 obtain ⟨cs,h1,h2⟩:=hc i d hd
 exact ⟨cs,h1,h2.more hB⟩
def RelFw (w:World) (n:Nat) (v3:Value) (wr:World):Prop:=∃ k:Nat,k<=n/\v3=.int .i64 k/\Below w.heap.size w wr
def FewPost (w:World) (n:Nat) (e:Ending) (w':World):Prop:=∃ b,e=.returned (.bool b)/\Below w.heap.size w w'/\(b=true->n<=12)
set_option maxHeartbeats 8000000 in
set_option maxRecDepth 100000 in
theorem rfewD_c (ds:List StD) (A:Option Addr) (c:Nat) (w:World) (hA:StsAt w w.heap.size A ds) (hk:∀ d∈ds,d.ok) :
 Calls Tryz.prog 14 #[.slice A ds.length c] w (FewPost w ds.length):=by
 have HA:=Lib.hid hA
 have HK:=Lib.hid hk
 clear hA hk
 go_enter Tryz.func14,Tryz.ntmps14
 by_cases h12:(12:Int)<(ds.length:Int)
 . go_wp2_with fail
   go_ret
   exact ⟨_,rfl,Below.refl _ _,fun h=>by cases h⟩
 have HL12:Hid (ds.length<=12):=by show _<=_;omega
 go_wp2_with fail
 go_loopw [3] (fun v3 wr=>RelFw w ds.length v3 wr) (fun v3 _=>ds.length-(intOf v3).toNat)
 case atStart=>exact ⟨0,Nat.zero_le _,rfl,Below.refl _ _⟩
 case round =>
  obtain ⟨k,hkl,rfl,hb⟩:=hrel
  have HB:=Lib.hid hb
  clear hb
  by_cases hlt:k<ds.length
  . have k0 : (0 : Int) <= (k : Int) := by omega
    have k1:(k:Int)<(ds.length:Int):=by omega
    have hw1:IntKind.i64.wrap ((k:Int)+1)=(k:Int)+1:=IntWalk.i64_in _ (by omega)
    obtain ⟨b,o,csl,rfl,hbl,hrg,hst⟩:=(HA.out.keep HB.out).at_ hlt
    have hso:(ds[k]'hlt).ok:=HK.out _ (List.getElem_mem hlt)
    generalize ds[k]'hlt=s at *
    have HST:=Lib.hid (hst.more HB.out.size)
    obtain ⟨Am,Ag,Af,Aa,Ab,Ap,Aq,Ar,As,At,cm,cg,cf,ca,cb,cp,cq,cr,cs',ct,rfl,hcg,h1,h2,h3,h4,h5⟩:=hst
    have HM:=Lib.hid (h1.more HB.out.size)
    have HG:=Lib.hid (h2.more HB.out.size)
    have HT:=Lib.hid (h5.more HB.out.size)
    have HRB:=Lib.hid hrg
    obtain ⟨s1,s2,_⟩:=hso
    have eml:maxLen=9223372036854775807:=rfl
    rw [eml] at s1 s2
    have HX:=Lib.hid (qdZ wr (stCells s Am Ag Af Aa Ab Ap Aq Ar As At cm cg cf ca cb cp cq cr cs' ct))
    have HONE:Hid ((stCells s Am Ag Af Aa Ab Ap Aq Ar As At cm cg cf ca cb cp cq cr cs' ct).toArray.all (·.oneCell')=true):=by show _=_;simp [stCells,Value.oneCell']
    clear hcg h1 h2 h3 h4 h5 hrg HST
    go_upto_region 7 with (first
     | (refine wpList_load_mid rfl 40 (.tmp 18) rfl b (o+k*23) rfl (stCells s Am Ag Af Aa Ab Ap Aq Ar As At cm cg cf ca cb cp cq cr cs' ct) _ HRB.out Tryz.underlying40 rfl stepSize ?_)
     | (refine qaI rfl 40 (.tmp 4) (.tmp 19) rfl wr _ (stCells s Am Ag Af Aa Ab Ap Aq Ar As At cm cg cf ca cb cp cq cr cs' ct).toArray rfl rfl stepSize rfl HONE.out ?_))
    generalize wr.alloc (.cells (stCells s Am Ag Af Aa Ab Ap Aq Ar As At cm cg cf ca cb cp cq cr cs' ct).toArray 40)=W0 at *
    clear HRB HONE
    have y1:W0.cell? ⟨wr.heap.size,1,none⟩=some (.int .i64 s.p):=HX.out.cell rfl
    have y2:W0.cell? ⟨wr.heap.size,2,none⟩=some (.int .i64 s.m):=HX.out.cell rfl
    have y3:W0.cell? ⟨wr.heap.size,3,none⟩=some (.slice Am s.mod.length cm):=HX.out.cell rfl
    have y4:W0.cell? ⟨wr.heap.size,4,none⟩=some (.int .i64 s.n):=HX.out.cell rfl
    have y5:W0.cell? ⟨wr.heap.size,5,none⟩=some (.slice Ag s.gen.length cg):=HX.out.cell rfl
    have y7:W0.cell? ⟨wr.heap.size,7,none⟩=some (.slice Af s.frm.length cf):=HX.out.cell rfl
    have y8:W0.cell? ⟨wr.heap.size,8,none⟩=some (.slice Aa s.at_.length ca):=HX.out.cell rfl
    have y17:W0.cell? ⟨wr.heap.size,17,none⟩=some (.slice Ap s.points cp):=HX.out.cell rfl
    have y18:W0.cell? ⟨wr.heap.size,18,none⟩=some (.slice Aq s.mults cq):=HX.out.cell rfl
    have y19:W0.cell? ⟨wr.heap.size,19,none⟩=some (.slice Ar s.perm cr):=HX.out.cell rfl
    have y20:W0.cell? ⟨wr.heap.size,20,none⟩=some (.slice As s.scale cs'):=HX.out.cell rfl
    have y22:W0.cell? ⟨wr.heap.size,22,none⟩=some (.slice At s.sets.length ct):=HX.out.cell rfl
    by_cases n24:(24:Int)<s.n
    . go_wp2_with fail
      go_ret
      exact ⟨_,rfl,HB.out.trans (HX.out.2.1.mono HB.out.size),fun _=>HL12.out⟩
    by_cases g24:(24:Int)<(s.gen.length:Int)
    . go_wp2_with fail
      go_ret
      exact ⟨_,rfl,HB.out.trans (HX.out.2.1.mono HB.out.size),fun _=>HL12.out⟩
    have HF:=Lib.hid (fewN_c 700 (.int .i64 s.p) (.int .i64 s.m) (.slice Am s.mod.length cm) (.int .i64 s.n) s.gen Ag cg W0 ((HG.out.keep HX.out.2.1).more HX.out.2.1.size) (by decide) (by decide))
    go_wp2_with fail
    (with_reducible refine HF.out.mono ?_)
    rintro e w1 ⟨b1,rfl,hb1⟩
    have HX1:=Lib.hid (HX.out.grow hb1)
    clear hb1 HF HX
    clear y1 y2 y3 y4 y5 y7 y8 y17 y18 y19 y20 y22
    have y1:w1.cell? ⟨wr.heap.size,1,none⟩=some (.int .i64 s.p):=HX1.out.cell rfl
    have y2:w1.cell? ⟨wr.heap.size,2,none⟩=some (.int .i64 s.m):=HX1.out.cell rfl
    have y3:w1.cell? ⟨wr.heap.size,3,none⟩=some (.slice Am s.mod.length cm):=HX1.out.cell rfl
    have y4:w1.cell? ⟨wr.heap.size,4,none⟩=some (.int .i64 s.n):=HX1.out.cell rfl
    have y5:w1.cell? ⟨wr.heap.size,5,none⟩=some (.slice Ag s.gen.length cg):=HX1.out.cell rfl
    have y7:w1.cell? ⟨wr.heap.size,7,none⟩=some (.slice Af s.frm.length cf):=HX1.out.cell rfl
    have y8:w1.cell? ⟨wr.heap.size,8,none⟩=some (.slice Aa s.at_.length ca):=HX1.out.cell rfl
    have y17:w1.cell? ⟨wr.heap.size,17,none⟩=some (.slice Ap s.points cp):=HX1.out.cell rfl
    have y18:w1.cell? ⟨wr.heap.size,18,none⟩=some (.slice Aq s.mults cq):=HX1.out.cell rfl
    have y19:w1.cell? ⟨wr.heap.size,19,none⟩=some (.slice Ar s.perm cr):=HX1.out.cell rfl
    have y20:w1.cell? ⟨wr.heap.size,20,none⟩=some (.slice As s.scale cs'):=HX1.out.cell rfl
    have y22:w1.cell? ⟨wr.heap.size,22,none⟩=some (.slice At s.sets.length ct):=HX1.out.cell rfl
    clear W0
    cases b1
    . go_wp2_with fail
      go_ret
      exact ⟨_,rfl,HB.out.trans (HX1.out.2.1.mono HB.out.size),fun _=>HL12.out⟩
    obtain ⟨e1,he1⟩:∃ e1,IntKind.i64.wrap ((s.at_.length:Int)+(s.points:Int))=e1:=⟨_,rfl⟩
    obtain ⟨e2,he2⟩:∃ e2,IntKind.i64.wrap (e1+(s.mults:Int))=e2:=⟨_,rfl⟩
    obtain ⟨e3,he3⟩:∃ e3,IntKind.i64.wrap (e2+(s.perm:Int))=e3:=⟨_,rfl⟩
    obtain ⟨e4,he4⟩:∃ e4,IntKind.i64.wrap (e3+(s.scale:Int))=e4:=⟨_,rfl⟩
    obtain ⟨e5,he5⟩:∃ e5,IntKind.i64.wrap (e4+(s.frm.length:Int))=e5:=⟨_,rfl⟩
    by_cases hs:(200:Int)<e5
    . go_wp2_with fail
      go_ret
      exact ⟨_,rfl,HB.out.trans (HX1.out.2.1.mono HB.out.size),fun _=>HL12.out⟩
    have HF:=Lib.hid (xfew_c s.sets At ct w1 ((HT.out.keep HX1.out.2.1).more HX1.out.2.1.size))
    go_wp2_with fail
    (with_reducible refine HF.out.mono ?_)
    rintro e w2 ⟨b2,rfl,hb2⟩
    have HX2:=Lib.hid (HX1.out.grow hb2)
    clear hb2 HF HX1 he1 he2 he3 he4 he5
    clear y1 y2 y3 y4 y5 y7 y8 y17 y18 y19 y20 y22
    clear w1
    cases b2
    . go_wp2_with fail
      go_ret
      exact ⟨_,rfl,HB.out.trans (HX2.out.2.1.mono HB.out.size),fun _=>HL12.out⟩
    have HRC:Hid (w2.rangeAt wr.heap.size 1 [.int .i64 s.p,.int .i64 s.m,.slice Am s.mod.length cm,.int .i64 s.n,.slice Ag s.gen.length cg]):=HX2.out.code
    have HCK:=Lib.hid (qdO s.p s.m s.mod Am cm s.n s.gen Ag cg w2 ((HM.out.keep HX2.out.2.1).more HX2.out.2.1.size) s1 ((HG.out.keep HX2.out.2.1).more HX2.out.2.1.size) s2)
    go_wp2_with (refine wpList_load_mid rfl 32 (.tmp 71) rfl wr.heap.size 1 rfl [.int .i64 s.p,.int .i64 s.m,.slice Am s.mod.length cm,.int .i64 s.n,.slice Ag s.gen.length cg] _ HRC.out Tryz.underlying32 rfl codeSize ?_)
    (with_reducible refine HCK.out.mono ?_)
    rintro e w3 ⟨rfl,hb3⟩
    have HX3:=Lib.hid (HX2.out.grow hb3)
    clear hb3 HCK HX2 HRC
    clear w2
    have HB3:=Lib.hid (HB.out.trans (HX3.out.2.1.mono HB.out.size))
    by_cases hz:codeZ s.p s.m s.mod s.n s.gen=0
    . have HRC : Hid (w3.rangeAt wr.heap.size 1 [.int .i64 s.p,.int .i64 s.m,.slice Am s.mod.length cm,.int .i64 s.n,.slice Ag s.gen.length cg]) := HX3.out.code
      have HDU:=Lib.hid (rdual_c s Am cm Ag cg w3 hz ((HM.out.keep HX3.out.2.1).more HX3.out.2.1.size) ((HG.out.keep HX3.out.2.1).more HX3.out.2.1.size))
      have hgl:s.gen.length<=256:=(code_form hz).2.2.2.2.2
      have HCN:Hid (∀ W,Below wr.heap.size wr W->Calls Tryz.prog 20 #[.agg #[.int .i64 s.p,.int .i64 s.m,.slice Am s.mod.length cm,.int .i64 s.n,.slice Ag s.gen.length cg],.int .i64 1024] W fun e w'=>e=.returned (.int .i64 (cnV s.p s.m s.mod s.n s.gen 1024))/\Below W.heap.size W w'):=fun W hW =>
       count_c s.p s.m s.mod Am cm s.n s.gen Ag cg 1024 W ((HM.out.keep hW).more hW.size) s1 ((HG.out.keep hW).more hW.size) (by omega)
      rw [hz]
      clear hz
      go_upto_region 10 with fail
      go_wp2_with (refine wpList_load_mid rfl 32 (.tmp 76) rfl wr.heap.size 1 rfl [.int .i64 s.p,.int .i64 s.m,.slice Am s.mod.length cm,.int .i64 s.n,.slice Ag s.gen.length cg] _ HRC.out Tryz.underlying32 rfl codeSize ?_)
      (with_reducible refine HDU.out.mono ?_)
      rintro e w4 ⟨⟨B',c',G,R,k',rfl,hi4,hr4,hl4⟩,hb4⟩
      have HX4:=Lib.hid (HX3.out.grow hb4)
      have hba:Below w4.heap.size w4 (w4.alloc (.cells #[.int .i64 s.p,.int .i64 s.m,.slice B' s.mod.length c',.int .i64 s.n,.slice G R.length k'] 32)):=(Below.refl _ _).alloc (Nat.le_refl _) _
      have HX5:=Lib.hid (HX4.out.grow hba)
      have HI5:=Lib.hid ((hi4.keep hba).more hba.size)
      have HR5:=Lib.hid ((hr4.keep hba).more hba.size)
      have HD5:=Lib.hid (heap_alloc_new w4 (.cells #[.int .i64 s.p,.int .i64 s.m,.slice B' s.mod.length c',.int .i64 s.n,.slice G R.length k'] 32))
      have HD6:Hid (w4.heap.size<(w4.alloc (.cells #[.int .i64 s.p,.int .i64 s.m,.slice B' s.mod.length c',.int .i64 s.n,.slice G R.length k'] 32)).heap.size):=by show _ < _;simp
      clear hb4 hi4 hr4 HDU HX3 HRC hba HX4 HB3
      go_upto_region 11 with (refine qaI rfl 32 (.tmp 5) (.tmp 79) rfl w4 _ #[.int .i64 s.p,.int .i64 s.m,.slice B' s.mod.length c',.int .i64 s.n,.slice G R.length k'] rfl rfl codeSize rfl (by simp [Value.oneCell']) ?_)
      generalize w4.alloc (.cells #[.int .i64 s.p,.int .i64 s.m,.slice B' s.mod.length c',.int .i64 s.n,.slice G R.length k'] 32)=w5 at *
      have HB5:=Lib.hid (HB.out.trans (HX5.out.2.1.mono HB.out.size))
      have y0:w5.cell? ⟨wr.heap.size,0,none⟩=some (.int .i64 s.rule):=HX5.out.cell rfl
      have y1:w5.cell? ⟨wr.heap.size,1,none⟩=some (.int .i64 s.p):=HX5.out.cell rfl
      have y2:w5.cell? ⟨wr.heap.size,2,none⟩=some (.int .i64 s.m):=HX5.out.cell rfl
      have y3:w5.cell? ⟨wr.heap.size,3,none⟩=some (.slice Am s.mod.length cm):=HX5.out.cell rfl
      have y4:w5.cell? ⟨wr.heap.size,4,none⟩=some (.int .i64 s.n):=HX5.out.cell rfl
      have y5:w5.cell? ⟨wr.heap.size,5,none⟩=some (.slice Ag s.gen.length cg):=HX5.out.cell rfl
      by_cases h15:s.rule=15
      . have r15 : (s.rule == 15) = true := beq_iff_eq.2 h15
        have r16:(s.rule==16)=false:=beq_false_of_ne (by omega)
        have HC5:=Lib.hid (HCN.out w5 HX5.out.2.1)
        clear h15 HCN
        by_cases hcn:cnV s.p s.m s.mod s.n s.gen 1024=0
        . rw [hcn] at HC5
          clear hcn
          go_wp2_with fail
          (with_reducible refine HC5.out.mono ?_)
          rintro e w6 ⟨rfl,hb6⟩
          have HX6:=Lib.hid (HX5.out.grow hb6)
          have HB6:=Lib.hid (HB.out.trans (HX6.out.2.1.mono HB.out.size))
          clear hb6 HC5 HX5 y0 y1 y2 y3 y4 y5
          have y0:w6.cell? ⟨wr.heap.size,0,none⟩=some (.int .i64 s.rule):=HX6.out.cell rfl
          go_wp2_with fail
          go_ret
          exact ⟨_,rfl,HB6.out,fun _=>HL12.out⟩
        . have hc0 : (cnV s.p s.m s.mod s.n s.gen 1024 == 0) = false := beq_false_of_ne hcn
          generalize cnV s.p s.m s.mod s.n s.gen 1024=cv at *
          clear hcn
          go_wp2_with fail
          (with_reducible refine HC5.out.mono ?_)
          rintro e w6 ⟨rfl,hb6⟩
          have HX6:=Lib.hid (HX5.out.grow hb6)
          have HB6:=Lib.hid (HB.out.trans (HX6.out.2.1.mono HB.out.size))
          clear hb6 HC5 HX5 y0 y1 y2 y3 y4 y5
          have y0:w6.cell? ⟨wr.heap.size,0,none⟩=some (.int .i64 s.rule):=HX6.out.cell rfl
          go_wp2_with fail
          go_roundw
          case rel=>exact ⟨k+1,by omega,by go_num,HB6.out⟩
          case measure=>simp [intOf];omega
      . have r15 : (s.rule == 15) = false := beq_false_of_ne h15
        clear h15 HCN
        by_cases h16:s.rule=16
        . have r16 : (s.rule == 16) = true := beq_iff_eq.2 h16
          have HC5:=Lib.hid (count_c s.p s.m s.mod B' c' s.n (nzs R) G k' 1024 w5 HI5.out s1 HR5.out (by rw [qbC];omega))
          rw [qbC] at HC5
          have d0:w5.cell? ⟨w4.heap.size,0,none⟩=some (.int .i64 s.p):=cell_of_row _ _ 0 _ _ _ HD5.out
          have d1:w5.cell? ⟨w4.heap.size,1,none⟩=some (.int .i64 s.m):=cell_of_row _ _ 1 _ _ _ HD5.out
          have d2:w5.cell? ⟨w4.heap.size,2,none⟩=some (.slice B' s.mod.length c'):=cell_of_row _ _ 2 _ _ _ HD5.out
          have d3:w5.cell? ⟨w4.heap.size,3,none⟩=some (.int .i64 s.n):=cell_of_row _ _ 3 _ _ _ HD5.out
          have d4:w5.cell? ⟨w4.heap.size,4,none⟩=some (.slice G R.length k'):=cell_of_row _ _ 4 _ _ _ HD5.out
          clear h16
          by_cases hcn:cnV s.p s.m s.mod s.n (nzs R) 1024=0
          . rw [hcn] at HC5
            clear hcn
            go_wp2_with fail
            (with_reducible refine HC5.out.mono ?_)
            rintro e w6 ⟨rfl,hb6⟩
            have HX6:=Lib.hid (HX5.out.grow hb6)
            have HB6:=Lib.hid (HB.out.trans (HX6.out.2.1.mono HB.out.size))
            clear hb6 HC5 HX5 y0 y1 y2 y3 y4 y5
            go_wp2_with fail
            go_ret
            exact ⟨_,rfl,HB6.out,fun _=>HL12.out⟩
          . have hc0 : (cnV s.p s.m s.mod s.n (nzs R) 1024 == 0) = false := beq_false_of_ne hcn
            generalize cnV s.p s.m s.mod s.n (nzs R) 1024=cv at *
            clear hcn
            go_wp2_with fail
            (with_reducible refine HC5.out.mono ?_)
            rintro e w6 ⟨rfl,hb6⟩
            have HX6:=Lib.hid (HX5.out.grow hb6)
            have HB6:=Lib.hid (HB.out.trans (HX6.out.2.1.mono HB.out.size))
            clear hb6 HC5 HX5 y0 y1 y2 y3 y4 y5
            go_wp2_with fail
            go_roundw
            case rel=>exact ⟨k+1,by omega,by go_num,HB6.out⟩
            case measure=>simp [intOf];omega
        . have r16 : (s.rule == 16) = false := beq_false_of_ne h16
          clear h16
          go_wp2_with fail
          go_roundw
          case rel=>exact ⟨k+1,by omega,by go_num,HB5.out⟩
          case measure=>simp [intOf];omega
    . have hz1 : (codeZ s.p s.m s.mod s.n s.gen != 0) = true := bne_iff_ne.2 hz
      generalize codeZ s.p s.m s.mod s.n s.gen=z at *
      go_wp2_with fail
      go_roundw
      case rel=>exact ⟨k+1,by omega,by go_num,HB3.out⟩
      case measure=>simp [intOf];omega
  . obtain rfl : k = ds.length := by omega
    go_wp2_with fail
    go_ret
    exact ⟨_,rfl,HB.out,fun _=>HL12.out⟩
end Go.Proofs.YtlmglaonldlanaaGreat
namespace Go.Proofs.YtlmglaonldlanaaGreat
open Go.RowKit Pln
def RelFl (w:World) (n:Nat) (v3 v4 v5:Value) (wr:World):Prop:=∃ (k:Nat) (b1 b2:Bool),k<=n/\v3=.bool b1/\v4=.bool b2/\v5=.int .i64 k/\Below w.heap.size w wr
def FlS (w:World) (b ok':Nat) (n:Int) (A:Option Addr) (l c:Nat) (W:World):Prop:=Below w.heap.size w W/\W.cell? ⟨b,ok'+4,none⟩=some (.int .i64 n)/\W.cell? ⟨b,ok'+5,none⟩=some (.slice A l c)
set_option maxHeartbeats 8000000 in
set_option maxRecDepth 100000 in
theorem few_c (ds:List StD) (A:Option Addr) (c:Nat) (w:World) (hA:StsAt w w.heap.size A ds) (hk:∀ d∈ds,d.ok) (hl:ds.length<=maxLen) :
 Calls Tryz.prog 6 #[.slice A ds.length c] w (FewPost w ds.length):=by
 have HA:=Lib.hid hA
 have HF:=Lib.hid (rfewD_c ds A c w hA hk)
 have eml:maxLen=9223372036854775807:=rfl
 rw [eml] at hl
 clear hA hk
 go_enter Tryz.func6,Tryz.ntmps6
 go_wp2_with fail
 (with_reducible refine HF.out.mono ?_)
 rintro e w1 ⟨b0,rfl,hb1,hl1⟩
 have HB1:=Lib.hid hb1
 have HL1:=Lib.hid hl1
 clear hb1 HF hl1
 cases b0
 . go_wp2_with fail
   go_ret
   exact ⟨_,rfl,HB1.out,fun h=>by cases h⟩
 go_wp2_with fail
 go_loopw [3,4,5] (fun v3 v4 v5 wr=>RelFl w ds.length v3 v4 v5 wr) (fun _ _ v5 _=>ds.length-(intOf v5).toNat)
 case atStart=>exact ⟨0,false,false,Nat.zero_le _,rfl,rfl,rfl,HB1.out⟩
 case round =>
  obtain ⟨k,b1,b2,hkl,rfl,rfl,rfl,hb⟩:=hrel
  have HB:=Lib.hid hb
  clear hb HB1
  by_cases hlt:k<ds.length
  . have k0 : (0 : Int) <= (k : Int) := by omega
    have k1:(k:Int)<(ds.length:Int):=by omega
    have hw1:IntKind.i64.wrap ((k:Int)+1)=(k:Int)+1:=IntWalk.i64_in _ (by omega)
    obtain ⟨b,o,csl,rfl,hbl,hrg,hst⟩:=(HA.out.keep HB.out).at_ hlt
    generalize ds[k]'hlt=s at *
    obtain ⟨Am,Ag,Af,Aa,Ab,Ap,Aq,Ar,As,At,cm,cg,cf,ca,cb,cp,cq,cr,cs',ct,rfl,_⟩:=hst
    have y0:wr.cell? ⟨b,o+k*23,none⟩=some (.int .i64 s.rule):=hrg 0 _ rfl
    have HS:Hid (FlS w b (o+k*23) s.n Ag s.gen.length cg wr.drew):=⟨HB.out.drew,hrg 4 _ rfl,hrg 5 _ rfl⟩
    clear hrg
    generalize s.gen.length=gl at *
    generalize s.n=sn at *
    obtain ⟨e,he⟩:∃ e,IntKind.i64.wrap (sn*(gl:Int))=e:=⟨_,rfl⟩
    cases b1
    all_goals (cases b2)
    all_goals go_upto_region 8 with fail
    all_goals (refine qaH (FlS w b (o+k*23) sn Ag gl cg) (by kernel_rfl) (by kernel_rfl) HS.out ?_)
    all_goals
     repeat (first
      | (apply qaM rfl
         . intro W hS
           go_simp
           try rfl
         go_simp)
      | (apply qcB rfl
         . intro W hS
           obtain ⟨_,z4,z5⟩:=hS
           go_simp
           try rfl
         go_simp)
      | (apply qcJ rfl;go_simp))
     refine qaJ ?_
     intro w2 hS
     have HS2:=Lib.hid hS.1
     clear hS
     go_wp2_with fail
     go_roundw
     case rel=>exact ⟨k+1,_,_,by omega,rfl,rfl,by go_num,HS2.out⟩
     case measure=>simp [intOf];omega
  . obtain rfl : k = ds.length := by omega
    cases b1 <;> cases b2
    all_goals
     go_wp2_with fail
     go_ret
     exact ⟨_,rfl,HB.out,fun _=>HL1.out (by first | trivial | rfl)⟩
end Go.Proofs.YtlmglaonldlanaaGreat
namespace Go.Proofs.YtlmglaonldlanaaGreat
open Go.RowKit Pln
end Go.Proofs.YtlmglaonldlanaaGreat
namespace Go.Proofs.YtlmglaonldlanaaGreat
open Go.RowKit Pln
def ThreeOk:Prop:=∀ W:World,Calls Tryz.prog 5 #[] W fun e w'=>e=.returned (.bool true)/\Below W.heap.size W w'
theorem form_code {d:StD} (h:formZ d=0):codeZ d.p d.m d.mod d.n d.gen=0:=by
 unfold formZ at h
 split at h
 . rename_i hz
   exact absurd h hz
 . rename_i hz
   exact Classical.byContradiction hz
def LocPost (w:World) (e:Ending) (w':World):Prop:=e=.returned (.bool true)/\Below w.heap.size w w'
end Go.Proofs.YtlmglaonldlanaaGreat
namespace Go.Proofs.YtlmglaonldlanaaGreat
open Go.RowKit Pln
def LeafLaw:Prop:=∀ (s:StD) (bl:List Int) (msg:List Nat),formZ s=0->LeafOk s bl->msg.length=(natR s.gen).length->(∀ x∈msg,x<s.p.toNat ^ s.m.toNat)->Dv.wt (cwO s.p.toNat s.m.toNat (mdOf s.m s.mod) s.n.toNat (natR s.gen) msg)=0\/s.low<=(Dv.wt (cwO s.p.toNat s.m.toNat (mdOf s.m s.mod) s.n.toNat (natR s.gen) msg):Int)
theorem rprem_leaf (r:Int) (h:LeafR r) (w:World):Calls Tryz.prog 9 #[.int .i64 r] w fun e w'=>e=.returned (.int .i64 0)/\w=w':=by
 rcases h with rfl | rfl | rfl | rfl
 all_goals
  go_enter Tryz.func9,Tryz.ntmps9
  go_wp2_with fail
  go_ret
  exact ⟨rfl,rfl⟩
def RelLr4 (w:World) (cs:List Value) (r:Int) (v10 v11:Value) (wr:World):Prop :=
 SB w w.heap.size cs wr/\∃ (j:Nat) (b:Bool),j<=4/\v11=.int .i64 j/\v10=.bool b/\(b=true->LeafR r)
def LrS4 (w:World) (cs:List Value) (br j:Nat) (W:World):Prop:=SB w w.heap.size cs W/\W.cell? ⟨br,j,none⟩=some (.int .i64 (j:Int))
set_option maxHeartbeats 8000000 in
set_option maxRecDepth 100000 in
theorem local_l (h3:ThreeOk) (hlaw:LeafLaw) (ds:List StD) (A:Option Addr) (c:Nat) (i:Int) (zs:List Int) (Az:Option Addr) (cz br cr:Nat) (w:World) (hA:StsE w w.heap.size A ds) (hk:∀ d∈ds,d.ok) (hl:ds.length<=maxLen)
 (hz:IntsAt w w.heap.size Az zs) (hzl:zs.length<=maxLen) (hbr:br<w.heap.size) (hr4:∀ j,j<4->w.cell? ⟨br,j,none⟩=some (.int .i64 (j:Int))) :
 Calls Tryz.prog 4 #[.slice A ds.length c,.int .i64 i,.slice Az zs.length cz,.slice (some ⟨br,0,none⟩) 4 cr] w (LocPost w):=by
 have HA:=Lib.hid hA
 have HK:=Lib.hid hk
 have HZ:=Lib.hid hz
 have HR14:=Lib.hid hr4
 have HLAW:=Lib.hid hlaw
 have eml:maxLen=9223372036854775807:=rfl
 rw [eml] at hl hzl
 have HLL:=Lib.hid hl
 have H3:=Lib.hid (h3 w)
 clear hA hk hz hr4 h3 hlaw
 go_enter Tryz.func4,Tryz.ntmps4
 go_wp2_with fail
 (with_reducible refine H3.out.mono ?_)
 rintro e w1 ⟨rfl,hb1⟩
 have HB1:=Lib.hid hb1
 clear hb1 H3
 have HF:=Lib.hid (few_c ds A c w1 ((HA.out.sts.keep HB1.out).more' HB1.out.size) HK.out hl)
 go_wp2_with fail
 (with_reducible refine HF.out.mono ?_)
 rintro e w2 ⟨b0,rfl,hb2,hl12⟩
 have HB2:=Lib.hid (HB1.out.trans (hb2.mono HB1.out.size))
 clear hb2 HF HB1
 clear w1
 cases b0
 . go_wp2_with fail
   go_ret
   exact ⟨rfl,HB2.out⟩
 replace hl12:=hl12 rfl
 by_cases i0:i<0
 . go_wp2_with fail
   go_ret
   exact ⟨rfl,HB2.out⟩
 by_cases i1:(ds.length:Int)<=i
 . go_wp2_with fail
   go_ret
   exact ⟨rfl,HB2.out⟩
 obtain ⟨k,rfl⟩:∃ k:Nat,i=k:=⟨i.toNat,by omega⟩
 have hlt:k<ds.length:=by omega
 have k0:(0:Int)<=(k:Int):=by omega
 have k1:(k:Int)<(ds.length:Int):=by omega
 obtain ⟨b,o,csl,bl0,pl0,ml0,rfl,hbl,hrg,hst,hse0⟩:=(HA.out.keep HB2.out).at_ hlt
 clear hse0
 have hso:(ds[k]'hlt).ok:=HK.out _ (List.getElem_mem hlt)
 have hsi:ds[k]?=some (ds[k]'hlt):=List.getElem?_eq_getElem hlt
 have HCS:Hid (LeafR (ds[k]'hlt).rule->∀ W:World,Below w.heap.size w W->Calls Tryz.prog 7 #[.slice (some ⟨b,o,none⟩) ds.length c,.int .i64 k] W (LfPost W ds k)):=fun hr W hW =>
  checkstep_l ds _ c k W ((HA.out.keep hW).more hW.size) HK.out (by omega) hlt hr
 generalize ds[k]'hlt=s at *
 obtain ⟨Am,Ag,Af,Aa,Ab,Ap,Aq,Ar,As,At,cm,cg,cf,ca,cb,cp,cq,cr,cs',ct,rfl,hcg,h1,h2,h3,h4,h5⟩:=hst
 have HM:=Lib.hid (h1.more HB2.out.size)
 have HG:=Lib.hid (h2.more HB2.out.size)
 have HFR:=Lib.hid (h3.more HB2.out.size)
 have HRB:=Lib.hid hrg
 obtain ⟨s1,s2,_⟩:=hso
 rw [eml] at s1 s2
 have HSI:=Lib.hid hsi
 have HX:=Lib.hid (qdZ w2 (stCells s Am Ag Af Aa Ab Ap Aq Ar As At cm cg cf ca cb cp cq cr cs' ct))
 have HONE:Hid ((stCells s Am Ag Af Aa Ab Ap Aq Ar As At cm cg cf ca cb cp cq cr cs' ct).toArray.all (·.oneCell')=true):=by show _=_;simp [stCells,Value.oneCell']
 clear hcg h1 h2 h3 h4 h5 hrg hsi
 go_upto_region 6 with (first
  | (refine wpList_load_mid rfl 40 (.tmp 31) rfl b (o+k*23) rfl (stCells s Am Ag Af Aa Ab Ap Aq Ar As At cm cg cf ca cb cp cq cr cs' ct) _ HRB.out Tryz.underlying40 rfl stepSize ?_)
  | (refine qaI rfl 40 (.tmp 9) (.tmp 32) rfl w2 _ (stCells s Am Ag Af Aa Ab Ap Aq Ar As At cm cg cf ca cb cp cq cr cs' ct).toArray rfl rfl stepSize rfl HONE.out ?_))
 generalize w2.alloc (.cells (stCells s Am Ag Af Aa Ab Ap Aq Ar As At cm cg cf ca cb cp cq cr cs' ct).toArray 40)=W0 at *
 clear HRB HONE
 have HS0:Hid (RelLr4 w2 (stCells s Am Ag Af Aa Ab Ap Aq Ar As At cm cg cf ca cb cp cq cr cs' ct) s.rule (.bool false) (.int .i64 ((0:Nat):Int)) W0):=⟨HX.out,0,false,by omega,rfl,rfl,fun h=>by cases h⟩
 clear HX
 go_wp2_with fail
 go_loopw [10,11] (fun v10 v11 wr=>RelLr4 w2 (stCells s Am Ag Af Aa Ab Ap Aq Ar As At cm cg cf ca cb cp cq cr cs' ct) s.rule v10 v11 wr) (fun _ v11 _=>4-(intOf v11).toNat)
 case atStart=>exact HS0.out
 case round =>
  obtain ⟨hx,j4,b4,hj4,rfl,rfl,hb4⟩:=hrel
  have HX:=Lib.hid hx
  have HB44:=Lib.hid hb4
  clear hx HS0 hb4
  clear W0
  by_cases hlt4:j4<4
  . have HS : Hid (LrS4 w2 (stCells s Am Ag Af Aa Ab Ap Aq Ar As At cm cg cf ca cb cp cq cr cs' ct) br j4 wr.drew) := ⟨HX.out.grow (Below.refl _ _).drew,(HX.out.2.1.cell (p := ⟨br,j4,none⟩) (Nat.lt_of_lt_of_le hbr HB2.out.size)).trans ((HB2.out.cell (p := ⟨br,j4,none⟩) hbr).trans (HR14.out j4 hlt4))⟩
    have q0:(0:Int)<=(j4:Int):=by omega
    have q1:(j4:Int)<4:=by omega
    have q2:IntKind.i64.wrap ((j4:Int)+1)=(j4:Int)+1:=IntWalk.i64_in _ (by omega)
    cases b4
    . by_cases hre : s.rule = (j4 : Int)
      . have hrb : (s.rule == (j4 : Int)) = true := beq_iff_eq.2 hre
        have HLR:Hid (LeafR s.rule):=by
         show s.rule=0\/s.rule=1\/s.rule=2\/s.rule=3
         omega
        clear hre
        go_upto_region 10 with fail
        refine qaH (LrS4 w2 (stCells s Am Ag Af Aa Ab Ap Aq Ar As At cm cg cf ca cb cp cq cr cs' ct) br j4) (by kernel_rfl) (by kernel_rfl) HS.out ?_
        repeat (first
         | (apply qaM rfl
            . intro W hS
              go_simp
              try rfl
            go_simp)
         | (apply qcB rfl
            . intro W hS
              have z4:=hS.2
              have y0:W.cell? ⟨w2.heap.size,0,none⟩=some (.int .i64 s.rule):=hS.1.cell rfl
              go_simp
              try rfl
            go_simp)
         | (apply qcJ rfl;go_simp))
        refine qaJ ?_
        intro w3 hS
        have HX3:=Lib.hid hS.1
        clear hS HS
        go_wp2_with fail
        go_roundw
        case rel=>exact ⟨HX3.out,j4+1,true,by omega,by go_num,rfl,fun _=>HLR.out⟩
        case measure=>simp [intOf];omega
      . have hrb : (s.rule == (j4 : Int)) = false := beq_false_of_ne hre
        clear hre
        go_upto_region 10 with fail
        refine qaH (LrS4 w2 (stCells s Am Ag Af Aa Ab Ap Aq Ar As At cm cg cf ca cb cp cq cr cs' ct) br j4) (by kernel_rfl) (by kernel_rfl) HS.out ?_
        repeat (first
         | (apply qaM rfl
            . intro W hS
              go_simp
              try rfl
            go_simp)
         | (apply qcB rfl
            . intro W hS
              have z4:=hS.2
              have y0:W.cell? ⟨w2.heap.size,0,none⟩=some (.int .i64 s.rule):=hS.1.cell rfl
              go_simp
              try rfl
            go_simp)
         | (apply qcJ rfl;go_simp))
        refine qaJ ?_
        intro w3 hS
        have HX3:=Lib.hid hS.1
        clear hS HS
        go_wp2_with fail
        go_roundw
        case rel=>exact ⟨HX3.out,j4+1,false,by omega,by go_num,rfl,fun h=>by cases h⟩
        case measure=>simp [intOf];omega
    . have HLR : Hid (LeafR s.rule) := by first | exact HB44.out rfl | exact HB44.out trivial | exact HB44.out
      go_upto_region 10 with fail
      refine qaH (LrS4 w2 (stCells s Am Ag Af Aa Ab Ap Aq Ar As At cm cg cf ca cb cp cq cr cs' ct) br j4) (by kernel_rfl) (by kernel_rfl) HS.out ?_
      repeat (first
       | (apply qaM rfl
          . intro W hS
            go_simp
            try rfl
          go_simp)
       | (apply qcB rfl
          . intro W hS
            have z4:=hS.2
            have y0:W.cell? ⟨w2.heap.size,0,none⟩=some (.int .i64 s.rule):=hS.1.cell rfl
            go_simp
            try rfl
          go_simp)
       | (apply qcJ rfl;go_simp))
      refine qaJ ?_
      intro w3 hS
      have HX3:=Lib.hid hS.1
      clear hS HS
      go_wp2_with fail
      go_roundw
      case rel=>exact ⟨HX3.out,j4+1,true,by omega,by go_num,rfl,fun _=>HLR.out⟩
      case measure=>simp [intOf];omega
  . have HB3 := Lib.hid (HB2.out.trans (HX.out.2.1.mono HB2.out.size))
    have q3:¬ (j4:Int)<4:=by omega
    cases b4
    rotate_left
    . have HLR : Hid (LeafR s.rule) := by first | exact HB44.out rfl | exact HB44.out trivial | exact HB44.out
      have HC1:=Lib.hid (HCS.out HLR.out wr HB3.out)
      clear HCS
      go_wp2_with fail
      refine HC1.out.mono ?_
      rintro e w4 ⟨z,rfl,hb4,hok⟩
      have HX4:=Lib.hid (HX.out.grow hb4)
      clear hb4 HC1 HX HB3
      clear wr
      have HB4:=Lib.hid (HB2.out.trans (HX4.out.2.1.mono HB2.out.size))
      by_cases hz0:z=0
      . subst hz0
        obtain ⟨s',bl,hs',hfl,fs,hleaf⟩:=hok rfl
        rw [HSI.out] at hs'
        obtain rfl:s=s':=by injection hs'
        have hcz:=form_code fs
        have HCK:Hid (∀ W:World,Below w2.heap.size w2 W->Calls Tryz.prog 8 #[.agg #[.int .i64 s.p,.int .i64 s.m,.slice Am s.mod.length cm,.int .i64 s.n,.slice Ag s.gen.length cg]] W fun e w'=>e=.returned (.int .i64 0)/\Below W.heap.size W w'):=fun W hW=>by
         have:=qdO s.p s.m s.mod Am cm s.n s.gen Ag cg W ((HM.out.keep hW).more hW.size) s1 ((HG.out.keep hW).more hW.size) s2
         rw [hcz] at this
         exact this
        have HOF:Hid (∀ W:World,Below w2.heap.size w2 W->∀ hZ:IntsAt W W.heap.size Az zs,Calls Tryz.prog 12 #[.agg #[.int .i64 s.p,.int .i64 s.m,.slice Am s.mod.length cm,.int .i64 s.n,.slice Ag s.gen.length cg],.slice Az zs.length cz] W fun e w'=>(∃ (g:Nat) (msg:List Nat),e=.returned (.slice (some ⟨g,0,none⟩) s.n.toNat s.n.toNat)/\msg.length=(natR s.gen).length/\(∀ x∈msg,x<s.p.toNat ^ s.m.toNat)/\Row w' W.heap.size g s.n.toNat (nz (cwO s.p.toNat s.m.toNat (mdOf s.m s.mod) s.n.toNat (natR s.gen) msg))/\(cwO s.p.toNat s.m.toNat (mdOf s.m s.mod) s.n.toNat (natR s.gen) msg).length=s.n.toNat)/\Below W.heap.size W w'):=fun W hW hZ=>by
         obtain ⟨hrc,e1,e2,e3,e4⟩:=code_nat hcz ((HM.out.keep hW).more hW.size) ((HG.out.keep hW).more hW.size)
         have:=rof_c hrc cm cg zs Az cz hZ hzl
         rw [e1,e2,e3,e4] at this
         rw [e4]
         exact this
        have hn64:=(code_form hcz).2.2.1
        have HFS:=Lib.hid fs
        have HLF:=Lib.hid hleaf
        clear hok hs' fs hleaf hcz
        go_upto_region 13 with fail
        refine qaH (SB w2 w2.heap.size (stCells s Am Ag Af Aa Ab Ap Aq Ar As At cm cg cf ca cb cp cq cr cs' ct)) (by kernel_rfl) (by kernel_rfl) (HX4.out.grow (Below.refl _ _).drew) ?_
        repeat (first
         | (refine qbG rfl 32 (.tmp 57) rfl w2.heap.size 1 rfl [.int .i64 s.p,.int .i64 s.m,.slice Am s.mod.length cm,.int .i64 s.n,.slice Ag s.gen.length cg] _ (fun W hS => hS.code) Tryz.underlying32 rfl codeSize ?_
            go_simp)
         | (apply qaM rfl
            . intro W hS
              go_simp
              try rfl
            go_simp)
         | (apply qcB rfl
            . intro W hS
              have y0:W.cell? ⟨w2.heap.size,0,none⟩=some (.int .i64 s.rule):=hS.cell rfl
              have y7:W.cell? ⟨w2.heap.size,7,none⟩=some (.slice Af 0 cf):=by rw [<- hfl];exact hS.cell rfl
              go_simp
              try rfl
            go_simp)
         | (apply qaV rfl
            . intro W hS
              go_simp
              exact ⟨rfl,rfl⟩
            . intro W hS
              exact (HCK.out W hS.2.1).mono (by rintro e w' ⟨rfl,hb⟩;exact ⟨rfl,hS.grow hb⟩)
            go_simp)
         | (apply keep_gcall rfl
            . intro W hS
              go_simp
              exact ⟨rfl,rfl⟩
            . intro W hS
              exact (rprem_leaf s.rule HLR.out W).mono (by rintro e w' ⟨rfl,rfl⟩;exact ⟨rfl,hS⟩)
            go_simp)
         | (apply qcJ rfl;go_simp))
        refine qaJ ?_
        intro w5 hS
        have HX5:=Lib.hid hS
        clear hS HX4 HB4 HCK
        clear w4
        have HB3:=Lib.hid (HB2.out.trans (HX5.out.2.1.mono HB2.out.size))
        have y7:w5.cell? ⟨w2.heap.size,7,none⟩=some (.slice Af 0 cf):=by rw [<- hfl];exact HX5.out.cell rfl
        go_wp2_with fail
        go_loopw [12] (fun v12 wr=>v12=.int .i64 0/\wr=w5) (fun _ _=>0)
        case atStart=>exact ⟨rfl,rfl⟩
        case round =>
         obtain ⟨rfl,rfl⟩:=hrel
         have HX:=Lib.hid HX5.out
         clear HX5
         . skip
           have HRC:Hid (wr.rangeAt w2.heap.size 1 [.int .i64 s.p,.int .i64 s.m,.slice Am s.mod.length cm,.int .i64 s.n,.slice Ag s.gen.length cg]):=HX.out.code
           have HO1:=Lib.hid (HOF.out wr HX.out.2.1 ((HZ.out.keep HB3.out).more HB3.out.size))
           go_wp2_with (refine wpList_load_mid rfl 32 (.tmp 102) rfl w2.heap.size 1 rfl [.int .i64 s.p,.int .i64 s.m,.slice Am s.mod.length cm,.int .i64 s.n,.slice Ag s.gen.length cg] _ HRC.out Tryz.underlying32 rfl codeSize ?_)
           refine HO1.out.mono ?_
           rintro e w6 ⟨⟨g,msg,rfl,hml,hmq,hrow,hcl⟩,hb6⟩
           have HX6:=Lib.hid (HX.out.grow hb6)
           have HFIN:=Lib.hid (HLAW.out s bl msg HFS.out HLF.out hml hmq)
           have hwl:Dv.wt (cwO s.p.toNat s.m.toNat (mdOf s.m s.mod) s.n.toNat (natR s.gen) msg)<=s.n.toNat:=by
            have:=rwt_le (cwO s.p.toNat s.m.toNat (mdOf s.m s.mod) s.n.toNat (natR s.gen) msg)
            rw [hcl] at this
            exact this
           have HW6:=Lib.hid (weight_c (cwO s.p.toNat s.m.toNat (mdOf s.m s.mod) s.n.toNat (natR s.gen) msg) (some ⟨g,0,none⟩) s.n.toNat w6 (row_ints hrow) (by omega))
           rw [hcl] at HW6
           clear hb6 hml hmq hrow hcl HO1 HRC HX y7 HOF
           generalize Dv.wt (cwO s.p.toNat s.m.toNat (mdOf s.m s.mod) s.n.toNat (natR s.gen) msg)=wt at *
           go_wp2_with fail
           refine HW6.out.mono ?_
           rintro e w7 ⟨rfl,rfl⟩
           clear HW6
           have y6:w6.cell? ⟨w2.heap.size,6,none⟩=some (.int .i64 s.low):=HX6.out.cell rfl
           by_cases hw0:wt=0
           . subst hw0
             go_wp2_with fail
             go_ret
             exact ⟨rfl,HB2.out.trans (HX6.out.2.1.mono HB2.out.size)⟩
           . have hwi : ((wt : Int) == 0) = false := beq_false_of_ne (by omega)
             have hlw:s.low<=(wt:Int):=HFIN.out.elim (fun h=>absurd h hw0) id
             go_wp2_with fail
             go_ret
             exact ⟨by simp,HB2.out.trans (HX6.out.2.1.mono HB2.out.size)⟩
      . have hz1 : (z != 0) = true := bne_iff_ne.2 hz0
        clear hok
        go_wp2_with fail
        go_ret
        exact ⟨rfl,HB4.out⟩
    . clear HCS
      go_wp2_with fail
      go_ret
      exact ⟨rfl,HB3.out⟩
end Go.Proofs.YtlmglaonldlanaaGreat
