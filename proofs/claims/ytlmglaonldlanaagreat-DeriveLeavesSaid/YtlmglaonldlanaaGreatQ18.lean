/-
 field.Same at any two fields, derive.same at any two codes. derive.one at the rule of divisible codes. derive.premises at three rules; derive.follows at one premise. derive.CheckStep at a step by the rule of divisible codes. derive.CheckStep at a step without premises about the code of 000 and 111. slices.Index, slices.Contains; modify.set of one position, modify.rest. A matrix whose rows are appended one by one; matrix.Columns where nothing is wrong. matrix.Transpose of a matrix of one column. matrix.vec; matrix.Mul where nothing is wrong. matrix.open of two matrices, matrix.Mul, where nothing is wrong. matrix.Mul where nothing is wrong.
-/
import Derived.Deep.RegionHeld3
import Derived.Maps.AppendAt
import Derived.Deep.DeepCutAuto
import Derived.Deep.RegionLaw
import Derived.Test.YtlmglaonldlanaaGreatQ17
import Derived.Test.YtlmglaonldlanaaGreatQ13
import Derived.Test.YtlmglaonldlanaaGreatQ16
import Derived.Test.YtlmglaonldlanaaGreatQ15
import Derived.Test.YtlmglaonldlanaaGreatQ01
namespace Go.Proofs.YtlmglaonldlanaaGreat
open Go.RowKit Pln
def TB (w:World) (cs ds:List Value) (t:TypeId) (W:World):Prop:=W.heap[w.heap.size]?=some (.cells cs.toArray t (0,0))/\W.heap[w.heap.size+1]?=some (.cells ds.toArray t (0,0))/\Below w.heap.size w W/\w.heap.size+1<W.heap.size
section
variable {w:World} {cs ds:List Value} {t:TypeId} {W W':World}
theorem TB.grow (h:TB w cs ds t W) (hb:Below W.heap.size W W'):TB w cs ds t W':=by
 obtain ⟨h1,h2,h3,h4⟩:=h
 exact ⟨(hb.block _ (by omega)).trans h1,(hb.block _ (by omega)).trans h2,h3.trans (hb.mono (by omega)),Nat.lt_of_lt_of_le h4 hb.size⟩
theorem TB.below (h:TB w cs ds t W):Below w.heap.size w W:=h.2.2.1
theorem TB.cell (h:TB w cs ds t W) {k:Nat} {v:Value} (hv:cs[k]?=some v):W.cell? ⟨w.heap.size,k,none⟩=some v:=by
 rw [cell_of_row W w.heap.size k _ _ _ h.1]
 simpa using hv
theorem TB.cell1 (h:TB w cs ds t W) {k:Nat} {v:Value} (hv:ds[k]?=some v):W.cell? ⟨w.heap.size+1,k,none⟩=some v:=by
 rw [cell_of_row W (w.heap.size+1) k _ _ _ h.2.1]
 simpa using hv
theorem TB.sub (h:TB w cs ds t W) (o:Nat) (es:List Value) (hd:∀ j,j<es.length->cs[o+j]?=es[j]?):W.rangeAt w.heap.size o es:=fun j v hv=>by
 have hj:j<es.length:=(List.getElem?_eq_some_iff.1 hv).1
 have h1:=hd j hj
 rw [hv] at h1
 have:=qaC h.1 (o+j) v h1
 rw [Nat.zero_add] at this
 exact this
theorem TB.sub1 (h:TB w cs ds t W) (o:Nat) (es:List Value) (hd:∀ j,j<es.length->ds[o+j]?=es[j]?):W.rangeAt (w.heap.size+1) o es:=fun j v hv=>by
 have hj:j<es.length:=(List.getElem?_eq_some_iff.1 hv).1
 have h1:=hd j hj
 rw [hv] at h1
 have:=qaC h.2.1 (o+j) v h1
 rw [Nat.zero_add] at this
 exact this
end
theorem tb_new (w:World) (cs ds:List Value) (t:TypeId):TB w cs ds t ((w.alloc (.cells cs.toArray t)).alloc (.cells ds.toArray t)):=by
 refine ⟨(Below.heap_alloc _ _ _ (by simp)).trans (heap_alloc_new _ _),?_,(((Below.refl _ _).alloc (Nat.le_refl _) _).alloc (by simp) _),by simp⟩
 have:=heap_alloc_new (w.alloc (.cells cs.toArray t)) (.cells ds.toArray t)
 rw [show (w.alloc (.cells cs.toArray t)).heap.size=w.heap.size+1 by simp] at this
 exact this
def RelPS (w:World) (cs ds:List Value) (t:TypeId) (mod mod':List Int) (v:Value) (wr:World):Prop:=∃ k:Nat,k<=mod.length/\v=.int .i64 k/\TB w cs ds t wr/\mod.take k=mod'.take k
theorem take_ext {l l':List Int} {k:Nat} (h:l.take k=l'.take k) (h1:k<l.length) (h2:k<l'.length) (e:l.getD k 0=l'.getD k 0):l.take (k+1)=l'.take (k+1):=by
 rw [List.take_add_one,List.take_add_one,h,List.getElem?_eq_getElem h1,List.getElem?_eq_getElem h2]
 have e1:l.getD k 0=l[k]:=by simp [List.getD,h1]
 have e2:l'.getD k 0=l'[k]:=by simp [List.getD,h2]
 rw [e1,e2] at e
 rw [e]
set_option maxHeartbeats 1000000 in
set_option maxRecDepth 100000 in
theorem psame_c (p m p' m':Int) (mod mod':List Int) (A A':Option Addr) (c c':Nat) (w:World) (hA:IntsAt w w.heap.size A mod) (hA':IntsAt w w.heap.size A' mod') (hl:mod.length<=9223372036854775807) :
 Calls Tryz.prog 81 #[.agg #[.int .i64 p,.int .i64 m,.slice A mod.length c],.agg #[.int .i64 p',.int .i64 m',.slice A' mod'.length c']] w fun e w'=>e=.returned (.bool (decide (p=p'/\m=m'/\mod=mod')))/\Below w.heap.size w w':=by
 have HX:=Lib.hid (tb_new w [.int .i64 p,.int .i64 m,.slice A mod.length c] [.int .i64 p',.int .i64 m',.slice A' mod'.length c'] 29)
 have HA:=Lib.hid hA
 have HA':=Lib.hid hA'
 have HD:=Lib.hid (rfl:decide (p=p'/\m=m'/\mod=mod')=decide (p=p'/\m=m'/\mod=mod'))
 clear hA hA'
 generalize hdd:decide (p=p'/\m=m'/\mod=mod')=dd at *
 have HDD:=Lib.hid hdd
 clear hdd HD
 go_enter Tryz.func81,Tryz.ntmps81
 go_upto_region 1 with fail
 generalize (w.alloc (.cells #[.int .i64 p,.int .i64 m,.slice A mod.length c] 29)).alloc (.cells #[.int .i64 p',.int .i64 m',.slice A' mod'.length c'] 29)=W0 at *
 have a0:W0.cell? ⟨w.heap.size,0,none⟩=some (.int .i64 p):=HX.out.cell rfl
 have a1:W0.cell? ⟨w.heap.size,1,none⟩=some (.int .i64 m):=HX.out.cell rfl
 have a2:W0.cell? ⟨w.heap.size,2,none⟩=some (.slice A mod.length c):=HX.out.cell rfl
 have d0:W0.cell? ⟨w.heap.size+1,0,none⟩=some (.int .i64 p'):=HX.out.cell1 rfl
 have d1:W0.cell? ⟨w.heap.size+1,1,none⟩=some (.int .i64 m'):=HX.out.cell1 rfl
 have d2:W0.cell? ⟨w.heap.size+1,2,none⟩=some (.slice A' mod'.length c'):=HX.out.cell1 rfl
 by_cases hp:p=p'
 . have ep : (p != p') = false := bne_eq_false_iff_eq.2 hp
   by_cases hm:m=m'
   . have em : (m != m') = false := bne_eq_false_iff_eq.2 hm
     by_cases hlen:mod.length=mod'.length
     . have el : ((mod.length : Int) != (mod'.length : Int)) = false := by simp [hlen]
       have HP:=Lib.hid hp
       have HM:=Lib.hid hm
       have HLEN:=Lib.hid hlen
       clear hp hm hlen
       go_upto_region 4 with fail
       go_loopw [31] (fun v31 wr=>RelPS w [.int .i64 p,.int .i64 m,.slice A mod.length c] [.int .i64 p',.int .i64 m',.slice A' mod'.length c'] 29 mod mod' v31 wr) (fun v31 _=>mod.length-(intOf v31).toNat)
       case atStart=>exact ⟨0,by omega,rfl,HX.out,rfl⟩
       case round =>
        clear a0 a1 a2 d0 d1 d2 HX ep em el
        obtain ⟨k,hk,rfl,hx,htk⟩:=hrel
        have HX:=Lib.hid hx
        have HTK:=Lib.hid htk
        clear hx htk
        by_cases hlt:k<mod.length
        . have d2 : wr.cell? ⟨w.heap.size + 1,2,none⟩ = some (.slice A' mod'.length c') := HX.out.cell1 rfl
          obtain ⟨b,o,rfl,hb,hc⟩:=(HA.out.keep HX.out.below).at_ hlt
          have hlt':k<mod'.length:=by have:=HLEN.out;omega
          obtain ⟨b',o',rfl,hb',hc'⟩:=(HA'.out.keep HX.out.below).at_ hlt'
          have HNX:=Lib.hid (take_ext HTK.out hlt hlt')
          have HNO:Hid (mod.getD k 0≠mod'.getD k 0->mod≠mod'):=fun h e=>h (by rw [e])
          generalize mod.getD k 0=z at *
          generalize mod'.getD k 0=z' at *
          have k0:(0:Int)<=(k:Int):=by omega
          have k1:(k:Int)<(mod.length:Int):=by omega
          have k2:(k:Int)<(mod'.length:Int):=by omega
          by_cases hz:z=z'
          . have hzb : (z' != z) = false := bne_eq_false_iff_eq.2 hz.symm
            have HT:=Lib.hid (HNX.out hz)
            clear hz
            go_wp2_with fail
            go_roundw
            case rel=>exact ⟨k+1,by omega,by go_num,HX.out,HT.out⟩
            case measure=>simp [intOf];omega
          . have hzb : (z' != z) = true := bne_iff_ne.2 (Ne.symm hz)
            have HE:Hid (dd=false):=by show _=_;rw [<- HDD.out];exact decide_eq_false fun h=>HNO.out hz h.2.2
            clear hz
            go_wp2_with fail
            go_ret
            rw [HE.out]
            exact ⟨rfl,HX.out.below⟩
        . obtain rfl : k = mod.length := by omega
          have HE:Hid (dd=true):=by
           show _=_
           rw [<- HDD.out]
           refine decide_eq_true ⟨HP.out,HM.out,?_⟩
           have:=HTK.out
           rw [List.take_length,List.take_of_length_le (by have:=HLEN.out;omega)] at this
           exact this
          go_wp2_with fail
          go_ret
          rw [HE.out]
          exact ⟨rfl,HX.out.below⟩
     . have el : ((mod.length : Int) != (mod'.length : Int)) = true := by simpa using (fun h => hlen (by omega))
       have HE:Hid (dd=false):=by show _=_;rw [<- HDD.out];exact decide_eq_false fun h=>hlen (by rw [h.2.2])
       clear hp hm hlen
       go_wp2_with fail
       go_ret
       rw [HE.out]
       exact ⟨rfl,HX.out.below⟩
   . have em : (m != m') = true := bne_iff_ne.2 hm
     have HE:Hid (dd=false):=by show _=_;rw [<- HDD.out];exact decide_eq_false fun h=>hm h.2.1
     clear hp hm
     go_wp2_with fail
     go_ret
     rw [HE.out]
     exact ⟨rfl,HX.out.below⟩
 . have ep : (p != p') = true := bne_iff_ne.2 hp
   have HE:Hid (dd=false):=by show _=_;rw [<- HDD.out];exact decide_eq_false fun h=>hp h.1
   clear hp
   go_wp2_with fail
   go_ret
   rw [HE.out]
   exact ⟨rfl,HX.out.below⟩
set_option maxHeartbeats 1000000 in
set_option maxRecDepth 100000 in
theorem dsame_c (p m p' m':Int) (mod mod':List Int) (A A':Option Addr) (c c':Nat) (N N':Int) (zs ys:List (List Int)) (G G':Option Addr) (g g':Nat) (w:World) (hA:IntsAt w w.heap.size A mod) (hA':IntsAt w w.heap.size A' mod') (hl:mod.length<=9223372036854775807)
 (hG:RowsAt w w.heap.size G zs) (hG':RowsAt w w.heap.size G' ys) (hlz:zs.length<=9223372036854775807) (hr:∀ k,k<zs.length->(zs.getD k []).length<=9223372036854775807) :
 Calls Tryz.prog 32 #[.agg #[.int .i64 p,.int .i64 m,.slice A mod.length c,.int .i64 N,.slice G zs.length g],.agg #[.int .i64 p',.int .i64 m',.slice A' mod'.length c',.int .i64 N',.slice G' ys.length g']] w fun e w'=>∃ b,e=.returned (.bool b)/\Below w.heap.size w w'/\(b=true->p=p'/\m=m'/\mod=mod'/\N=N'/\zs=ys):=by
 have HX:=Lib.hid (tb_new w [.int .i64 p,.int .i64 m,.slice A mod.length c,.int .i64 N,.slice G zs.length g] [.int .i64 p',.int .i64 m',.slice A' mod'.length c',.int .i64 N',.slice G' ys.length g'] 32)
 have HA:=Lib.hid hA
 have HA':=Lib.hid hA'
 have HG:=Lib.hid hG
 have HG':=Lib.hid hG'
 have HR:=Lib.hid hr
 clear hA hA' hG hG' hr
 go_enter Tryz.func32,Tryz.ntmps32
 go_upto_region 1 with fail
 generalize (w.alloc (.cells #[.int .i64 p,.int .i64 m,.slice A mod.length c,.int .i64 N,.slice G zs.length g] 32)).alloc (.cells #[.int .i64 p',.int .i64 m',.slice A' mod'.length c',.int .i64 N',.slice G' ys.length g'] 32)=W0 at *
 have HF1:Hid (W0.rangeAt w.heap.size 0 [.int .i64 p,.int .i64 m,.slice A mod.length c]):=HX.out.sub 0 _ (fun j hj=>by rcases j with _ | _ | _ | j <;> first | rfl | (simp at hj;omega))
 have HF2:Hid (W0.rangeAt (w.heap.size+1) 0 [.int .i64 p',.int .i64 m',.slice A' mod'.length c']):=HX.out.sub1 0 _ (fun j hj=>by rcases j with _ | _ | _ | j <;> first | rfl | (simp at hj;omega))
 have HC:=Lib.hid (psame_c p m p' m' mod mod' A A' c c' W0 ((HA.out.keep HX.out.below).more HX.out.below.size) ((HA'.out.keep HX.out.below).more HX.out.below.size) hl)
 have HDD:Hid (decide (p=p'/\m=m'/\mod=mod')=true->p=p'/\m=m'/\mod=mod'):=fun h=>of_decide_eq_true h
 generalize decide (p=p'/\m=m'/\mod=mod')=d1 at *
 go_wp2_with (first
  | (refine wpList_load_mid rfl 29 (.tmp 5) rfl w.heap.size 0 rfl [.int .i64 p,.int .i64 m,.slice A mod.length c] _ HF1.out Tryz.underlying29 rfl fieldSize ?_)
  | (refine wpList_load_mid rfl 29 (.tmp 7) rfl (w.heap.size+1) 0 rfl [.int .i64 p',.int .i64 m',.slice A' mod'.length c'] _ HF2.out Tryz.underlying29 rfl fieldSize ?_))
 refine HC.out.mono ?_
 rintro e w1 ⟨rfl,hb1⟩
 have HX1:=Lib.hid (HX.out.grow hb1)
 clear hb1 HC HX HF1 HF2
 have a3:w1.cell? ⟨w.heap.size,3,none⟩=some (.int .i64 N):=HX1.out.cell rfl
 have a4:w1.cell? ⟨w.heap.size,4,none⟩=some (.slice G zs.length g):=HX1.out.cell rfl
 have d3:w1.cell? ⟨w.heap.size+1,3,none⟩=some (.int .i64 N'):=HX1.out.cell1 rfl
 have d4:w1.cell? ⟨w.heap.size+1,4,none⟩=some (.slice G' ys.length g'):=HX1.out.cell1 rfl
 cases d1
 . go_wp2_with fail
   go_ret
   exact ⟨_,rfl,HX1.out.below,fun h=>by cases h⟩
 . by_cases hN : N = N'
   . have eN : (N == N') = true := beq_iff_eq.2 hN
     have HC2:=Lib.hid (sequalf_c zs ys G G' g g' w1 ((HG.out.keep HX1.out.below).more HX1.out.below.size) ((HG'.out.keep HX1.out.below).more HX1.out.below.size) hlz HR.out)
     have HD2:Hid (decide (zs=ys)=true->zs=ys):=fun h=>of_decide_eq_true h
     have HN:=Lib.hid hN
     clear hN
     generalize decide (zs=ys)=d2 at *
     go_wp2_with fail
     refine HC2.out.mono ?_
     rintro e w2 ⟨rfl,nq,rfl⟩
     have HB2:=Lib.hid (HX1.out.below.trans ((qaA (Below.refl w1.heap.size w1) nq).mono HX1.out.below.size))
     clear HC2 a3 a4 d3 d4
     go_wp2_with fail
     go_ret
     exact ⟨_,rfl,HB2.out,fun h=>⟨(HDD.out (by simp)).1,(HDD.out (by simp)).2.1,(HDD.out (by simp)).2.2,HN.out,HD2.out h⟩⟩
   . have eN : (N == N') = false := beq_false_of_ne hN
     go_wp2_with fail
     go_ret
     exact ⟨_,rfl,HX1.out.below,fun h=>by cases h⟩
end Go.Proofs.YtlmglaonldlanaaGreat
namespace Go.Proofs.YtlmglaonldlanaaGreat
open Go.RowKit Pln
structure FormIs (d:StD):Prop where
 field:fieldOK d.p d.m d.mod=true
 n1:1<=d.n
 n2:d.n<=64
 rows:nzs (natR d.gen)=d.gen
 grid:Grid (d.p.toNat ^ d.m.toNat) (natR d.gen).length d.n.toNat (natR d.gen)
 len:d.gen.length<=256
 low1:1<=d.low
 low2:d.low<=d.n+1
theorem qfO {d:StD} (h:formZ d=0):FormIs d:=by
 unfold formZ at h
 split at h
 . rename_i hz
   exact absurd h hz
 . rename_i hz
   have hz0:codeZ d.p d.m d.mod d.n d.gen=0:=Classical.byContradiction hz
   obtain ⟨h1,h2,h3⟩:=codeZ_n hz0
   have hn:1<=d.n/\d.n<=64:=by
    unfold lengthZ at h2
    split at h2
    . cases h2
    . omega
   have hc:errC d.p d.m d.mod d.n d.gen=0:=by
    unfold spZ at h3
    split at h3
    . rename_i he
      exact absurd h3 he
    . rename_i he
      exact Classical.byContradiction he
   unfold errC at hc
   rw [if_pos h1] at hc
   obtain ⟨g1,g2,g3,g4,g5⟩:=qcT hc
   split at h
   . cases h
   . rename_i hl
     exact ⟨h1,hn.1,hn.2,g1,g2,g5,by omega,by omega⟩
end Go.Proofs.YtlmglaonldlanaaGreat
namespace Go.Proofs.YtlmglaonldlanaaGreat
open Go.RowKit Pln
theorem premises_1 (w:World):Calls Tryz.prog 16 #[.int .i64 1] w fun e w'=>e=.returned (.int .i64 0)/\w=w':=by
 go_enter Tryz.func16,Tryz.ntmps16
 go_wp2_with fail
 go_ret
 exact ⟨rfl,rfl⟩
theorem premises_15 (w:World):Calls Tryz.prog 16 #[.int .i64 15] w fun e w'=>e=.returned (.int .i64 0)/\w=w':=by
 go_enter Tryz.func16,Tryz.ntmps16
 go_wp2_with fail
 go_ret
 exact ⟨rfl,rfl⟩
end Go.Proofs.YtlmglaonldlanaaGreat
namespace Go.Proofs.YtlmglaonldlanaaGreat
open Go.RowKit Pln
end Go.Proofs.YtlmglaonldlanaaGreat
namespace Go.Proofs.YtlmglaonldlanaaGreat
open Go.RowKit Pln
def repS (r low:Int):StD:=⟨r,2,1,[],3,[[1,1,1]],low,[],[],0,0,0,0,0,0,0,0,0,0,0,0,0,[]⟩
def repC (r low:Int) (G:Nat):List Value:=stCells (repS r low) none (some ⟨G,0,none⟩) none none none none none none none none 0 1 0 0 0 0 0 0 0 0
theorem rep_stc {r low:Int} {G:Nat} {w:World} {B:Nat} (h:RowsAt w B (some ⟨G,0,none⟩) [[1,1,1]]):StC w B (repS r low) (repC r low G) :=
 ⟨none,some ⟨G,0,none⟩,none,none,none,none,none,none,none,none,0,1,0,0,0,0,0,0,0,0,rfl,Nat.le_refl _,fun h=>absurd h (by simp [repS]),h,fun h=>absurd h (by simp [repS]),fun h=>absurd h (by simp [repS]),fun h=>absurd h (by simp [repS])⟩
theorem rep_ok (r low:Int):(repS r low).ok:=by
 unfold StD.ok repS maxLen
 simp
def BPost (b:Bool) (w:World) (e:Ending) (w':World):Prop:=e=.returned (.bool b)/\Below w.heap.size w w'
set_option maxHeartbeats 1000000 in
set_option maxRecDepth 100000 in
theorem follows_rep (r low:Int) (G:Nat) (w:World) (bb:Bool) (hit:∀ W:World,Below w.heap.size w W->Calls Tryz.prog 28 #[.agg (repC r low G).toArray] W (BPost bb W)) :
 Calls Tryz.prog 17 #[.agg (repC r low G).toArray,.slice none 0 0] w (BPost bb w):=by
 have HX:=Lib.hid (qdZ w (repC r low G))
 have HIT:=Lib.hid hit
 clear hit
 go_enter Tryz.func17,Tryz.ntmps17
 go_upto_region 1 with fail
 generalize w.alloc (.cells (repC r low G).toArray 40)=W0 at *
 have HRG:=Lib.hid HX.out.range
 have HI:=Lib.hid (HIT.out W0 HX.out.2.1)
 clear HIT
 go_wp2_with (refine wpList_load_mid rfl 40 (.tmp 2) rfl w.heap.size 0 rfl (repC r low G) _ HRG.out Tryz.underlying40 rfl stepSize ?_)
 (with_reducible refine HI.out.mono ?_)
 rintro e w1 ⟨rfl,hb⟩
 have HX1:=Lib.hid (HX.out.grow hb)
 clear hb HI HX HRG
 go_wp2_with fail
 go_ret
 exact ⟨rfl,HX1.out.2.1⟩
def ChkPost (bb:Bool) (w:World) (e:Ending) (w':World):Prop:=e=.returned (.int .i64 (if bb=true then 0 else 13))/\Below w.heap.size w w'
set_option maxHeartbeats 4000000 in
set_option maxRecDepth 100000 in
theorem checkstep_rep (r low:Int) (hp:∀ W:World,Calls Tryz.prog 16 #[.int .i64 r] W fun e w'=>e=.returned (.int .i64 0)/\W=w') (h14:¬ r=14) (h18:¬ r=18) (h0:¬ r<0) (h20:¬ 20<=r)
 (hf:formZ (repS r low)=0) (G b o n k:Nat) (w:World) (hk:k<n) (hn:n<=2) (hrg:w.rangeAt b (o+k*23) (repC r low G)) (_hbl:b<w.heap.size) (hG:RowsAt w w.heap.size (some ⟨G,0,none⟩) [[1,1,1]]) (bb:Bool)
 (hit:∀ W:World,Below w.heap.size w W->Calls Tryz.prog 28 #[.agg (repC r low G).toArray] W (BPost bb W)) :
 Calls Tryz.prog 7 #[.slice (some ⟨b,o,none⟩) n n,.int .i64 k] w (ChkPost bb w):=by
 have HX:=Lib.hid (qdZ w (repC r low G))
 have HRB:=Lib.hid hrg
 have HG:=Lib.hid hG
 have HP:=Lib.hid hp
 have HIT:=Lib.hid hit
 have HF:=Lib.hid hf
 have HONE:Hid ((repC r low G).toArray.all (·.oneCell')=true):=by show _=_;simp [repC,stCells,Value.oneCell']
 have k0:¬ (k:Int)<0:=by omega
 have k1:¬ (n:Int)<=(k:Int):=by omega
 have k2:¬ (4096:Int)<(n:Int):=by omega
 have k3:(0:Int)<=(k:Int):=by omega
 have k4:(k:Int)<(n:Int):=by omega
 have e14:(r==14)=false:=beq_false_of_ne h14
 have e18:(r==18)=false:=beq_false_of_ne h18
 clear hrg hG hp hit hf
 go_enter Tryz.func7,Tryz.ntmps7
 go_upto_region 6 with (first
  | (refine wpList_load_mid rfl 40 (.tmp 25) rfl b (o+k*23) rfl (repC r low G) _ HRB.out Tryz.underlying40 rfl stepSize ?_)
  | (refine qaI rfl 40 (.tmp 5) (.tmp 26) rfl w _ (repC r low G).toArray rfl rfl stepSize rfl HONE.out ?_))
 generalize w.alloc (.cells (repC r low G).toArray 40)=W0 at *
 have HRG:=Lib.hid HX.out.range
 have HC:=Lib.hid (formed_g (repS r low) (repC r low G) W0 (rep_stc ((HG.out.keep HX.out.2.1).more HX.out.2.1.size)) (rep_ok r low))
 rw [HF.out] at HC
 go_wp2_with (refine wpList_load_mid rfl 40 (.tmp 5) rfl w.heap.size 0 rfl (repC r low G) _ HRG.out Tryz.underlying40 rfl stepSize ?_)
 refine HC.out.mono ?_
 rintro e w1 ⟨rfl,hb1⟩
 have HX1:=Lib.hid (HX.out.grow hb1)
 clear hb1 HX HC HRG HRB HF
 have y0:w1.cell? ⟨w.heap.size,0,none⟩=some (.int .i64 r):=HX1.out.cell rfl
 go_upto_region 11 with fail
 refine qaH (SB w w.heap.size (repC r low G)) (by kernel_rfl) (by kernel_rfl) (HX1.out.grow (Below.refl _ _).drew) ?_
 repeat (first
  | (apply qaM rfl
     . intro W hS
       have y0:W.cell? ⟨w.heap.size,0,none⟩=some (.int .i64 r):=hS.cell rfl
       have y7:W.cell? ⟨w.heap.size,7,none⟩=some (.slice none 0 0):=hS.cell rfl
       go_simp
       try rfl
     go_simp)
  | (apply qcB rfl
     . intro W hS
       have y0:W.cell? ⟨w.heap.size,0,none⟩=some (.int .i64 r):=hS.cell rfl
       have y7:W.cell? ⟨w.heap.size,7,none⟩=some (.slice none 0 0):=hS.cell rfl
       go_simp
       try rfl
     go_simp)
  | (apply qaV rfl
     . intro W hS
       go_simp
       exact ⟨rfl,rfl⟩
     . intro W hS
       exact (HP.out W).mono (by rintro e w' ⟨rfl,rfl⟩;exact ⟨rfl,hS⟩)
     go_simp)
  | (apply qcJ rfl;go_simp))
 refine qaJ ?_
 intro w2 hS
 have HX2:=Lib.hid hS
 clear hS HX1 y0
 have y7:w2.cell? ⟨w.heap.size,7,none⟩=some (.slice none 0 0):=HX2.out.cell rfl
 go_upto_region 15 with fail
 go_loop [7,66] (fun v7 v66=>v7=.slice none 0 0/\v66=.int .i64 0) (fun _ _=>0)
 case atStart=>exact ⟨rfl,rfl⟩
 case round =>
  obtain ⟨rfl,rfl⟩:=hrel
  go_upto_region 22 with fail
  go_loop [87] (fun v87=>v87=.int .i64 0) (fun _=>0)
  case atStart=>rfl
  case round =>
   subst hrel
   have HRG:=Lib.hid HX2.out.range
   have HFO:=Lib.hid (follows_rep r low G w2 bb (fun W hW=>HIT.out W (HX2.out.2.1.trans (hW.mono HX2.out.2.1.size))))
   go_wp2_with (refine wpList_load_mid rfl 40 (.tmp 5) rfl w.heap.size 0 rfl (repC r low G) _ HRG.out Tryz.underlying40 rfl stepSize ?_)
   (with_reducible refine HFO.out.mono ?_)
   rintro e w3 ⟨rfl,hb⟩
   have HX3:=Lib.hid (HX2.out.grow hb)
   clear hb HFO HRG HX2 y7
   cases bb
   . go_wp2_with fail
     go_ret
     exact ⟨rfl,HX3.out.2.1⟩
   . go_wp2_with fail
     go_ret
     exact ⟨rfl,HX3.out.2.1⟩
theorem form_rep1:formZ (repS 1 3)=0:=by kernel_rfl
theorem form_rep15:formZ (repS 15 4)=0:=by kernel_rfl
end Go.Proofs.YtlmglaonldlanaaGreat
namespace Go.Proofs.YtlmglaonldlanaaGreat
open Go.RowKit Pln
def RelIx (zs:List Int) (x:Int) (w:World) (v:Value) (wr:World):Prop:=∃ k n:Nat,k<=zs.length/\v=.int .i64 k/\x∉zs.take k/\wr=w.drewN n
theorem not_take_succ {zs:List Int} {x:Int} {k:Nat} (hk:k<zs.length) (h:x∉zs.take k) (hx:x≠zs.getD k 0):x∉zs.take (k+1):=by
 have e:zs.getD k 0=zs[k]:=by simp [List.getD,hk]
 rw [List.take_succ_eq_append_getElem hk,<- e,List.mem_append,not_or]
 exact ⟨h,by simpa only [List.mem_singleton] using hx⟩
set_option maxHeartbeats 1000000 in
set_option maxRecDepth 100000 in
theorem sindex_c (zs:List Int) (x:Int) (A:Option Addr) (c:Nat) (w:World) (hA:IntsAt w w.heap.size A zs) (hl:zs.length<=9223372036854775807) :
 Calls Tryz.prog 144 #[.slice A zs.length c,.int .i64 x] w fun e w'=>(∃ r:Int,e=.returned (.int .i64 r)/\(0<=r ↔ x∈zs))/\∃ n,w'=w.drewN n:=by
 have HA:=Lib.hid hA
 have HST:Hid (∀ k,k<zs.length->x∉zs.take k->x≠zs.getD k 0->x∉zs.take (k+1)):=fun k hk h he=>not_take_succ hk h he
 have HFD:Hid (∀ k,k<zs.length->x=zs.getD k 0->x∈zs):=fun k hk he=>by
  have e:zs.getD k 0=zs[k]:=by simp [List.getD,hk]
  rw [he,e]
  exact List.getElem_mem hk
 have HEND:Hid (x∉zs.take zs.length->x∉zs):=fun h=>by rwa [List.take_length] at h
 clear hA
 go_enter Tryz.func144,Tryz.ntmps144
 go_wp2_with fail
 go_loopw [8] (fun v8 wr=>RelIx zs x w v8 wr) (fun v8 _=>zs.length-(intOf v8).toNat)
 case atStart=>exact ⟨0,0,by omega,rfl,by simp,rfl⟩
 case round =>
  obtain ⟨k,n,hk,rfl,htk,rfl⟩:=hrel
  have HTK:=Lib.hid htk
  clear htk
  by_cases hlt:k<zs.length
  . obtain ⟨b,o,rfl,hb,hc⟩ := HA.out.at_ hlt
    have HN:=Lib.hid (HFD.out k hlt)
    have HS:=Lib.hid (HST.out k hlt HTK.out)
    generalize zs.getD k 0=z at *
    have k0:(0:Int)<=(k:Int):=by omega
    have k1:(k:Int)<(zs.length:Int):=by omega
    by_cases hz:x=z
    . have hzb : (x == z) = true := by simp [hz]
      have HN2:=Lib.hid (HN.out hz)
      clear hz
      go_wp2_with fail
      go_ret
      exact ⟨⟨(k:Int),rfl,by simp [HN2.out]⟩,n,by first | rfl | rw [World.drewN_drewN]⟩
    . have hzb : (x == z) = false := by simp [hz]
      have HS2:=Lib.hid (HS.out hz)
      clear hz
      go_wp2_with fail
      go_roundw
      case rel=>exact ⟨k+1,n,by omega,by go_num,HS2.out,by first | rfl | rw [World.drewN_drewN]⟩
      case measure=>simp [intOf];omega
  . obtain rfl : k = zs.length := by omega
    have HE:=Lib.hid (HEND.out HTK.out)
    go_wp2_with fail
    go_ret
    exact ⟨⟨-1,rfl,by simp [HE.out]⟩,n,rfl⟩
set_option maxHeartbeats 1000000 in
set_option maxRecDepth 100000 in
theorem contains_c (zs:List Int) (x:Int) (A:Option Addr) (c:Nat) (w:World) (hA:IntsAt w w.heap.size A zs) (hl:zs.length<=9223372036854775807) :
 Calls Tryz.prog 77 #[.slice A zs.length c,.int .i64 x] w (Quiet (.bool (decide (x∈zs))) w):=by
 have HI:=Lib.hid (sindex_c zs x A c w hA hl)
 clear hA
 go_enter Tryz.func77,Tryz.ntmps77
 go_wp2_with fail
 (with_reducible refine HI.out.mono ?_)
 rintro e w1 ⟨⟨r,rfl,hr⟩,n1,rfl⟩
 go_wp2_with fail
 go_ret
 exact ⟨qaO (by by_cases h:x∈zs <;> simp_all),_,rfl⟩
end Go.Proofs.YtlmglaonldlanaaGreat
namespace Go.Proofs.YtlmglaonldlanaaGreat
open Go.RowKit Pln
structure OB (w:World) (n:Int) (rows:List (List Nat)) (k:Nat) (v:Value) (bs:List (Nat × Nat)) (W:World):Prop where
 below:Below w.heap.size w W
 size:w.heap.size<W.heap.size
 box:W.heap[w.heap.size]?=some (.cells [.int .i64 n,v].toArray 54 (0,0))
 grid:LGrid W (w.heap.size+1) v rows bs k
section
variable {w:World} {n:Int} {rows:List (List Nat)} {k:Nat} {v:Value} {bs:List (Nat × Nat)} {W W':World}
theorem LGrid.grow {B:Nat} (h:LGrid W B v rows bs k) (hb:Below W.heap.size W W'):LGrid W' B v rows bs k:=by
 refine ⟨h.len,h.le,?_,fun i hi=>(h.row i hi).below hb (h.row i hi).lt.2,h.apart⟩
 exact h.out.kept (row:=none) ⟨hb.os,hb.tape,hb.output,hb.size,fun j hj _=>hb.block j hj⟩ (by cases v.ownBlock <;> simp)
theorem LGrid.set {B:Nat} (h:LGrid W B v rows bs k) {p:Addr} (hp:p.block<B) (u:Value):LGrid (W.setCell p u) B v rows bs k:=by
 refine ⟨h.len,h.le,?_,fun i hi=>(h.row i hi).far (by have:=(h.row i hi).lt.1;omega) u,h.apart⟩
 exact h.out.kept (row:=some p.block) ⟨rfl,rfl,rfl,by simp,fun j _ hne=>Below.heap_setCell W p u j (fun e=>hne (by rw [e]))⟩ (by
  cases hv:v.ownBlock with
  | none=>exact .inl rfl
  | some b=>exact .inr (fun e=>by injection e with e;have:=(h.out.lt b hv).1;omega))
end
def MatPost (w:World) (n:Int) (rows:List (List Nat)) (e:Ending) (w':World):Prop :=
 (∃ (A':Option Addr) (c':Nat),e=.returned (.tuple #[.agg #[.int .i64 n,.slice A' rows.length c'],.int .i64 0])/\RowsUp w' w.heap.size A' (nzs rows))/\Below w.heap.size w w'
end Go.Proofs.YtlmglaonldlanaaGreat
namespace Go.Proofs.YtlmglaonldlanaaGreat
open Go.RowKit Pln
section
variable {wc:World} {b R n:Nat} {out:List Nat} {W:World}
end
end Go.Proofs.YtlmglaonldlanaaGreat
namespace Go.Proofs.YtlmglaonldlanaaGreat
open Go.RowKit Pln
end Go.Proofs.YtlmglaonldlanaaGreat
namespace Go.Proofs.YtlmglaonldlanaaGreat
open Go.RowKit Pln
end Go.Proofs.YtlmglaonldlanaaGreat
namespace Go.Proofs.YtlmglaonldlanaaGreat
open Go.RowKit Pln
theorem natR_nzs (rows:List (List Nat)):natR (nzs rows)=rows:=by
 unfold natR nzs nz
 rw [List.map_map]
 conv=>rhs;rw [<- List.map_id rows]
 apply List.map_congr_left
 intro r _
 show (r.map fun x:Nat=>(x:Int)).map Int.toNat=id r
 rw [List.map_map]
 conv=>rhs;rw [id,<- List.map_id r]
 apply List.map_congr_left
 intro x _
 simp
theorem errC_grid {p m:Int} {mod:List Int} {cols:Int} {rows:List (List Nat)} (h:errC p m mod cols (nzs rows)=0):fieldOK p m mod=true/\checkZ (p.toNat ^ m.toNat) cols (nzs rows)=0/\Grid (p.toNat ^ m.toNat) rows.length cols.toNat rows/\0<=cols/\cols<=256/\rows.length<=256:=by
 obtain ⟨hok,hz⟩:fieldOK p m mod=true/\checkZ (p.toNat ^ m.toNat) cols (nzs rows)=0:=by
  unfold errC at h
  split at h
  . exact ⟨by assumption,h⟩
  . simp at h
 obtain ⟨_,h2,h3,h4,h5⟩:=qcT hz
 rw [natR_nzs] at h2
 rw [qbC] at h5
 exact ⟨hok,hz,h2,h3,h4,h5⟩
structure BoxH2 (w:World) (f a b r:Array Value) (W:World):Prop where
 below:Below w.heap.size w W
 size:w.heap.size+3<W.heap.size
 k1:W.heap[w.heap.size+1]?=some (.cells a 54 (0,0))
 k2:W.heap[w.heap.size+1+1]?=some (.cells b 54 (0,0))
 k3:W.heap[w.heap.size+1+1+1]?=some (.cells r 54 (0,0))
section
variable {w:World} {f a b r:Array Value} {W W':World}
theorem qbM {w:World} {n:Nat} (h:w.heap.size=n) (o:Obj):(w.alloc o).heap[n]?=some o:=by subst h;exact heap_alloc_new _ _
end
def LSt (w0 W:World):Prop:=Below w0.heap.size w0 W
end Go.Proofs.YtlmglaonldlanaaGreat
