/-
 matrix.clone. The steps of an elimination: exchange, scaling, clearing.
-/
import Derived.RegionTactic
import Derived.BigRegion
import Derived.Test.YtlmglaonldlanaaGreatQ09
namespace Go.Proofs.YtlmglaonldlanaaGreat
open Go.RowKit Pln
def RowsAt (w:World) (B:Nat) (A:Option Addr) (zs:List (List Int)):Prop :=
 0<zs.length->∃ b o,A=some ⟨b,o,none⟩/\b<B/\∀ i,i<zs.length->∃ (Ai:Option Addr) (ci:Nat),w.cell? ⟨b,o+i,none⟩=some (.slice Ai (zs.getD i []).length ci)/\IntsAt w B Ai (zs.getD i [])
theorem RowsAt.keep {w w':World} {B:Nat} {A:Option Addr} {zs:List (List Int)} (h:RowsAt w B A zs) (hb:Below B w w'):RowsAt w' B A zs:=fun hz=>by
 obtain ⟨b,o,e,hlt,hc⟩:=h hz
 refine ⟨b,o,e,hlt,fun i hi=>?_⟩
 obtain ⟨Ai,ci,h1,h2⟩:=hc i hi
 exact ⟨Ai,ci,(hb.cell (p:=⟨b,o+i,none⟩) hlt).trans h1,h2.keep hb⟩
theorem RowsAt.more {w:World} {B B':Nat} {A:Option Addr} {zs:List (List Int)} (h:RowsAt w B A zs) (hB:B<=B'):RowsAt w B' A zs:=fun hz=>by
 obtain ⟨b,o,e,hlt,hc⟩:=h hz
 refine ⟨b,o,e,by omega,fun i hi=>?_⟩
 obtain ⟨Ai,ci,h1,h2⟩:=hc i hi
 exact ⟨Ai,ci,h1,h2.more hB⟩
theorem RowsAt.at_ {w:World} {B:Nat} {A:Option Addr} {zs:List (List Int)} (h:RowsAt w B A zs) {i:Nat} (hi:i<zs.length):∃ b o Ai ci,A=some ⟨b,o,none⟩/\b<B/\w.cell? ⟨b,o+i,none⟩=some (.slice Ai (zs.getD i []).length ci)/\IntsAt w B Ai (zs.getD i []):=by
 obtain ⟨b,o,e,hlt,hc⟩:=h (by omega)
 obtain ⟨Ai,ci,h1,h2⟩:=hc i hi
 exact ⟨b,o,Ai,ci,e,hlt,h1,h2⟩
def nzs (rows:List (List Nat)):List (List Int):=rows.map nz
theorem qbC (rows:List (List Nat)):(nzs rows).length=rows.length:=by simp [nzs]
theorem qcM (rows:List (List Nat)) (i:Nat):(nzs rows).getD i []=nz (rows.getD i []):=by
 unfold nzs
 simp only [List.getD,List.getElem?_map]
 cases rows[i]? <;> rfl
structure PGrid (w:World) (B R:Nat) (rows:List (List Nat)) (bs:List (Nat × Nat)) (k:Nat):Prop where
 len:bs.length=k
 le:k<=rows.length
 out:w.ownsRow B 23 1 (.slice (some ⟨R,0,none⟩) rows.length rows.length) rows.length ((List.range k).map (hdr rows bs)++List.replicate (rows.length-k) (.slice none 0 0))
 row:∀ i,i<k->Row w B (bk bs i) (cp bs i) (nz (rows.getD i []))
 nd:∀ i j,i<k->j<k->i≠j->bk bs i≠bk bs j
theorem qbS {α:Type} {l:List α} {x d:α} {i:Nat} (hi:i<l.length):(l++[x]).getD i d=l.getD i d:=by
 simp only [List.getD]
 rw [List.getElem?_append_left hi]
theorem qbB {α:Type} (l:List α) (x d:α):(l++[x]).getD l.length d=x:=by simp [List.getD]
theorem PGrid.step {w w1:World} {B R:Nat} {rows:List (List Nat)} {bs:List (Nat × Nat)} {k g c:Nat} (h:PGrid w B R rows bs k) (hk:k<rows.length) (hb:Below w.heap.size w w1) (_hB:B<=w.heap.size) (hr:Row w1 w.heap.size g c (nz (rows.getD k []))) :
 PGrid (w1.setCell ⟨R,k,none⟩ (.slice (some ⟨g,0,none⟩) (rows.getD k []).length c)) B R rows (bs++[(g,c)]) (k+1):=by
 have hR:=World.ownsRow.lt h.out R rfl
 have hgl:=hr.lt
 have hgR:g≠R:=by omega
 refine ⟨by simp [h.len],hk,?_,fun i hi=>?_,fun i j hi hj hij=>?_⟩
 . have h1 := (World.ownsRow.stored (qdY h.out (hb.block R hR.2)) k (.slice (some ⟨g,0,none⟩) (rows.getD k []).length c)).1
   have e:((List.range k).map (hdr rows bs)++List.replicate (rows.length-k) (Value.slice none 0 0)).set k (.slice (some ⟨g,0,none⟩) (rows.getD k []).length c)
    = (List.range (k+1)).map (hdr rows (bs++[(g,c)]))++List.replicate (rows.length-(k+1)) (.slice none 0 0):=by
    rw [List.set_append_right _ _ (by simp),List.length_map,List.length_range,Nat.sub_self,show rows.length-k=(rows.length-(k+1))+1 by omega,List.replicate_succ,List.set_cons_zero,List.range_succ,List.map_append,List.append_assoc]
    congr 1
    . apply List.map_congr_left
      intro i hi
      have hi':=List.mem_range.1 hi
      unfold hdr bk cp
      rw [qbS (by rw [h.len];exact hi')]
    . simp only [List.map_cons,List.map_nil,List.singleton_append,hdr,bk,cp]
      have:=qbB bs (g,c) (0,0)
      rw [h.len] at this
      rw [this]
   rw [<- e]
   exact h1
 . by_cases hik : i = k
   . subst hik
     unfold bk cp
     have:=qbB bs (g,c) (0,0)
     rw [h.len] at this
     rw [this]
     exact (hr.base (B':=B) (by omega)).far (p:=⟨R,i,none⟩) hgR _
   . have hi' : i < k := by omega
     unfold bk cp
     rw [qbS (by rw [h.len];exact hi')]
     have hri:=h.row i hi'
     refine (hri.below hb hri.lt.2).far (p:=⟨R,k,none⟩) ?_ _
     intro e
     obtain ⟨c1,e1⟩:=qeC h.out
     obtain ⟨c2,e2⟩:=qeC (e:=3) hri
     have e':bk bs i=R:=e
     rw [e',e1] at e2
     injection e2 with e2
     injection e2 with _ ht
     exact absurd ht (by decide)
 . unfold bk
   have hs:=qbB bs (g,c) (0,0)
   rw [h.len] at hs
   by_cases hik:i=k
   . subst hik
     rw [hs,qbS (i:=j) (by rw [h.len];omega)]
     have:=(h.row j (by omega)).lt.2
     unfold bk at this
     omega
   . rw [qbS (i := i) (by rw [h.len];omega)]
     by_cases hjk:j=k
     . subst hjk
       rw [hs]
       have:=(h.row i (by omega)).lt.2
       unfold bk at this
       omega
     . rw [qbS (i := j) (by rw [h.len];omega)]
       exact h.nd i j (by omega) (by omega) hij
theorem PGrid.done {w:World} {B R:Nat} {rows:List (List Nat)} {bs:List (Nat × Nat)} (h:PGrid w B R rows bs rows.length):GridAt w B R rows.length rows bs:=by
 refine ⟨h.len,?_,h.row,h.nd⟩
 have:=h.out
 rw [Nat.sub_self,List.replicate_zero,List.append_nil] at this
 exact this
def RelCl (w:World) (rows:List (List Nat)) (v11:Value) (wr:World):Prop :=
 ∃ k bs,v11=.int .i64 ((k:Nat):Int)/\PGrid wr w.heap.size w.heap.size rows bs k/\Below w.heap.size w wr
set_option maxHeartbeats 1000000 in
set_option maxRecDepth 100000 in
theorem clone_c (rows:List (List Nat)) (A:Option Addr) (c:Nat) (w:World) (hA:RowsAt w w.heap.size A (nzs rows)) (hr:∀ r∈rows,0<r.length/\r.length<=1000000) (hl:rows.length<=1000000) :
 Calls Tryz.prog 231 #[.slice A rows.length c] w fun e w'=>e=.returned (.slice (some ⟨w.heap.size,0,none⟩) rows.length rows.length)/\(∃ bs,GridAt w' w.heap.size w.heap.size rows.length rows bs)/\Below w.heap.size w w':=by
 obtain ⟨i0,hi,hz0,hz1,hz2⟩:=qaG infoInts
 have HI:=Lib.hid hi
 have HZ0:=Lib.hid hz0
 have HZ1:=Lib.hid hz1
 have HB2:=Lib.hid (show i0.bytes*rows.length<=281474976710656 by rw [hz2];omega)
 have HB3:=Lib.hid (show rows.length<=maxLen by unfold maxLen;omega)
 have HA:=Lib.hid hA
 have HRL:Hid (∀ k,k<rows.length->0<(rows.getD k []).length/\(rows.getD k []).length<=1000000):=fun k hk=>by
  have:rows.getD k []=rows[k]:=by simp [List.getD,hk]
  rw [this]
  exact hr _ (List.getElem_mem hk)
 clear hi hz0 hz1 hz2 hA hr
 go_enter Tryz.func231,Tryz.ntmps231
 go_wp2_with (refine wpList_make_full w rfl (.tmp 7) (.tmp 7) 30 rfl w.heap.size 23 i0 (.slice none 0 0) 1 Tryz.underlying30 HI.out HZ0.out HZ1.out .i64 .i64 rows.length rows.length rows.length rfl rfl rfl rfl HB2.out HB3.out (Nat.le_refl _) ?_;intro w1 hown hgr)
 have HS:Hid (RelCl w rows (.int .i64 ((0:Nat):Int)) w1):=by
  refine ⟨0,[],rfl,⟨rfl,Nat.zero_le _,?_,fun i hi=>absurd hi (by omega),fun i j hi=>absurd hi (by omega)⟩,qaL hgr⟩
  have e:(List.range 0).map (hdr rows [])++List.replicate (rows.length-0) (Value.slice none 0 0)=(madeCells (Value.slice none 0 0).cells (rows.length*1)).toList:=by
   apply List.ext_getElem
   . simp [madeCells]
   . intro i h1 h2
     simp [madeCells,Value.cells,Nat.mod_one]
  rw [e]
  exact hown
 clear hown hgr
 go_loopw [11] (fun v11 wr=>RelCl w rows v11 wr) (fun v11 _=>rows.length-(intOf v11).toNat)
 case atStart=>exact HS.out
 case round =>
  obtain ⟨k,bs,rfl,hpg,hb⟩:=hrel
  have HP:=Lib.hid hpg
  have HB:=Lib.hid hb
  have hk:=hpg.le
  have hws:w.heap.size<=wr.heap.size:=hb.size
  clear hpg hb HS
  by_cases hlt:k<rows.length
  . obtain ⟨b,o,Ai,ci,rfl,hbl,hc,hi⟩ := (HA.out.keep HB.out).at_ (i := k) (by rw [qbC];exact hlt)
    rw [qcM,qaB] at hc
    rw [qcM] at hi
    obtain ⟨hr1,hr2⟩:=HRL.out k hlt
    have HC:Hid (Calls Tryz.prog 74 #[.slice Ai (rows.getD k []).length ci] wr fun e w'=>(∃ g c',e=.returned (.slice (some ⟨g,0,none⟩) (rows.getD k []).length c')/\Row w' wr.heap.size g c' (nz (rows.getD k [])))/\Below wr.heap.size wr w'):=by
     have h:=sclone_c (nz (rows.getD k [])) Ai ci wr (hi.more hws) (by rw [qaB];exact hr1) (by rw [qaB];exact hr2)
     rw [qaB] at h
     exact h
    have HST:Hid (∀ (w1:World) (g c:Nat),Below wr.heap.size wr w1->Row w1 wr.heap.size g c (nz (rows.getD k []))->PGrid (w1.setCell ⟨w.heap.size,k,none⟩ (.slice (some ⟨g,0,none⟩) (rows.getD k []).length c)) w.heap.size w.heap.size rows (bs++[(g,c)]) (k+1)):=fun w1 g c h1 h2=>HP.out.step hlt h1 hws h2
    have hRl:=World.ownsRow.lt HP.out.out w.heap.size rfl
    have HFR:Hid (wr.frozen? ⟨w.heap.size,k,none⟩=false):=World.ownsRow.frozenAt HP.out.out k
    have HCE:Hid (wr.cell? ⟨w.heap.size,k,none⟩=some (.slice none 0 0)):=by
     show _=_
     rw [World.ownsRow.cellAt HP.out.out k (by omega),List.getElem?_append_right (by simp),List.length_map,List.length_range,Nat.sub_self,List.getElem?_replicate,if_pos (by omega)]
    clear hi HP
    generalize rows.getD k []=r at *
    go_wp2_with fail
    (with_reducible refine HC.out.mono ?_)
    rintro e w2 ⟨⟨g,c',rfl,hrow⟩,hb2⟩
    have HR:=Lib.hid hrow
    have HB2':=Lib.hid hb2
    have f2:w2.frozen? ⟨w.heap.size,k,none⟩=false:=(hb2.frozen (p:=⟨w.heap.size,k,none⟩) hRl.2).trans HFR.out
    have c2:w2.cell? ⟨w.heap.size,k,none⟩=some (.slice none 0 0):=(hb2.cell (p:=⟨w.heap.size,k,none⟩) hRl.2).trans HCE.out
    clear hrow hb2
    go_wp2_with fail
    go_roundw
    case rel=>exact ⟨k+1,bs++[(g,c')],by go_num,HST.out w2 g c' HB2'.out HR.out,(HB.out.trans (HB2'.out.mono hws)).setCell (p:=⟨w.heap.size,k,none⟩) (Nat.le_refl _) _⟩
    case measure=>simp [intOf];omega
  . obtain rfl : k = rows.length := by omega
    go_wp2_with fail
    go_ret
    exact ⟨rfl,⟨bs,HP.out.done⟩,HB.out⟩
end Go.Proofs.YtlmglaonldlanaaGreat
namespace Go.Proofs.YtlmglaonldlanaaGreat
open Go.RowKit Pln
def SwapBs (bs:List (Nat × Nat)) (i j:Nat):List (Nat × Nat):=(bs.set i (bs.getD j (0,0))).set j (bs.getD i (0,0))
theorem GridAt.swap {w:World} {B R cR:Nat} {rows:List (List Nat)} {bs:List (Nat × Nat)} (h:GridAt w B R cR rows bs) {i j:Nat} (hi:i<rows.length) (hj:j<rows.length) (hij:i≠j) :
 GridAt ((w.setCell ⟨R,i,none⟩ (hdr rows bs j)).setCell ⟨R,j,none⟩ (hdr rows bs i)) B R cR (swapRows rows i j) (SwapBs bs i j):=by
 have hl:=h.len
 have e1:∀ k,k<rows.length->(SwapBs bs i j).getD k (0,0)=if k=j then bs.getD i (0,0) else if k=i then bs.getD j (0,0) else bs.getD k (0,0):=fun k _=>by
  unfold SwapBs
  rw [qbU _ _ _ _ _ (by simp;omega),qbU _ _ _ _ _ (by omega)]
 have e2:∀ k,k<rows.length->(swapRows rows i j).getD k []=if k=j then rows.getD i [] else if k=i then rows.getD j [] else rows.getD k []:=fun k _=>by
  unfold swapRows
  rw [qbU _ _ _ _ _ (by simp;omega),qbU _ _ _ _ _ (by omega)]
 have hlr:(swapRows rows i j).length=rows.length:=by simp [swapRows]
 have eh:hdrs (swapRows rows i j) (SwapBs bs i j)=((hdrs rows bs).set i (hdr rows bs j)).set j (hdr rows bs i):=by
  apply List.ext_getElem
  . simp [hdrs,hlr]
  . intro k h1 h2
    have hk:k<rows.length:=by simpa [hdrs,hlr] using h1
    rw [List.getElem_set,List.getElem_set]
    simp only [hdrs,List.getElem_map,List.getElem_range,hdr,bk,cp,e1 k hk,e2 k hk]
    by_cases h3:k=j
    . subst h3;simp
    . have h3' : ¬ j = k := fun e => h3 e.symm
      by_cases h4:k=i
      . simp only [if_neg h3,if_neg h3',if_pos h4,if_pos h4.symm]
      . have h4' : ¬ i = k := fun e => h4 e.symm
        simp only [if_neg h3,if_neg h3',if_neg h4,if_neg h4']
 have hstay:∀ k,k<rows.length->Row ((w.setCell ⟨R,i,none⟩ (hdr rows bs j)).setCell ⟨R,j,none⟩ (hdr rows bs i)) B (bk bs k) (cp bs k) (nz (rows.getD k [])):=fun k hk =>
  ((h.row k hk).far (p:=⟨R,i,none⟩) (h.ne (h.row k hk)) _).far (p:=⟨R,j,none⟩) (h.ne (h.row k hk)) _
 refine ⟨by simp [SwapBs,hl,hlr],?_,fun k hk=>?_,fun k k' hk hk' hkk=>?_⟩
 . rw [eh,hlr]
   exact (World.ownsRow.stored (World.ownsRow.stored h.out i _).1 j _).1
 . rw [hlr] at hk
   unfold bk cp
   rw [e1 k hk,e2 k hk]
   by_cases h3:k=j
   . rw [if_pos h3,if_pos h3];exact hstay i hi
   . rw [if_neg h3,if_neg h3]
     by_cases h4:k=i
     . rw [if_pos h4,if_pos h4];exact hstay j hj
     . rw [if_neg h4,if_neg h4];exact hstay k hk
 . rw [hlr] at hk hk'
   have hnd:=h.nd
   unfold bk at hnd ⊢
   have e3:∀ k,k<rows.length->(SwapBs bs i j).getD k (0,0)=bs.getD (if k=j then i else if k=i then j else k) (0,0):=fun k hk=>by
    rw [e1 k hk]
    split
    . rfl
    . split <;> rfl
   rw [e3 k hk,e3 k' hk']
   refine hnd _ _ ?_ ?_ ?_
   . split
     . exact hi
     . split
       . exact hj
       . exact hk
   . split
     . exact hi
     . split
       . exact hj
       . exact hk'
   . repeat' split
     all_goals omega
theorem hdr_at {w:World} {B R cR:Nat} {rows:List (List Nat)} {bs:List (Nat × Nat)} (h:GridAt w B R cR rows bs) {i:Nat} (hi:i<rows.length):w.cell? ⟨R,i,none⟩=some (hdr rows bs i):=h.cell hi
set_option maxHeartbeats 1000000 in
set_option maxRecDepth 100000 in
theorem swap_c (B R cR i j gi gj:Nat) (rows:List (List Nat)) (bs:List (Nat × Nat)) (w:World) (hG:GridAt w B R cR rows bs) (hi:i<rows.length) (hj:j<rows.length) (hij:i≠j) (_hl:rows.length<=1000000)
 (hci:w.cell? ⟨gi,0,none⟩=some (.int .i64 i)) (hcj:w.cell? ⟨gj,0,none⟩=some (.int .i64 j)) (hgi:gi≠R) (hgj:gj≠R) :
 Calls Tryz.prog 252 #[.slice (some ⟨R,0,none⟩) rows.length cR,.pointer (some ⟨gj,0,none⟩),.pointer (some ⟨gi,0,none⟩)] w fun e w'=>e=.returned (.tuple #[])/\GridAt w' B R cR (swapRows rows i j) (SwapBs bs i j)/\w.grownBy w' (some R):=by
 have HSW:=Lib.hid (hG.swap hi hj hij)
 have HGR:Hid (w.grownBy ((w.setCell ⟨R,i,none⟩ (hdr rows bs j)).setCell ⟨R,j,none⟩ (hdr rows bs i)) (some R)):=qcD (qbQ w ⟨R,i,none⟩ _) (qbQ _ ⟨R,j,none⟩ _)
 have h1:=hdr_at hG hi
 have h2:=hdr_at hG hj
 have f1:=hG.frozen i
 have f2:=hG.frozen j
 have i0:(0:Int)<=(i:Int):=by omega
 have i1:(i:Int)<(rows.length:Int):=by omega
 have j0:(0:Int)<=(j:Int):=by omega
 have j1:(j:Int)<(rows.length:Int):=by omega
 have HIJ:=Lib.hid hij
 clear hG
 obtain ⟨A1,n1,c1,e1⟩:∃ A n c,hdr rows bs i=.slice A n c:=⟨_,_,_,rfl⟩
 obtain ⟨A2,n2,c2,e2⟩:∃ A n c,hdr rows bs j=.slice A n c:=⟨_,_,_,rfl⟩
 rw [e1,e2] at HSW HGR
 rw [e1] at h1
 rw [e2] at h2
 clear e1 e2
 go_enter Tryz.func252,Tryz.ntmps252
 have hji:j≠i:=fun e=>hij e.symm
 have hRi:R≠gi:=fun e=>hgi e.symm
 have hRj:R≠gj:=fun e=>hgj e.symm
 go_region
 all_goals (go_end0;exact ⟨rfl,HSW.out.drewN 1,qcD HGR.out (qdG _ 1 _)⟩)
set_option maxHeartbeats 1000000 in
set_option maxRecDepth 100000 in
theorem scrow_c (B R cR i bg bi ba gb p m a:Nat) (md l:List Nat) (rows:List (List Nat)) (bs:List (Nat × Nat)) (w:World) (hF:FT p m md l) (hG:GFAt w w.heap.size gb p m l (logL l (p ^ m))) (hD:GridAt w B R cR rows bs) (hi:i<rows.length) (_hl:rows.length<=1000000)
 (ha:a<p ^ m) (hv:∀ x∈rows.getD i [],x<p ^ m) (hl2:(rows.getD i []).length<=1000) (hB:B<=w.heap.size)
 (hcg:w.cell? ⟨bg,0,none⟩=some (.pointer (some ⟨gb,0,none⟩))) (hci:w.cell? ⟨bi,0,none⟩=some (.int .i64 a)) (hca:w.cell? ⟨ba,0,none⟩=some (.int .i64 i)) :
 Calls Tryz.prog 253 #[.slice (some ⟨R,0,none⟩) rows.length cR,.pointer (some ⟨bg,0,none⟩),.pointer (some ⟨bi,0,none⟩),.pointer (some ⟨ba,0,none⟩)] w fun e w'=>e=.returned (.tuple #[])/\GridAt w' B R cR (rows.set i (scaleRow (opsT p m l) a (rows.getD i []))) (bs.set i (w.heap.size,(rows.getD i []).length))/\w.grownBy w' (some R):=by
 have hrow:=hD.row i hi
 have HSC:=Lib.hid (scale_c a gb p m md l (rows.getD i []) (some ⟨bk bs i,0,none⟩) (cp bs i) w.drew hF (show GFAt w.drew w.drew.heap.size gb p m l (logL l (p ^ m)) from hG) ha hv (show IntsAt w.drew w.drew.heap.size (some ⟨bk bs i,0,none⟩) (nz (rows.getD i [])) from hrow.ints hrow.lt.2) hl2)
 have h1:=hD.cell hi
 have HD:=Lib.hid hD
 have i0:(0:Int)<=(i:Int):=by omega
 have i1:(i:Int)<(rows.length:Int):=by omega
 have hbg:bg<w.heap.size:=World.block_lt_of_cell? w _ hcg
 have hbi:bi<w.heap.size:=World.block_lt_of_cell? w _ hci
 have hba:ba<w.heap.size:=World.block_lt_of_cell? w _ hca
 have hRl:=hD.lt.2
 have HFI:Hid (w.frozen? ⟨R,i,none⟩=false):=hD.frozen i
 have HRL:Hid ((scaleRow (opsT p m l) a (rows.getD i [])).length=(rows.getD i []).length):=by show _=_;simp [scaleRow]
 clear hD hrow hF hG hv
 generalize hsr:scaleRow (opsT p m l) a (rows.getD i [])=sr at *
 clear hsr
 generalize (rows.getD i []).length=n at *
 generalize bk bs i=gi at *
 generalize cp bs i=ci at *
 go_enter Tryz.func253,Tryz.ntmps253
 have hfi:=HFI.out
 go_region_law (go_simp;(with_reducible refine HSC.out.mono ?_);rintro e w1 ⟨rfl,hr1,hb1⟩;have k1:=(hb1.cell (p:=⟨bg,0,none⟩) hbg).trans hcg;have k2:=(hb1.cell (p:=⟨bi,0,none⟩) hbi).trans hci;have k3:=(hb1.cell (p:=⟨ba,0,none⟩) hba).trans hca;have k4:=(hb1.cell (p:=⟨R,i,none⟩) hRl).trans h1;have k5:=(hb1.frozen (p:=⟨R,i,none⟩) hRl).trans hfi)
 all_goals
  have hb2:Below w.heap.size w w1:=⟨hb1.os,hb1.tape,hb1.output,hb1.size,hb1.block⟩
  have hr2:Row w1 w.heap.size w.heap.size n (nz sr):=hr1
  have hput:=(HD.out.grow hb2).put hi (r:=sr) (hr2.base (B':=B) hB) (fun j hj=>by have:=(HD.out.row j hj).lt.2;omega)
  rw [HRL.out] at hput
  have hgw:w.grownBy (w1.setCell ⟨R,i,none⟩ (.slice (some ⟨w.heap.size,0,none⟩) n n)) (some R):=qcD ⟨hb2.os,hb2.tape,hb2.output,hb2.size,fun k hk _=>hb2.block k hk⟩ (qbQ w1 ⟨R,i,none⟩ _)
  go_end0
  exact ⟨rfl,hput,hgw⟩
set_option maxHeartbeats 1000000 in
set_option maxRecDepth 100000 in
theorem clrow_c (B R cR i t bg bi bx ba gb Bg p m x:Nat) (md l:List Nat) (rows:List (List Nat)) (bs:List (Nat × Nat)) (w:World) (hF:FT p m md l) (hG:GFAt w Bg gb p m l (logL l (p ^ m))) (hBg:Bg<=B) (hD:GridAt w B R cR rows bs) (hi:i<rows.length) (ht:t<rows.length) (hit:i≠t) (_hl:rows.length<=1000000)
 (hx:x<p ^ m) (hv:∀ y∈rows.getD i [],y<p ^ m) (hu:∀ y∈rows.getD t [],y<p ^ m) (hlen:(rows.getD i []).length=(rows.getD t []).length) (hl2:(rows.getD i []).length<=1000)
 (hcg:w.cell? ⟨bg,0,none⟩=some (.pointer (some ⟨gb,0,none⟩))) (hci:w.cell? ⟨bi,0,none⟩=some (.int .i64 i)) (hcx:w.cell? ⟨bx,0,none⟩=some (.int .i64 x)) (hca:w.cell? ⟨ba,0,none⟩=some (.int .i64 t)) :
 Calls Tryz.prog 254 #[.slice (some ⟨R,0,none⟩) rows.length cR,.pointer (some ⟨bg,0,none⟩),.pointer (some ⟨bi,0,none⟩),.pointer (some ⟨bx,0,none⟩),.pointer (some ⟨ba,0,none⟩)] w fun e w'=>e=.returned (.tuple #[])/\GridAt w' B R cR (rows.set i (addRow (opsT p m l) (rows.getD i []) (negD p m x) (rows.getD t []))) bs/\w.grownBy w' (some (bk bs i)):=by
 have hri:=hD.row i hi
 have hrt:=hD.row t ht
 have HNG:Hid (∀ W,SDrew w W->Calls Tryz.prog 132 #[.pointer (some ⟨gb,0,none⟩),.int .i64 (x:Int)] W fun e w'=>e=.returned (.int .i64 ((negD p m x:Nat):Int))/\SDrew w w'):=fun W ⟨n,hW⟩=>by
  subst hW
  refine (neg_c x gb p m Bg l _ _ hF.small (show GFAt (w.drewN n) Bg gb p m l (logL l (p ^ m)) from hG) hx).mono ?_
  rintro e w' ⟨he,k,rfl⟩
  exact ⟨he,n+k,by rw [World.drewN_drewN]⟩
 have HAD:Hid (∀ n,Calls Tryz.prog 233 #[.pointer (some ⟨gb,0,none⟩),.slice (some ⟨bk bs i,0,none⟩) (rows.getD i []).length (cp bs i),.int .i64 ((negD p m x:Nat):Int),.slice (some ⟨bk bs t,0,none⟩) (rows.getD t []).length (cp bs t)] (w.drewN n) fun e w'=>e=.returned (.tuple #[])/\Row w' B (bk bs i) (cp bs i) (nz (addRow (opsT p m l) (rows.getD i []) (negD p m x) (rows.getD t [])))/\(w.drewN n).grownBy w' (some (bk bs i))):=fun n=>by
  have h:=madd_c (negD p m x) gb p m Bg B (bk bs i) (cp bs i) (bk bs t) (cp bs t) md l (rows.getD i []) (rows.getD t []) (w.drewN n) hF (show GFAt (w.drewN n) Bg gb p m l (logL l (p ^ m)) from hG) (Nat.le_trans hBg hri.lt.1) (qfN (by have:=hF.small.p1;omega) m x) hv hu hri hrt (fun e=>hD.nd i t hi ht hit e.symm) hlen hl2
  rw [<- hlen]
  exact h
 have HD:=Lib.hid hD
 have h1:=hD.cell hi
 have h2:=hD.cell ht
 have i0:(0:Int)<=(i:Int):=by omega
 have i1:(i:Int)<(rows.length:Int):=by omega
 have t0:(0:Int)<=(t:Int):=by omega
 have t1:(t:Int)<(rows.length:Int):=by omega
 have HLR:Hid ((addRow (opsT p m l) (rows.getD i []) (negD p m x) (rows.getD t [])).length=(rows.getD i []).length):=qcR _ _ _ _ hlen
 clear hD hri hrt hF hG hv hu hlen
 generalize addRow (opsT p m l) (rows.getD i []) (negD p m x) (rows.getD t [])=ar at *
 generalize negD p m x=nx at *
 have HE:Hid ((rows.getD i []).length=(rows.getD i []).length):=rfl
 generalize hni:(rows.getD i []).length=n1 at *
 generalize hnt:(rows.getD t []).length=n2 at *
 have HNI:=Lib.hid hni
 clear hni hnt HE
 go_enter Tryz.func254,Tryz.ntmps254
 refine qaN 12 (SDrew w) (by kernel_rfl) (by kernel_rfl) ⟨1,rfl⟩ ?_
 simp only [List.take_succ_cons,List.take_zero,List.drop_succ_cons,List.drop_zero]
 repeat (first
  | (apply qaM rfl
     . intro W hS
       obtain ⟨n,rfl⟩:=hS
       go_simp
       rfl
     go_simp)
  | (apply qaV rfl
     . intro W hS
       go_simp
       exact ⟨rfl,rfl⟩
     . intro W hS
       exact HNG.out W hS
     go_simp))
 refine qaJ ?_
 intro w2 hS2
 obtain ⟨n,rfl⟩:=hS2
 clear hcg hci hcx hca h1 h2
 go_wp2_with fail
 (with_reducible refine (HAD.out n).mono ?_)
 rintro e w3 ⟨rfl,hr3,hg3⟩
 have HR3:=Lib.hid hr3
 have HG3:=Lib.hid hg3
 clear hr3 hg3
 go_wp2_with fail
 go_end0
 exact ⟨rfl,(HD.out.drewN n).turn hi (by rw [HLR.out,HNI.out]) HR3.out HG3.out,qcD (qdG w n _) HG3.out⟩
end Go.Proofs.YtlmglaonldlanaaGreat
