/-
 slices.IndexFunc, slices.ContainsFunc at 'not zero'; derive.itself at the distribution of the code of 000 and 111. matrix.canon with its pivots; matrix.Kernel where nothing is wrong. matrix.Kernel where nothing is wrong.
-/
import Derived.Test.YtlmglaonldlanaaGreatQ28
import Derived.Test.YtlmglaonldlanaaGreatQ18
namespace Go.Proofs.YtlmglaonldlanaaGreat
open Go.RowKit Pln
def nzIx:List Nat->Nat->Int
 | [],_=>-1
 | x :: r,k=>if x=0 then nzIx r (k+1) else k
theorem nzIx_step {v:List Nat} {k:Nat} (hk:k<v.length):nzIx (v.drop k) k=if v.getD k 0=0 then nzIx (v.drop (k+1)) (k+1) else (k:Int):=by
 rw [List.drop_eq_getElem_cons hk]
 have:v.getD k 0=v[k]:=by simp [List.getD,hk]
 rw [this]
 rfl
def RelNx (v:List Nat) (w:World) (r:Int) (v8:Value) (wr:World):Prop:=∃ k:Nat,k<=v.length/\v8=.int .i64 k/\nzIx (v.drop k) k=r/\wr=w
set_option maxHeartbeats 1000000 in
set_option maxRecDepth 100000 in
theorem indexnz_c (f:Nat) (hf:∀ (x:Int) (W:World),Calls Tryz.prog f #[.int .i64 x] W fun e w'=>e=.returned (.bool (x != 0))/\W=w') (he:∀ (args:Array Value) (W:World),(callFunc f args).run Tryz.prog W=.ok (.enter f args) W)
 (v:List Nat) (A:Option Addr) (c:Nat) (w:World) (hA:IntsAt w w.heap.size A (nz v)) (hl:v.length<=1000) :
 Calls Tryz.prog 99 #[.slice A v.length c,.func (.func f) #[] #[]] w fun e w'=>e=.returned (.int .i64 (nzIx v 0))/\w=w':=by
 have HA:=Lib.hid hA
 have HF:=Lib.hid hf
 have HR0:Hid (RelNx v w (nzIx v 0) (.int .i64 ((0:Nat):Int)) w):=⟨0,by omega,rfl,rfl,rfl⟩
 clear hA hf
 generalize nzIx v 0=r at *
 go_enter Tryz.func99,Tryz.ntmps99
 go_wp2_with fail
 go_loopw [8] (fun v8 wr=>RelNx v w r v8 wr) (fun v8 _=>v.length-(intOf v8).toNat)
 case atStart=>exact HR0.out
 case round =>
  obtain ⟨k,hk,rfl,hr,rfl⟩:=hrel
  clear HR0
  by_cases hlt:k<v.length
  . obtain ⟨b,o,rfl,hb,hc⟩ := HA.out.at_ (k := k) (by rw [qaB];exact hlt)
    rw [qaF] at hc
    have k0:(0:Int)<=(k:Int):=by omega
    have k1:(k:Int)<(v.length:Int):=by omega
    have hw1:IntKind.i64.wrap ((k:Int)+1)=(k:Int)+1:=IntWalk.i64_in _ (by omega)
    have HST:Hid ((if v.getD k 0=0 then nzIx (v.drop (k+1)) (k+1) else (k:Int))=r):=by rw [<- nzIx_step hlt];exact hr
    clear hr
    generalize v.getD k 0=x at *
    have HC:=Lib.hid (HF.out (x:Int) wr)
    go_wp2_with fail
    refine HC.out.mono ?_
    rintro e w' ⟨rfl,rfl⟩
    by_cases hx:x=0
    . rw [if_pos hx] at HST
      subst hx
      go_wp2_with fail
      go_roundw
      case rel=>exact ⟨k+1,by omega,by go_num,HST.out,rfl⟩
      case measure=>simp [intOf];omega
    . rw [if_neg hx] at HST
      have hxb:((x:Int) != 0)=true:=by rw [bne_iff_ne];omega
      go_wp2_with fail
      go_ret
      have e:=HST.out
      exact ⟨by rw [<- e];rfl,rfl⟩
  . obtain rfl : k = v.length := by omega
    have HST:Hid ((-1:Int)=r):=by
     rw [List.drop_eq_nil_of_le (Nat.le_refl _)] at hr
     exact hr
    clear hr
    go_wp2_with fail
    go_ret
    have e:=HST.out
    exact ⟨by rw [<- e];rfl,rfl⟩
set_option maxRecDepth 100000 in
theorem itself1_c (x:Int) (W:World):Calls Tryz.prog 56 #[.int .i64 x] W fun e w'=>e=.returned (.bool (x != 0))/\W=w':=by
 go_enter Tryz.func56,Tryz.ntmps56
 go_wp2_with fail
 go_ret
 exact ⟨rfl,rfl⟩
set_option maxRecDepth 100000 in
theorem columns1_c (x:Int) (W:World):Calls Tryz.prog 100 #[.int .i64 x] W fun e w'=>e=.returned (.bool (x != 0))/\W=w':=by
 go_enter Tryz.func100,Tryz.ntmps100
 go_wp2_with fail
 go_ret
 exact ⟨rfl,rfl⟩
set_option maxHeartbeats 1000000 in
set_option maxRecDepth 100000 in
theorem containsnz_c (v:List Nat) (A:Option Addr) (c:Nat) (w:World) (hA:IntsAt w w.heap.size A (nz v)) (hl:v.length<=1000) :
 Calls Tryz.prog 55 #[.slice A v.length c,.func (.func 56) #[] #[]] w fun e w'=>e=.returned (.bool (decide (0<=nzIx v 0)))/\w=w':=by
 have HC:=Lib.hid (indexnz_c 56 itself1_c (enters_of Tryz.func56 (by kernel_rfl) rfl) v A c w hA hl)
 clear hA
 generalize nzIx v 0=r at *
 go_enter Tryz.func55,Tryz.ntmps55
 go_wp2_with fail
 refine HC.out.mono ?_
 rintro e w' ⟨rfl,rfl⟩
 go_wp2_with fail
 go_ret
 exact ⟨rfl,rfl⟩
theorem rep_code {r low:Int} {G:Nat} {w W:World} (h:SB w w.heap.size (repC r low G) W):W.rangeAt w.heap.size 1 [.int .i64 2,.int .i64 1,.slice none 0 0,.int .i64 3,.slice (some ⟨G,0,none⟩) 1 1] :=
 h.sub 1 _ fun j hj=>by
  have hj5:j<5:=hj
  match j,hj5 with
  | 0,_=>rfl
  | 1,_=>rfl
  | 2,_=>rfl
  | 3,_=>rfl
  | 4,_=>rfl
set_option maxHeartbeats 4000000 in
set_option maxRecDepth 100000 in
theorem itself_15 (G R ro cr:Nat) (w:World) (hG1:w.cell? ⟨G,0,none⟩=some (.slice (some ⟨R,ro,none⟩) 3 cr)) (hG2:∀ j,j<3->w.cell? ⟨R,ro+j,none⟩=some (.int .i64 1)) :
 Calls Tryz.prog 28 #[.agg (repC 15 4 G).toArray] w (BPost false w):=by
 have HX:=Lib.hid (qdZ w (repC 15 4 G))
 have HG1:=Lib.hid hG1
 have HG2:=Lib.hid hG2
 clear hG1 hG2
 go_enter Tryz.func28,Tryz.ntmps28
 go_upto_region 1 with fail
 generalize w.alloc (.cells (repC 15 4 G).toArray 40)=W0 at *
 have y0:W0.cell? ⟨w.heap.size,0,none⟩=some (.int .i64 15):=HX.out.cell rfl
 have HRC:Hid (W0.rangeAt w.heap.size 1 [.int .i64 2,.int .i64 1,.slice none 0 0,.int .i64 3,.slice (some ⟨G,0,none⟩) 1 1]):=rep_code HX.out
 have l1:=World.block_lt_of_cell? w _ HG1.out
 have l2:=World.block_lt_of_cell? w _ (HG2.out 0 (by omega))
 simp only at l1 l2
 have HW:=Lib.hid (eweights_c G R ro cr W0 ((HX.out.2.1.cell (p:=⟨G,0,none⟩) l1).trans HG1.out) (fun j hj=>(HX.out.2.1.cell (p:=⟨R,ro+j,none⟩) l2).trans (HG2.out j hj)))
 go_wp2_with (refine wpList_load_mid rfl 32 (.tmp 113) rfl w.heap.size 1 rfl [.int .i64 2,.int .i64 1,.slice none 0 0,.int .i64 3,.slice (some ⟨G,0,none⟩) 1 1] _ HRC.out Tryz.underlying32 rfl codeSize ?_)
 refine HW.out.mono ?_
 rintro e w1 ⟨g,rfl,hI,hb⟩
 have HX1:=Lib.hid (HX.out.grow hb)
 have HI:=Lib.hid hI
 clear hb hI HW HRC y0 HX
 have y6:w1.cell? ⟨w.heap.size,6,none⟩=some (.int .i64 4):=HX1.out.cell rfl
 have HC:Hid (Calls Tryz.prog 55 #[.slice (some ⟨g,1,none⟩) 3 3,.func (.func 56) #[] #[]] w1 fun e w'=>e=.returned (.bool (decide (0<=nzIx [0,0,1] 0)))/\w1=w'):=containsnz_c [0,0,1] (some ⟨g,1,none⟩) 3 w1 (fun _=>by
  obtain ⟨b,o,he,hb,hj⟩:=HI.out (by rw [qaB];decide)
  injection he with he
  injection he with e1 e2
  subst e1
  subst e2
  refine ⟨g,1,rfl,hb,fun j hj3=>?_⟩
  have hj3':j<3:=hj3
  match j,hj3' with
  | 0,_=>exact hj 1 (by rw [qaB];decide)
  | 1,_=>exact hj 2 (by rw [qaB];decide)
  | 2,_=>exact hj 3 (by rw [qaB];decide)) (by simp)
 go_wp2_with fail
 refine HC.out.mono ?_
 rintro e w' ⟨rfl,rfl⟩
 have hd:decide (0<=nzIx [0,0,1] 0)=true:=rfl
 rw [hd]
 clear hd HC
 go_wp2_with fail
 go_ret
 exact ⟨rfl,HX1.out.2.1⟩
end Go.Proofs.YtlmglaonldlanaaGreat
namespace Go.Proofs.YtlmglaonldlanaaGreat
open Go.RowKit Pln
theorem qcQ {w:World} {B n ck:Nat} {VA:Option Addr} {l:List Nat} (h:w.ownsRow B 3 1 (.slice VA n ck) n ((nz l).map (Value.int .i64))) (hn:l.length=n):IntsUp w B VA (nz l):=fun hz=>by
 rw [qaB] at hz
 obtain ⟨VA',ck',e,hR⟩:=qbO h
 injection e with e1 e2 e3
 subst e1
 obtain ⟨R,rfl⟩:=hR (by omega)
 have hlt:=World.ownsRow.lt h R rfl
 refine ⟨R,0,rfl,hlt.1,hlt.2,fun j hj=>?_⟩
 rw [qaB] at hj
 rw [Nat.zero_add,World.ownsRow.cellAt h j (by omega)]
 have hj':j<(nz l).length:=by rw [qaB];exact hj
 simp [List.getD,hj']
theorem qdK (O:Ops) (rows:List (List Nat)):∀ c,∀ x∈(elGo O rows c).piv,x<c
 | 0,x,hx=>by simp [elGo] at hx
 | c + 1,x,hx => by
   have ih:=qdK O rows c
   unfold elGo elStep at hx
   split at hx
   . split at hx
     . have:=ih x hx;omega
     . rcases List.mem_append.1 hx with h | h
       . have:=ih x h;omega
       . have : x = c := by simpa using h
         omega
   . have:=ih x hx;omega
set_option maxHeartbeats 1000000 in
set_option maxRecDepth 100000 in
theorem canon2_c (gb Bg p m cols:Nat) (md l:List Nat) (rows:List (List Nat)) (A:Option Addr) (c:Nat) (w:World) (hF:FT p m md l) (hG:GFAt w Bg gb p m l (logL l (p ^ m))) (hBg:Bg<=w.heap.size) (hA:RowsAt w w.heap.size A (nzs rows))
 (hgr:Grid (p ^ m) rows.length cols rows) (h1:1<=cols) (hc:cols<=256) (hn:rows.length<=256) :
 Calls Tryz.prog 194 #[.pointer (some ⟨gb,0,none⟩),.slice A rows.length c,.int .i64 cols] w fun e w'=>(∃ (R:Nat) (VA:Option Addr) (ck:Nat),e=.returned (.tuple #[.slice (some ⟨R,0,none⟩) (canonM (opsT p m l) rows cols).length (canonM (opsT p m l) rows cols).length,.slice VA (canonM (opsT p m l) rows cols).length ck])/\RowsUp w' w.heap.size (some ⟨R,0,none⟩) (nzs (canonM (opsT p m l) rows cols))/\IntsUp w' w.heap.size VA (nz (elGo (opsT p m l) rows cols).piv))/\Below w.heap.size w w':=by
 have HC1:=Lib.hid (clone_c rows A c w hA (fun r hr=>by have:=(hgr.2 r hr).1;omega) (by omega))
 have HC2:Hid (∀ (bs:List (Nat × Nat)) (w1:World),Below w.heap.size w w1->GridAt w1 w.heap.size w.heap.size rows.length rows bs->Calls Tryz.prog 232 #[.pointer (some ⟨gb,0,none⟩),.slice (some ⟨w.heap.size,0,none⟩) rows.length rows.length,.int .i64 cols,.slice none 0 0] w1 (ElPost w1 w.heap.size w.heap.size rows.length p m l rows cols)) :=
  fun bs w1 hb hg=>eliminate_c w.heap.size w.heap.size rows.length gb Bg p m cols md l rows bs w1 hF (hG.keep (hb.mono hBg)) hBg hb.size hg hgr hn hc
 have HK:=Lib.hid (qbH (opsT p m l) rows cols)
 have HK2:=Lib.hid (qbW (O:=opsT p m l) rows cols)
 have HRL:=Lib.hid (qcW (O:=opsT p m l) rows cols)
 have HGD:=Lib.hid (qcN (opsT p m l) rows cols)
 clear hF hG hA hgr
 generalize canonM (opsT p m l) rows cols=cm at *
 go_enter Tryz.func194,Tryz.ntmps194
 go_wp2_with fail
 (with_reducible refine HC1.out.mono ?_)
 rintro e w1 ⟨rfl,⟨bs,hg⟩,hb⟩
 have HG:=Lib.hid hg
 have HB:=Lib.hid hb
 clear hg hb
 go_wp2_with fail
 (with_reducible refine (HC2.out bs w1 HB.out HG.out).mono ?_)
 rintro e w2 ⟨⟨vp,d,bs2,rfl,hown,hgrid⟩,hb2⟩
 obtain ⟨VA,ck,rfl⟩:=own_slice hown
 have HPV:Hid (IntsUp w2 w.heap.size VA (nz (elGo (opsT p m l) rows cols).piv)):=(qcQ hown rfl).lower (by have:=HB.out.size;omega)
 have HGR:=Lib.hid hgrid
 have HB2:=Lib.hid (HB.out.trans hb2)
 clear hown hgrid hb2
 have HX:Hid (RowsUp w2 w.heap.size (some ⟨w.heap.size,0,none⟩) (nzs cm)):=HGR.out.rowsAt cm (by rw [HK.out,HRL.out];exact HK2.out.2) (fun i hi=>HGD.out i (by rw [<- HK.out];exact hi))
 have hk1:(elGo (opsT p m l) rows cols).piv.length<=rows.length:=HK2.out.2
 rw [<- HK.out] at hk1
 have HK3:=Lib.hid HK.out.symm
 clear HK HK2 HRL HGD HC1 HC2 HGR
 rw [HK3.out]
 go_wp2_with fail
 go_ret2
 exact ⟨⟨_,_,_,rfl,HX.out,HPV.out⟩,HB2.out⟩
def kerK (O:Ops) (rows:List (List Nat)) (piv:List Nat) (cols c:Nat):Nat->List Nat
 | 0=>(List.replicate cols 0).set c 1
 | i+1=>(kerK O rows piv cols c i).set (piv.getD i 0) (O.neg ((rows.getD i []).getD c 0))
theorem kerK_len (O:Ops) (rows:List (List Nat)) (piv:List Nat) (cols c:Nat):∀ i,(kerK O rows piv cols c i).length=cols
 | 0=>by simp [kerK]
 | i+1=>by simp [kerK,kerK_len O rows piv cols c i]
theorem kerK_lt {q n cols:Nat} {O:Ops} (E:OpsEq q O O) (h1:1<q) {rows:List (List Nat)} (hG:Grid q n cols rows) {piv:List Nat} {c:Nat} (hc:c<cols):∀ i,i<=n->∀ x∈kerK O rows piv cols c i,x<q
 | 0,_,x,hx => by
   unfold kerK at hx
   rcases List.mem_or_eq_of_mem_set hx with h | h
   . simp at h;omega
   . omega
 | i + 1,hi,x,hx => by
   unfold kerK at hx
   rcases List.mem_or_eq_of_mem_set hx with h | h
   . exact kerK_lt E h1 hG hc i (by omega) x h
   . rw [h]
     have hr:=hG.row (i:=i) (by omega)
     have:(rows.getD i []).getD c 0=(rows.getD i [])[c]'(by rw [hr.1];exact hc):=by
      have:∀ (l:List Nat) (hj:c<l.length),l.getD c 0=l[c]:=fun l hj=>by simp [List.getD,hj]
      exact this _ _
     rw [this]
     exact (E.neg _ (hr.2 _ (List.getElem_mem _))).2
def freeC (piv:List Nat) (c:Nat):List Nat:=(List.range c).filter fun x=>!decide (x∈piv)
def kerRows (O:Ops) (rows:List (List Nat)) (piv:List Nat) (cols:Nat):List (List Nat):=(freeC piv cols).map fun c=>kerK O rows piv cols c piv.length
theorem freeC_succ (piv:List Nat) (c:Nat):freeC piv (c+1)=freeC piv c++if c∈piv then [] else [c]:=by
 unfold freeC
 rw [List.range_succ,List.filter_append]
 by_cases h:c∈piv <;> simp [h]
theorem freeC_le (piv:List Nat) (c:Nat):(freeC piv c).length<=c:=by
 unfold freeC
 have:=List.length_filter_le (fun x=>!decide (x∈piv)) (List.range c)
 simpa using this
theorem freeC_at (piv:List Nat):∀ (cols c:Nat),c<cols->c∉piv->(freeC piv c).length<(freeC piv cols).length/\(freeC piv cols).getD (freeC piv c).length 0=c
 | 0,c,h,_=>by omega
 | n + 1,c,h,hp => by
   rw [freeC_succ]
   by_cases hcn:c=n
   . subst hcn
     rw [if_neg hp]
     exact ⟨by simp,by simp [List.getD]⟩
   . obtain ⟨i1,i2⟩ := freeC_at piv n c (by omega) hp
     refine ⟨by rw [List.length_append];omega,?_⟩
     rw [show (freeC piv n++if n∈piv then [] else [n]).getD (freeC piv c).length 0=(freeC piv n).getD (freeC piv c).length 0 by simp only [List.getD,List.getElem?_append_left i1]]
     exact i2
theorem kerRows_len (O:Ops) (rows:List (List Nat)) (piv:List Nat) (cols:Nat):(kerRows O rows piv cols).length=(freeC piv cols).length:=by simp [kerRows]
theorem kerRows_at (O:Ops) (rows:List (List Nat)) (piv:List Nat) (cols c:Nat) (hc:c<cols) (hp:c∉piv):(kerRows O rows piv cols).getD (freeC piv c).length []=kerK O rows piv cols c piv.length:=by
 obtain ⟨h1,h2⟩:=freeC_at piv cols c hc hp
 have e:(freeC piv cols)[(freeC piv c).length]?=some c:=by
  rw [List.getElem?_eq_getElem h1]
  rw [List.getD,List.getElem?_eq_getElem h1] at h2
  simpa using h2
 simp [kerRows,List.getD,e]
theorem qeP {q n cols:Nat} {O:Ops} (E:OpsEq q O O) (h1:1<q) {rows:List (List Nat)} {piv:List Nat} (hG:Grid q n cols rows) (hn:piv.length=n):Grid q (kerRows O rows piv cols).length cols (kerRows O rows piv cols):=by
 refine ⟨rfl,fun r hr=>?_⟩
 unfold kerRows at hr
 obtain ⟨c,hc,rfl⟩:=List.mem_map.1 hr
 have hcl:c<cols:=by
  have:=(List.mem_filter.1 hc).1
  simpa using this
 exact ⟨kerK_len _ _ _ _ _ _,kerK_lt E h1 hG hcl _ (by omega)⟩
def kerM (O:Ops) (rows:List (List Nat)) (cols:Nat):List (List Nat):=canonM O (kerRows O (canonM O rows cols) (elGo O rows cols).piv cols) cols
def RelKer (w2:World) (piv:List Nat) (cols:Nat) (kr:List (List Nat)) (v10 v37:Value) (wr:World):Prop :=
 ∃ (c:Nat) (bs:List (Nat × Nat)),c<=cols/\v37=.int .i64 c/\LGrid wr (w2.heap.size) v10 kr bs (freeC piv c).length/\Below w2.heap.size w2 wr
def RelKi (w4:World) (O:Ops) (rows:List (List Nat)) (piv:List Nat) (cols c:Nat) (v51:Value) (wr:World):Prop :=
 ∃ i:Nat,i<=piv.length/\v51=.int .i64 i/\Row wr w4.heap.size w4.heap.size cols (nz (kerK O rows piv cols c i))/\Below w4.heap.size w4 wr
theorem qdC {q n cols:Nat} {O:Ops} (E:OpsEq q O O) {rows:List (List Nat)} (hG:Grid q n cols rows):Grid q (elGo O rows cols).piv.length cols (canonM O rows cols):=by
 have hg:=(qfR E hG cols (Nat.le_refl _)).2
 have hp:=(qbW (O:=O) rows cols).2
 refine ⟨qbH O rows cols,fun r hr=>?_⟩
 obtain ⟨i,hi,rfl⟩:=List.mem_iff_getElem.1 hr
 have hi':i<(elGo O rows cols).piv.length:=by rw [qbH] at hi;exact hi
 have e:(canonM O rows cols)[i]=(elGo O rows cols).rows.getD i []:=by
  rw [<- qcN O rows cols i hi']
  simp [List.getD,hi]
 rw [e]
 exact hg.row (i:=i) (by rw [hG.1] at hp;omega)
end Go.Proofs.YtlmglaonldlanaaGreat
namespace Go.Proofs.YtlmglaonldlanaaGreat
open Go.RowKit Pln
theorem mem_nz {x:Nat} {l:List Nat}:((x:Int)∈nz l) ↔ x∈l:=by
 unfold nz
 constructor
 . intro h
   obtain ⟨y,hy,e⟩:=List.mem_map.1 h
   have:y=x:=by omega
   rwa [<- this]
 . intro h
   exact List.mem_map.2 ⟨x,h,rfl⟩
set_option maxHeartbeats 4000000 in
set_option maxRecDepth 100000 in
theorem kernel_c (p m:Int) (mod:List Int) (Am:Option Addr) (cm:Nat) (cols:Nat) (rows:List (List Nat)) (A:Option Addr) (c:Nat) (w:World) (hM:IntsAt w w.heap.size Am mod) (hl:mod.length<=9223372036854775807)
 (hA:RowsAt w w.heap.size A (nzs rows)) (h1:1<=cols) (herr:errC p m mod cols (nzs rows)=0) :
 Calls Tryz.prog 156 #[.agg #[.int .i64 p,.int .i64 m,.slice Am mod.length cm],.agg #[.int .i64 (cols:Int),.slice A rows.length c]] w (MatPost w cols (kerM (opsT p.toNat m.toNat (lOf p m mod)) rows cols)):=by
 obtain ⟨hok,hz,hgr,_,hc1,hn⟩:=errC_grid herr
 rw [Int.toNat_natCast] at hgr
 have hF:=qaW hok
 have E:=qeA hF
 have hq1:1<p.toNat ^ m.toNat:=by have h1:=hF.small.p1;have h2:=hF.small.m1;exact Nat.one_lt_pow (by omega) (by omega)
 obtain ⟨i0,hi,hz0,hz1,hz2⟩:=qaG infoInt
 obtain ⟨i00,hi',hz0',hz1',hz2'⟩:=qaG infoInts
 have HI:=Lib.hid hi
 have HZ0:=Lib.hid hz0
 have HZ1:=Lib.hid hz1
 have HI':=Lib.hid hi'
 have HZ0':=Lib.hid hz0'
 have HZ1':=Lib.hid hz1'
 have HZ2':=Lib.hid hz2'
 have HB2:=Lib.hid (show i0.bytes*cols<=281474976710656 by rw [hz2];omega)
 have HB3:=Lib.hid (show cols<=maxLen by unfold maxLen;omega)
 have HX:=Lib.hid ((box3 w p m Am mod.length cm cols A rows.length c 54 #[.int .i64 0,.slice none 0 0]).keep ((Below.refl _ _).alloc (Nat.le_refl _) (.cells #[.int .i64 (cols:Int),.slice A rows.length c] 54)))
 have HK3:Hid (((((w.alloc (.cells #[.int .i64 p,.int .i64 m,.slice Am mod.length cm] 29)).alloc (.cells #[.int .i64 (cols:Int),.slice A rows.length c] 54)).alloc (.cells #[.int .i64 0,.slice none 0 0] 54)).alloc (.cells #[.int .i64 (cols:Int),.slice A rows.length c] 54)).heap[w.heap.size+1+1+1]?=some (.cells #[.int .i64 (cols:Int),.slice A rows.length c] 54 (0,0))):=qbM (by simp) _
 have HM:=Lib.hid hM
 have HA:=Lib.hid hA
 have HFT:=Lib.hid hF
 have HGR:=Lib.hid hgr
 have HCGR:=Lib.hid (qdC E hgr)
 have HPL:Hid (∀ i,i<(elGo (opsT p.toNat m.toNat (lOf p m mod)) rows cols).piv.length->(elGo (opsT p.toNat m.toNat (lOf p m mod)) rows cols).piv.getD i 0<cols):=fun i hi=>by
  have:∀ (l:List Nat) (hj:i<l.length),l.getD i 0=l[i]:=fun l hj=>by simp [List.getD,hj]
  rw [this _ hi]
  exact qdK _ _ _ _ (List.getElem_mem _)
 have HKG:=Lib.hid (qeP (piv:=(elGo (opsT p.toNat m.toNat (lOf p m mod)) rows cols).piv) E hq1 (qdC E hgr) rfl)
 have HKL:=Lib.hid (kerRows_len (opsT p.toNat m.toNat (lOf p m mod)) (canonM (opsT p.toNat m.toNat (lOf p m mod)) rows cols) (elGo (opsT p.toNat m.toNat (lOf p m mod)) rows cols).piv cols)
 have HKA:=Lib.hid (kerRows_at (opsT p.toNat m.toNat (lOf p m mod)) (canonM (opsT p.toNat m.toNat (lOf p m mod)) rows cols) (elGo (opsT p.toNat m.toNat (lOf p m mod)) rows cols).piv cols)
 have HCML:=Lib.hid (qbH (opsT p.toNat m.toNat (lOf p m mod)) rows cols)
 have HKM:Hid (kerM (opsT p.toNat m.toNat (lOf p m mod)) rows cols=canonM (opsT p.toNat m.toNat (lOf p m mod)) (kerRows (opsT p.toNat m.toNat (lOf p m mod)) (canonM (opsT p.toNat m.toNat (lOf p m mod)) rows cols) (elGo (opsT p.toNat m.toNat (lOf p m mod)) rows cols).piv cols) cols):=rfl
 have HPN:=Lib.hid (qbW (O:=opsT p.toNat m.toNat (lOf p m mod)) rows cols)
 have HFL:Hid ((freeC (elGo (opsT p.toNat m.toNat (lOf p m mod)) rows cols).piv cols).length<=cols):=freeC_le _ _
 clear hM hA hi hz0 hz1 hz2 hi' hz0' hz1' hz2' hF E herr
 generalize kerM (opsT p.toNat m.toNat (lOf p m mod)) rows cols=out at *
 go_enter Tryz.func156,Tryz.ntmps156
 go_wp2_with fail
 generalize (((w.alloc (.cells #[.int .i64 p,.int .i64 m,.slice Am mod.length cm] 29)).alloc (.cells #[.int .i64 (cols:Int),.slice A rows.length c] 54)).alloc (.cells #[.int .i64 0,.slice none 0 0] 54)).alloc (.cells #[.int .i64 (cols:Int),.slice A rows.length c] 54)=W0 at *
 have hlz':(nzs rows).length<=9223372036854775807:=by rw [qbC];omega
 have HC:=Lib.hid (open_c p m mod Am cm cols (nzs rows) A c (w.heap.size+1+1+1) 1 W0 ((HM.out.keep HX.out.below).more HX.out.below.size) hl ((HA.out.keep HX.out.below).more HX.out.below.size) hlz' (by rw [qbC];exact HK3.out))
 (with_reducible refine HC.out.mono ?_)
 rintro e w1 ⟨hb1,hcase⟩
 have HX1:=Lib.hid (HX.out.keep hb1)
 have HA1:=Lib.hid ((HA.out.keep HX1.out.below).more HX1.out.below.size)
 clear HX HM HA HC HK3 hb1
 clear W0
 rcases hcase with ⟨hok',_⟩ | ⟨_,hz',_⟩ | ⟨_,_,gb,rfl,hg⟩
 . rw [hok] at hok';cases hok'
 . exact absurd hz hz'
 clear hok hz
 have HG:=Lib.hid hg
 have HCA:=Lib.hid (canon2_c gb w1.heap.size p.toNat m.toNat cols (mdOf m mod) (lOf p m mod) rows A c w1 HFT.out hg (Nat.le_refl _) HA1.out HGR.out h1 (by omega) hn)
 have hs1:=HX1.out.size
 have hs2:w.heap.size+1<w1.heap.size:=by omega
 have a0:w1.cell? ⟨w.heap.size+1,0,none⟩=some (.int .i64 (cols:Int)):=cell_of_row _ _ 0 _ _ _ HX1.out.k1
 have a1:w1.cell? ⟨w.heap.size+1,1,none⟩=some (.slice A rows.length c):=cell_of_row _ _ 1 _ _ _ HX1.out.k1
 clear hg HA1
 have HNEG:Hid (∀ (B:Nat) (W:World) (x:Nat),GFAt W B gb p.toNat m.toNat (lOf p m mod) (logL (lOf p m mod) (p.toNat ^ m.toNat))->x<p.toNat ^ m.toNat->Calls Tryz.prog 132 #[.pointer (some ⟨gb,0,none⟩),.int .i64 (x:Int)] W (Quiet (.int .i64 (((opsT p.toNat m.toNat (lOf p m mod)).neg x:Nat):Int)) W)):=fun B W x hG hx=>neg_c x gb p.toNat m.toNat B _ _ W HFT.out.small hG hx
 have HCA2:Hid (∀ (W:World) (kr:List (List Nat)) (VO:Option Addr) (co:Nat),GFAt W W.heap.size gb p.toNat m.toNat (lOf p m mod) (logL (lOf p m mod) (p.toNat ^ m.toNat))->RowsAt W W.heap.size VO (nzs kr)->Grid (p.toNat ^ m.toNat) kr.length cols kr->kr.length<=256->Calls Tryz.prog 194 #[.pointer (some ⟨gb,0,none⟩),.slice VO kr.length co,.int .i64 (cols:Int)] W fun e w'=>(∃ (R:Nat) (VA:Option Addr) (ck:Nat),e=.returned (.tuple #[.slice (some ⟨R,0,none⟩) (canonM (opsT p.toNat m.toNat (lOf p m mod)) kr cols).length (canonM (opsT p.toNat m.toNat (lOf p m mod)) kr cols).length,.slice VA (canonM (opsT p.toNat m.toNat (lOf p m mod)) kr cols).length ck])/\RowsUp w' W.heap.size (some ⟨R,0,none⟩) (nzs (canonM (opsT p.toNat m.toNat (lOf p m mod)) kr cols)))/\Below W.heap.size W w'):=fun W kr VO co hG hA hgr hn =>
  (canon2_c gb W.heap.size p.toNat m.toNat cols (mdOf m mod) (lOf p m mod) kr VO co W HFT.out hG (Nat.le_refl _) hA hgr h1 (by omega) hn).mono fun e w' ⟨⟨R,VA,ck,h1,h2,_⟩,h3⟩=>⟨⟨R,VA,ck,h1,h2⟩,h3⟩
 generalize opsT p.toNat m.toNat (lOf p m mod)=O at *
 generalize (elGo O rows cols).piv=piv at *
 generalize canonM O rows cols=cr at *
 generalize hkr:kerRows O cr piv cols=kr at *
 have HKR:=Lib.hid hkr
 clear hkr
 go_wp2_with fail
 (with_reducible refine HCA.out.mono ?_)
 rintro e w2 ⟨⟨R,VA,ck,rfl,hru,hpv⟩,hb2⟩
 have HX2:=Lib.hid (HX1.out.keep hb2)
 have HRU:=Lib.hid hru.rowsAt
 have HPV:=Lib.hid hpv.ints
 have HG2:=Lib.hid ((HG.out.keep hb2).more hb2.size)
 have hws:=hb2.size
 have hs3:w.heap.size+1<w2.heap.size:=by omega
 clear HX1 HCA hru hpv HG a0 a1
 have a0:w2.cell? ⟨w.heap.size+1,0,none⟩=some (.int .i64 (cols:Int)):=cell_of_row _ _ 0 _ _ _ HX2.out.k1
 have HL0:Hid (RelKer w2 piv cols kr (.slice none 0 0) (.int .i64 ((0:Nat):Int)) w2):=⟨0,[],by omega,rfl,⟨rfl,Nat.zero_le _,World.ownsRow_nil _ _ _ _,fun i hi=>by simp [freeC] at hi,fun i hi=>by simp [freeC] at hi⟩,Below.refl _ _⟩
 clear hb2
 go_wp2_with fail
 go_loopw [10,37] (fun v10 v37 wr=>RelKer w2 piv cols kr v10 v37 wr) (fun _ v37 _=>cols-(intOf v37).toNat)
 case atStart=>exact HL0.out
 case round =>
  obtain ⟨t,bs,ht,rfl,hlg,hb⟩:=hrel
  obtain ⟨VO,co,rfl,_⟩:=qbO hlg.out
  have HLG:=Lib.hid hlg
  have HB:=Lib.hid hb
  have hwr:=hb.size
  clear hlg hb HL0
  by_cases hlt:t<cols
  . have HCT : Hid (Calls Tryz.prog 77 #[.slice VA cr.length ck,.int .i64 (t : Int)] wr (Quiet (.bool (decide (t ∈ piv))) wr)) := by
     have:=contains_c (nz piv) t VA ck wr ((HPV.out.keep HB.out).more hwr) (by rw [qaB];have:=HPN.out.2;omega)
     rw [qaB,<- HCML.out,show decide ((t:Int)∈nz piv)=decide (t∈piv) by simp [mem_nz]] at this
     exact this
    have c0:wr.cell? ⟨w.heap.size+1,0,none⟩=some (.int .i64 (cols:Int)):=(HB.out.cell (p:=⟨w.heap.size+1,0,none⟩) hs3).trans a0
    by_cases hp:t∈piv
    . rw [decide_eq_true hp] at HCT
      have HFS:Hid (freeC piv (t+1)=freeC piv t):=by show _=_;rw [freeC_succ,if_pos hp,List.append_nil]
      clear hp
      go_wp2_with fail
      (with_reducible refine HCT.out.mono ?_)
      rintro e w3 ⟨rfl,n,rfl⟩
      have HB3:Hid (Below wr.heap.size wr (wr.drewN n)):=qaA (Below.refl _ _) n
      generalize wr.drewN n=w4 at *
      go_wp2_with fail
      go_roundw
      case rel=>exact ⟨t+1,bs,by omega,by go_num,by rw [HFS.out];exact HLG.out.grow HB3.out,HB.out.trans (HB3.out.mono hwr)⟩
      case measure=>simp [intOf];omega
    . rw [decide_eq_false hp] at HCT
      have HFS:Hid ((freeC piv (t+1)).length=(freeC piv t).length+1):=by show _=_;rw [freeC_succ,if_neg hp];simp
      have HKK:=Lib.hid (HKA.out t hlt hp)
      have hfk:(freeC piv t).length<kr.length:=by rw [HKL.out];exact (freeC_at piv cols t hlt hp).1
      clear hp
      go_wp2_with fail
      (with_reducible refine HCT.out.mono ?_)
      rintro e w3 ⟨rfl,n,rfl⟩
      have HB3:Hid (Below wr.heap.size wr (wr.drewN n)):=qaA (Below.refl _ _) n
      have HL4:=Lib.hid (HLG.out.grow HB3.out)
      have HB4:=Lib.hid (HB.out.trans (HB3.out.mono hwr))
      have c4:(wr.drewN n).cell? ⟨w.heap.size+1,0,none⟩=some (.int .i64 (cols:Int)):=c0
      clear HB3 HLG HB HCT c0
      generalize wr.drewN n=w4 at *
      clear hwr
      clear wr
      have hw4:=HB4.out.size
      go_upto_region 11 with (refine wpList_make_full w4 rfl (.tmp 44) (.tmp 44) 23 rfl w4.heap.size 3 i0 (.int .i64 0) 1 Tryz.underlying23 HI.out HZ0.out HZ1.out .i64 .i64 cols cols cols rfl rfl rfl rfl HB2.out HB3.out (Nat.le_refl _) ?_;intro w5 hown hgrn)
      have HR5:Hid (Row w5 w4.heap.size w4.heap.size cols (nz (List.replicate cols 0))):=by have:=Row.of_make hown;exact this
      have HB5:Hid (Below w4.heap.size w4 w5):=qaL hgrn
      have r0:=HR5.out.cell (j:=t) (by rw [qaB,List.length_replicate];exact hlt)
      have rf:=HR5.out.frozen t
      have HI0:Hid (RelKi w4 O cr piv cols t (.int .i64 ((0:Nat):Int)) (w5.setCell ⟨w4.heap.size,t,none⟩ (.int .i64 1))):=by
       refine ⟨0,by omega,rfl,?_,HB5.out.setCell (p:=⟨w4.heap.size,t,none⟩) (Nat.le_refl _) _⟩
       have:=HR5.out.set t 1
       rw [show (1:Int)=((1:Nat):Int) from rfl,qbX] at this
       exact this
      have hpl:(cr.length:Int)=(piv.length:Int):=by rw [HCML.out]
      have hpb:piv.length<=256:=by have:=HPN.out.2;omega
      have t0:(0:Int)<=(t:Int):=by omega
      have t1:(t:Int)<(cols:Int):=by omega
      clear hown hgrn
      go_wp2_with fail
      generalize w5.setCell ⟨w4.heap.size,t,none⟩ (.int .i64 1)=W6 at *
      clear r0 rf
      go_loopw [51] (fun v51 wr=>RelKi w4 O cr piv cols t v51 wr) (fun v51 _=>piv.length-(intOf v51).toNat)
      case atStart=>exact HI0.out
      case round =>
       obtain ⟨i,hi,rfl,hrow,hb⟩:=hrel
       have HR:=Lib.hid hrow
       have HB:=Lib.hid hb
       have hwr:=hb.size
       clear hrow hb HI0
       have HBW:=Lib.hid (HB4.out.trans (HB.out.mono hw4))
       by_cases hil:i<piv.length
       . obtain ⟨bp,op,rfl,hbp,hcp⟩ := (HPV.out.keep HBW.out).at_ (k := i) (by rw [qaB];exact hil)
         rw [qaF] at hcp
         obtain ⟨br,or',Ai,ci,e,hbr,hcr,hri⟩:=(HRU.out.keep HBW.out).at_ (i:=i) (by rw [qbC,HCML.out];exact hil)
         injection e with e
         injection e with e1 e2 _
         subst e1 e2
         rw [Nat.zero_add] at hcr
         rw [qcM] at hcr hri
         have hg:=HCGR.out.row (i:=i) hil
         rw [qaB,hg.1] at hcr
         obtain ⟨bx,ox,rfl,hbx,hcx⟩:=hri.at_ (k:=t) (by rw [qaB,hg.1];exact hlt)
         rw [qaF] at hcx
         have hxq:(cr.getD i []).getD t 0<p.toNat ^ m.toNat:=by
          have:∀ (l:List Nat) (hj:t<l.length),l.getD t 0=l[t]:=fun l hj=>by simp [List.getD,hj]
          rw [this _ (by rw [hg.1];exact hlt)]
          exact hg.2 _ (List.getElem_mem _)
         have hpv:=HPL.out i hil
         have HKS:Hid (kerK O cr piv cols t (i+1)=(kerK O cr piv cols t i).set (piv.getD i 0) (O.neg ((cr.getD i []).getD t 0))):=rfl
         have HNG:=Lib.hid (HNEG.out w2.heap.size wr _ (HG2.out.keep HBW.out) hxq)
         have f0:=HR.out.frozen (piv.getD i 0)
         have y0:=HR.out.cell (j:=piv.getD i 0) (by rw [qaB,kerK_len];exact hpv)
         have i0':(0:Int)<=(i:Int):=by omega
         have i1':(i:Int)<(piv.length:Int):=by omega
         have p0:(0:Int)<=((piv.getD i 0:Nat):Int):=by omega
         have p1:((piv.getD i 0:Nat):Int)<(cols:Int):=by omega
         clear hri hg hxq
         generalize (cr.getD i []).getD t 0=x at *
         generalize piv.getD i 0=pv at *
         go_wp2_with fail
         (with_reducible refine HNG.out.mono ?_)
         rintro e w7 ⟨rfl,n,rfl⟩
         go_wp2_with fail
         go_roundw
         case rel =>
          refine ⟨i+1,by omega,by go_num,?_,(qaA HB.out n).setCell (p:=⟨w4.heap.size,pv,none⟩) (Nat.le_refl _) _⟩
          rw [HKS.out,<- qbX]
          exact Row.set (w:=wr.drewN n) HR.out pv _
         case measure=>simp [intOf];omega
       . obtain rfl : i = piv.length := by omega
         have HRW:Hid (Row wr w4.heap.size w4.heap.size cols (nz (kr.getD (freeC piv t).length []))):=by
          show Row _ _ _ _ _
          rw [HKK.out]
          exact HR.out
         have hol:(kr.getD (freeC piv t).length []).length=cols:=by rw [HKK.out,kerK_len]
         have HOW:Hid ((wr.alloc (.cells #[.slice (some ⟨w4.heap.size,0,none⟩) cols cols] 23)).ownsRow w2.heap.size 23 1 (.slice VO (freeC piv t).length co) (freeC piv t).length ((List.range (freeC piv t).length).map (hdr kr bs))):=by
          have hko:=(HL4.out.grow HB.out).out
          exact World.ownsRow.alloc hko _
         have hfl:(freeC piv t).length<=t:=freeC_le _ _
         have hbw2:=HBW.out.size
         clear HR
         go_wp2_with (at_builtin;refine wpList_append_own_at _ rfl (.tmp 69) (.tmp 71) 30 rfl w2.heap.size 23 i00 _ 1 24 Tryz.underlying30 HI'.out HZ0'.out HZ1'.out HZ2'.out rfl (by decide) (.slice VO (freeC piv t).length co) (freeC piv t).length ((List.range (freeC piv t).length).map (hdr kr bs)) rfl HOW.out ⟨wr.heap.size,0,none⟩ 1 1 [.slice (some ⟨w4.heap.size,0,none⟩) cols cols] rfl rfl ?c1 ?c2 ?c3 ?c4 ?c5 ?_)
         case c1=>exact World.news_of_block (cs:=#[.slice (some ⟨w4.heap.size,0,none⟩) cols cols]) (t:=23) (fr:=(0,0)) (heap_alloc_new wr _)
         case c2=>intro u hu;simp at hu;subst hu;rfl
         case c3=>unfold maxLen;omega
         case c4=>omega
         case c5=>simp;omega
         intro v' w7 hown' hgw _ hat
         have HX7:Hid (LGrid w7 w2.heap.size v' kr (bs++[(w4.heap.size,cols)]) ((freeC piv t).length+1)):=HL4.out.step hfk hw4 HB.out HRW.out (by rw [hol];exact hown') hgw (by simpa using hat)
         have HB7:Hid (Below w2.heap.size w2 w7):=(HBW.out.alloc (by omega) _).grown hgw (by simp;omega) (fun j hj=>(HL4.out.out.lt j hj).1)
         clear hown' hgw hat HOW
         go_wp2_with fail
         go_roundw
         case rel=>exact ⟨t+1,_,by omega,by go_num,by rw [HFS.out];exact HX7.out,HB7.out⟩
         case measure=>simp [intOf];omega
  . obtain rfl : t = cols := by omega
    have hkl:(freeC piv t).length=kr.length:=HKL.out.symm
    have HLK:Hid (RowsAt wr wr.heap.size VO (nzs kr)):=by
     have hgd:=HLG.out
     rw [hkl] at hgd
     exact hgd.up.rowsAt
    have HCB:=Lib.hid (HCA2.out wr kr VO co ((HG2.out.keep HB.out).more hwr) HLK.out HKG.out (by rw [<- hkl];have:=HFL.out;omega))
    rw [HKM.out.symm] at HCB
    have c0:wr.cell? ⟨w.heap.size+1,0,none⟩=some (.int .i64 (t:Int)):=(HB.out.cell (p:=⟨w.heap.size+1,0,none⟩) hs3).trans a0
    have HX3:=Lib.hid (HX2.out.keep HB.out)
    clear HLK HLG a0
    go_wp2_with fail
    (with_reducible refine HCB.out.mono ?_)
    rintro e w8 ⟨⟨R2,VA2,ck2,rfl,hru2⟩,hb8⟩
    have HX8:=Lib.hid (HX3.out.keep hb8)
    have HK22:=Lib.hid HX8.out.k2
    have HRU8:=Lib.hid hru2
    have hs8:w.heap.size+1+1<wr.heap.size:=HX3.out.size
    have c8:w8.cell? ⟨w.heap.size+1,0,none⟩=some (.int .i64 (t:Int)):=cell_of_row _ _ 0 _ _ _ HX8.out.k1
    have HY:=Lib.hid (HX8.out.set #[.int .i64 (t:Int),.slice (some ⟨R2,0,none⟩) out.length out.length])
    clear hb8 hru2 c0 HX3 HX2
    go_wp2_with (refine qaE rfl 54 (.tmp 4) (.tmp 85) rfl w8 (w.heap.size+1+1) 54 #[.int .i64 0,.slice none 0 0] #[.int .i64 (t:Int),.slice (some ⟨R2,0,none⟩) out.length out.length] rfl rfl HK22.out matSize rfl (by simp [Value.oneCell']) ?_)
    refine bodyPost_ret (qaP (P:=Tryz.prog) rfl _ _ (w.heap.size+1+1) 54 #[.int .i64 (t:Int),.slice (some ⟨R2,0,none⟩) out.length out.length] (0,0) _ _ rfl rfl HY.out.k2 Tryz.underlying54 rfl matSize) rfl ?_
    exact ⟨⟨_,_,rfl,(HRU8.out.setRow hs8 _).lower (by omega)⟩,HY.out.below⟩
end Go.Proofs.YtlmglaonldlanaaGreat
