/-
 derive.columns at any code: what a true answer says. Printed by mkud.py.
-/
import Derived.Test.YtlmglaonldlanaaGreatQ43
namespace Go.Proofs.YtlmglaonldlanaaGreat
open Go.RowKit Pln
open Al (fnz colOf normC ColsOk col_len col_lt fnz_lt)
def ColPost (w:World) (O:Ops) (K:List (List Nat)) (n:Nat) (b3:Bool) (e:Ending) (w':World):Prop:=(∃ b:Bool,e=.returned (.bool b)/\(b=true->ColsOk O K n b3))/\Below w.heap.size w w'
def RelCkA (wa:World) (bc:Nat) (col:List Nat) (v36:Value) (wr:World):Prop :=
 ∃ (k:Nat) (v:Value),k<=col.length/\v36=.int .i64 k/\Num wr wa.heap.size v (col.take k)/\wr.heap[bc]?=some (.cells [v].toArray 23 (0,0))/\Below bc wa wr/\wa.heap.size<=wr.heap.size
def RelCjA (w2:World) (N:Nat->List Nat) (Z:Nat->Prop) (n:Nat) (b3:Prop) (v9 v30:Value) (wr:World):Prop :=
 ∃ (j:Nat) (bs:List (Nat × Nat)),j<=n/\v30=.int .i64 j/\LGrid wr w2.heap.size v9 ((List.range j).map N) bs ((List.range j).map N).length/\(∀ i,i<j->Z i)/\(b3->∀ i i',i<i'->i'<j->N i≠N i')/\Below w2.heap.size w2 wr
set_option maxHeartbeats 8000000 in
set_option maxRecDepth 100000 in
theorem columns_any (p m:Int) (mod:List Int) (Am:Option Addr) (cm n:Nat) (rows:List (List Nat)) (A:Option Addr) (c:Nat) (low:Int) (K:List (List Nat)) (w:World) (hM:IntsAt w w.heap.size Am mod) (hl:mod.length<=1000000) (hG:RowsAt w w.heap.size A (nzs rows)) (hrl:rows.length<=1000000) (hz:codeZ p m mod (n:Int) (nzs rows)=0) (hn1:1<=n) (hn2:n<=64) (hok:fieldOK p m mod=true) (herr:errC p m mod (n:Int) (nzs rows)=0) (hK:kerM (opsT p.toNat m.toNat (lOf p m mod)) rows n=K) (hKl:K.length<=64) (hKg:∀ r∈K,r.length=n/\∀ x∈r,x<p.toNat ^ m.toNat) :
 Calls Tryz.prog 50 #[.agg #[.int .i64 p,.int .i64 m,.slice Am mod.length cm,.int .i64 (n:Int),.slice A rows.length c],.int .i64 low] w (ColPost w (opsT p.toNat m.toNat (lOf p m mod)) K n (decide (low=3))):=by
 have HX:=Lib.hid (qcY w [.int .i64 p,.int .i64 m,.slice Am mod.length cm,.int .i64 (n:Int),.slice A rows.length c] 32)
 have HG:=Lib.hid hG
 have HM:=Lib.hid hM
 have HKG:=Lib.hid hKg
 have HFT:=Lib.hid (qaW hok)
 have HD0:Hid (∀ W,Below w.heap.size w W->Calls Tryz.prog 98 #[.agg #[.int .i64 p,.int .i64 m,.slice Am mod.length cm,.int .i64 (n:Int),.slice A rows.length c]] W (DuaPost p m mod n K W)):=fun W hW=>dual_any p m mod Am cm n rows A c K W ((hM.keep hW).more hW.size) hl ((hG.keep hW).more hW.size) hrl hz hn1 herr hK
 have HFN:Hid (∀ W,Below w.heap.size w W->Calls Tryz.prog 72 #[.agg #[.int .i64 p,.int .i64 m,.slice Am mod.length cm]] W fun e w'=>(∃ gb,e=.returned (.tuple #[.pointer (some ⟨gb,0,none⟩),.int .i64 0])/\GFAt w' w'.heap.size gb p.toNat m.toNat (lOf p m mod) (logL (lOf p m mod) (p.toNat ^ m.toNat)))/\Below W.heap.size W w'):=fun W hW=>(qeN p m mod Am cm W ((hM.keep hW).more hW.size) (by omega)).mono fun e w' ⟨h1,h2⟩=>⟨by
  rcases h1 with ⟨h,_⟩ | ⟨_,gb,h3,_,h4⟩
  . rw [hok] at h
    cases h
  . exact ⟨gb,h3,h4.gf⟩,h2⟩
 clear hG hM hz herr hK hok hKg
 go_enter Tryz.func50,Tryz.ntmps50
 go_upto_region 1 with fail
 generalize w.alloc (.cells #[.int .i64 p,.int .i64 m,.slice Am mod.length cm,.int .i64 (n:Int),.slice A rows.length c] 32)=W0 at *
 have HRG:=Lib.hid HX.out.range
 have HD:=Lib.hid (HD0.out W0 HX.out.below)
 go_wp2_with (refine wpList_load_mid rfl 32 (.tmp 2) rfl w.heap.size 0 rfl [.int .i64 p,.int .i64 m,.slice Am mod.length cm,.int .i64 (n:Int),.slice A rows.length c] _ HRG.out Tryz.underlying32 rfl codeSize ?_)
 (with_reducible refine HD.out.mono ?_)
 rintro e w1 ⟨⟨A2,c2,A',c',rfl,hr⟩,hb1⟩
 have HX1:=Lib.hid (HX.out.grow hb1)
 have HR1:=Lib.hid (hr.lower HX.out.below.size)
 have hs1:w.heap.size<w1.heap.size:=Nat.lt_of_lt_of_le HX.out.2.2 hb1.size
 clear hb1 hr HD HX HRG HG HM HD0
 clear W0
 go_upto_region 2 with (refine qaI rfl 32 (.tmp 5) (.tmp 20) rfl w1 _ #[.int .i64 p,.int .i64 m,.slice A2 mod.length c2,.int .i64 (n:Int),.slice A' K.length c'] rfl rfl codeSize rfl (by simp [Value.oneCell']) ?_)
 have hba:Below w1.heap.size w1 (w1.alloc (.cells #[.int .i64 p,.int .i64 m,.slice A2 mod.length c2,.int .i64 (n:Int),.slice A' K.length c'] 32)):=(Below.refl _ _).alloc (Nat.le_refl _) _
 have HX2:=Lib.hid (HX1.out.grow hba)
 have HR2:=Lib.hid (HR1.out.grow hba)
 have HK2:Hid ((w1.alloc (.cells #[.int .i64 p,.int .i64 m,.slice A2 mod.length c2,.int .i64 (n:Int),.slice A' K.length c'] 32)).heap[w1.heap.size]?=some (.cells #[.int .i64 p,.int .i64 m,.slice A2 mod.length c2,.int .i64 (n:Int),.slice A' K.length c'] 32 (0,0))):=heap_alloc_new _ _
 have hs2:w1.heap.size<(w1.alloc (.cells #[.int .i64 p,.int .i64 m,.slice A2 mod.length c2,.int .i64 (n:Int),.slice A' K.length c'] 32)).heap.size:=by simp
 clear hba HX1 HR1
 generalize w1.alloc (.cells #[.int .i64 p,.int .i64 m,.slice A2 mod.length c2,.int .i64 (n:Int),.slice A' K.length c'] 32)=W2 at *
 generalize w1.heap.size=Bd at *
 clear w1
 have HRG:=Lib.hid HX2.out.field
 have HN:=Lib.hid (HFN.out W2 HX2.out.below)
 go_wp2_with (refine wpList_load_mid rfl 29 (.tmp 23) rfl w.heap.size 0 rfl [.int .i64 p,.int .i64 m,.slice Am mod.length cm] _ HRG.out Tryz.underlying29 rfl fieldSize ?_)
 (with_reducible refine HN.out.mono ?_)
 rintro e w3 ⟨⟨gb,rfl,hg⟩,hb3⟩
 have HX3:=Lib.hid (HX2.out.grow hb3)
 have HR3:=Lib.hid (HR2.out.grow hb3)
 have HK3:=Lib.hid ((hb3.block Bd hs2).trans HK2.out)
 have hs3:Bd<w3.heap.size:=Nat.lt_of_lt_of_le hs2 hb3.size
 have HGF:=Lib.hid hg
 clear hb3 hg HX2 HR2 HK2 HN HRG hs2 HFN
 clear W2
 have y3:w3.cell? ⟨w.heap.size,3,none⟩=some (.int .i64 (n:Int)):=HX3.out.cell rfl
 obtain ⟨N,hN⟩:∃ N:Nat->List Nat,(fun j=>normC (opsT p.toNat m.toNat (lOf p m mod)) (colOf K j))=N:=⟨_,rfl⟩
 have HNN:Hid (∀ j,normC (opsT p.toNat m.toNat (lOf p m mod)) (colOf K j)=N j):=fun j=>by rw [<- hN]
 have HNL:Hid (∀ j,(N j).length=K.length):=fun j=>by
  rw [<- HNN.out]
  unfold normC scaleRow
  rw [List.length_map,col_len]
 clear hN
 have HFIN:Hid (∀ (b:Bool) (W:World),(b=true->(∀ j,j<n->fnz (colOf K j)≠0)/\(low=3->∀ i j,i<j->j<n->N i≠N j))->Below w.heap.size w W->ColPost w (opsT p.toNat m.toNat (lOf p m mod)) K n (decide (low=3)) (.returned (.bool b)) W):=fun b W h1 h2 =>
  ⟨⟨b,rfl,fun hb => ⟨(h1 hb).1,fun h3 i j hij hj => by
    rw [HNN.out,HNN.out]
    exact (h1 hb).2 (of_decide_eq_true h3) i j hij hj⟩⟩,h2⟩
 go_wp2_with fail
 have HJ0:Hid (RelCjA w3 N (fun i=>fnz (colOf K i)≠0) n (low=3) (.slice none 0 0) (.int .i64 ((0:Nat):Int)) w3):=⟨0,[],by omega,rfl,⟨rfl,Nat.zero_le _,World.ownsRow_nil _ _ _ _,fun i hi=>by simp at hi,fun i hi=>by simp at hi⟩,fun i h=>absurd h (by omega),fun _ i i' _ h=>absurd h (by omega),Below.refl _ _⟩
 go_loopw [9,30] (fun v9 v30 wr=>RelCjA w3 N (fun i=>fnz (colOf K i)≠0) n (low=3) v9 v30 wr) (fun _ v30 _=>n-(intOf v30).toNat)
 case atStart=>exact HJ0.out
 case round =>
  obtain ⟨j,bs,hj,rfl,hlg,hzz,hdd,hb⟩:=hrel
  have HLG:=Lib.hid hlg
  have HB:=Lib.hid hb
  have HZZ:=Lib.hid hzz
  have HDD:=Lib.hid hdd
  clear hlg hb hzz hdd HJ0 y3
  by_cases hlt:j<n
  . have j0 : (0 : Int) <= (j : Int) := by omega
    have j1:(j:Int)<(n:Int):=by omega
    have hwj:IntKind.i64.wrap ((j:Int)+1)=(j:Int)+1:=IntWalk.i64_in _ (by omega)
    obtain ⟨R,hR⟩:∃ R:List (List Nat),(List.range j).map N=R:=⟨_,rfl⟩
    have hsl:R.length=j:=by rw [<- hR];simp
    have HSN:Hid ((List.range (j+1)).map N=R++[N j]):=by show _=_;rw [List.range_succ,List.map_append,hR];rfl
    have HRI:Hid (∀ i,i<j->R.getD i []=N i):=fun i hi=>by rw [<- hR];simp [List.getD,hi]
    have HRM:Hid (∀ r∈R,r.length=K.length):=fun r hr=>by
     rw [<- hR] at hr
     obtain ⟨i,_,rfl⟩:=List.mem_map.1 hr
     exact HNL.out i
    rw [hR] at HLG
    obtain ⟨VO,co,e9,_⟩:=qbO HLG.out.out
    rw [hsl] at e9
    subst e9
    clear hR
    obtain ⟨i00,hi',hz0',hz1',hz2'⟩:=qaG infoInts
    have HI':=Lib.hid hi'
    have HZ0':=Lib.hid hz0'
    have HZ1':=Lib.hid hz1'
    have HZ2':=Lib.hid hz2'
    clear hi' hz0' hz1' hz2'
    have HSL:=Lib.hid hsl
    clear hsl
    go_upto_region 8 with fail
    have hba:Below wr.heap.size wr (wr.alloc (.cells #[.slice none 0 0] 23)):=(Below.refl _ _).alloc (Nat.le_refl _) _
    have HKa:Hid ((wr.alloc (.cells #[.slice none 0 0] 23)).heap[wr.heap.size]?=some (.cells [.slice none 0 0].toArray 23 (0,0))):=heap_alloc_new _ _
    have hsa:wr.heap.size<(wr.alloc (.cells #[.slice none 0 0] 23)).heap.size:=by simp
    have HBO:Hid (∀ W,Below wr.heap.size (wr.alloc (.cells #[.slice none 0 0] 23)) W->Below wr.heap.size wr W):=fun W hW=>hba.trans hW
    have HLO:=Lib.hid HLG.out
    have hbc:w3.heap.size<=wr.heap.size:=HB.out.size
    have HBa:=Lib.hid (HB.out.trans (hba.mono hbc))
    clear hba HLG HB
    generalize wr.alloc (.cells #[.slice none 0 0] 23)=wa at *
    generalize hbce:wr.heap.size=bc at HKa hsa hbc HBO ⊢
    have HSO:=Lib.hid hbce
    clear hbce
    have y4:wa.cell? ⟨Bd,4,none⟩=some (.slice A' K.length c'):=(HBa.out.cell (p:=⟨Bd,4,none⟩) hs3).trans (cell_of_row _ _ 4 _ _ _ HK3.out)
    have HRw:Hid (RowsAt wa w3.heap.size A' (nzs K)):=HR3.out.rowsAt.keep HBa.out
    obtain ⟨col,hcol⟩:∃ col,colOf K j=col:=⟨_,rfl⟩
    have hcl:col.length=K.length:=by rw [<- hcol];exact col_len K j
    have HCOL:Hid (colOf K j=col):=hcol
    have HCQ:Hid (∀ x∈col,x<p.toNat ^ m.toNat):=by rw [<- hcol];exact col_lt (by have:=(Al.fld_of HFT.out).q1;omega) (fun r hr=>(HKG.out r hr).2) j
    have HCI:Hid (∀ k,k<K.length->col.take (k+1)=col.take k++[(K.getD k []).getD j 0]):=fun k hk=>by
     rw [List.take_succ_eq_append_getElem (by omega)]
     have:col[k]'(by omega)=(K.getD k []).getD j 0:=by
      have h1:col.getD k 0=(K.getD k []).getD j 0:=by
       rw [<- hcol]
       simp [colOf,List.getD,hk]
      rw [<- h1]
      simp [List.getD,hcl,hk]
     rw [this]
    clear hcol
    have HK0:Hid (RelCkA wa bc col (.int .i64 ((0:Nat):Int)) wa):=⟨0,.slice none 0 0,by omega,rfl,Num.nil _ _,HKa.out,Below.refl _ _,Nat.le_refl _⟩
    go_wp2_with fail
    clear y4
    go_loopw [36] (fun v36 wr=>RelCkA wa bc col v36 wr) (fun v36 _=>K.length-(intOf v36).toNat)
    case atStart=>exact HK0.out
    case round =>
     obtain ⟨k,v,hk,rfl,hnum,hcell,hb,hsz⟩:=hrel
     have HN:=Lib.hid hnum
     have HC:=Lib.hid hcell
     have HB:=Lib.hid hb
     clear hnum hcell hb HK0 HKa
     rw [hcl] at hk
     by_cases hlk:k<K.length
     . have k0 : (0 : Int) <= (k : Int) := by omega
       have k1:(k:Int)<(K.length:Int):=by omega
       have hwk:IntKind.i64.wrap ((k:Int)+1)=(k:Int)+1:=IntWalk.i64_in _ (by omega)
       have hrI:(nzs K).getD k []=nz (K.getD k []):=by simp [nzs,List.getD,hlk]
       have hrl:(K.getD k []).length=n:=by
        have e:K.getD k []=K[k]:=by simp [List.getD,hlk]
        rw [e]
        exact (HKG.out _ (List.getElem_mem hlk)).1
       obtain ⟨bR,oR,Ai,ci,rfl,hbR,hcr,hir⟩:=(HRw.out.keep (HB.out.mono hbc)).at_ (i:=k) (by rw [qbC];exact hlk)
       rw [hrI] at hcr hir
       rw [qaB,hrl] at hcr
       obtain ⟨bi,oi,rfl,hbi,hce⟩:=hir.at_ (k:=j) (by rw [qaB,hrl];exact hlt)
       rw [qaF] at hce
       have HST:=Lib.hid (HCI.out k hlk)
       clear hrI hrl hir
       generalize (K.getD k []).getD j 0=x at *
       go_upto_region 11 with fail
       have HSD:Hid (CkS bc v bi (oi+j) x wr.drew):=⟨HC.out,hce⟩
       have HND:Hid (Num wr.drew wa.heap.size v (col.take k)):=HN.out.grow (Below.refl _ wr).drew
       have HBD:Hid (Below bc wa wr.drew):=HB.out.drew
       have hszd:wa.heap.size<=wr.drew.heap.size:=hsz
       have htl:(col.take k).length<=1000:=by rw [List.length_take];omega
       refine qaX 7 7 (CkS bc v bi (oi+j) x) [(0,0),(1,1),(1,2),(1,3),(0,4),(2,5),(2,6)] default (by kernel_rfl) (by kernel_rfl) (fun _ _ d _ _ h=>by cases d <;> exact h) HSD.out ?_
       generalize wr.drew=Wd at *
       clear HN HC HB hsz hcr hce
       simp only [List.map_cons,List.map_nil,List.getD_cons_zero,List.getD_cons_succ]
       apply qaZ rfl
       . intro V hV
         have y:V.cell? ⟨bc,0,none⟩=some v:=cell_of_row _ _ 0 _ _ _ hV.1
         go_simp
         rfl
       go_simp
       iterate 3
        apply qaR rfl
        . intro V
          go_simp
          rfl
        go_simp
       apply qaZ rfl
       . intro V hV
         have y:=hV.2
         go_simp
         rfl
       go_simp
       have hb5:Below Wd.heap.size Wd (Wd.alloc (.cells #[.int .i64 (x:Int)] 3)):=(Below.refl _ _).alloc (Nat.le_refl _) _
       have HS5:Hid (CkS bc v bi (oi+j) x (Wd.alloc (.cells #[.int .i64 (x:Int)] 3))):=⟨(hb5.block bc (by omega)).trans HSD.out.1,(hb5.cell (p:=⟨bi,oi+j,none⟩) (by show bi<Wd.heap.size;omega)).trans HSD.out.2⟩
       have HN5:=Lib.hid (HND.out.grow hb5)
       have HB5:=Lib.hid (HBD.out.trans (hb5.mono (by omega)))
       have HK5:Hid ((Wd.alloc (.cells #[.int .i64 (x:Int)] 3)).heap[Wd.heap.size]?=some (.cells #[.int .i64 (x:Int)] 3 (0,0))):=heap_alloc_new _ _
       have hs5:wa.heap.size<=(Wd.alloc (.cells #[.int .i64 (x:Int)] 3)).heap.size:=Nat.le_trans hszd hb5.size
       apply qdJ rfl (v:=.slice (some ⟨Wd.heap.size,0,none⟩) 1 1) (w':=Wd.alloc (.cells #[.int .i64 (x:Int)] 3))
       . go_simp
       . exact HS5.out
       go_simp
       generalize Wd.heap.size=nb at *
       generalize Wd.alloc (.cells #[.int .i64 (x:Int)] 3)=W5 at *
       obtain ⟨v',w6,hrun,hn6,hg6⟩:=app_int x nb HN5.out hs5 htl HK5.out
       have hb6:Below wa.heap.size W5 w6:=(Below.refl _ _).grown hg6 hs5 (fun i hi=>(World.ownsRow.lt HN5.out i hi).1)
       have HS6:Hid (CkS bc v bi (oi+j) x w6):=⟨(hb6.block bc hsa).trans HS5.out.1,(hb6.cell (p:=⟨bi,oi+j,none⟩) (by show bi<wa.heap.size;omega)).trans HS5.out.2⟩
       have HN6:=Lib.hid hn6
       rw [<- HST.out] at HN6
       have HB6:=Lib.hid (HB5.out.trans (hb6.mono (Nat.le_of_lt hsa)))
       have hs6:wa.heap.size<=w6.heap.size:=Nat.le_trans hs5 hb6.size
       have hl6:(col.take (k+1)).length=k+1:=by rw [List.length_take,hcl];omega
       obtain ⟨VA,ck,e6⟩:=HN6.out.slice
       rw [hl6] at e6
       subst e6
       clear hl6
       refine qdJ rfl (qeI (.tmp 40) (.tmp 45) 23 rfl rfl rfl hrun) HS6.out ?_
       go_simp
       clear hrun hn6 hg6 hb6 hb5 HS5 HN5 HB5 HK5 HSD HND HBD
       refine qbZ ?_
       show wpList _ _ _ _ _ _
       have yb:w6.cell? ⟨bc,0,none⟩=some v:=cell_of_row _ _ 0 _ _ _ HS6.out.1
       have fb:w6.frozen? ⟨bc,0,none⟩=false:=by simp [World.frozen?,HS6.out.1]
       have HK7:=Lib.hid (qaT HS6.out.1 0 (.slice VA (k+1) ck))
       have HN7:Hid (Num (w6.setCell ⟨bc,0,none⟩ (.slice VA (k+1) ck)) wa.heap.size (.slice VA (k+1) ck) (col.take (k+1))):=World.ownsRow.kept HN6.out (qbQ w6 ⟨bc,0,none⟩ _) (.inr (fun e=>by have:=(World.ownsRow.lt HN6.out bc e).1;omega))
       have HB7:=Lib.hid (HB6.out.setCell (p:=⟨bc,0,none⟩) (Nat.le_refl _) (.slice VA (k+1) ck))
       have hs7:wa.heap.size<=(w6.setCell ⟨bc,0,none⟩ (.slice VA (k+1) ck)).heap.size:=by simpa using hs6
       go_wp2_with fail
       go_roundw
       case rel=>exact ⟨k+1,_,by omega,by go_num,HN7.out,HK7.out,HB7.out,hs7⟩
       case measure=>first | (simp [intOf];done) | (simp [intOf];omega)
     . obtain rfl : K.length = k := by omega
       rw [show col.take K.length=col by rw [<- hcl,List.take_length]] at HN
       obtain ⟨VA,ck,ev⟩:=HN.out.slice
       rw [hcl] at ev
       subst ev
       have HUP:Hid (IntsAt wr wr.heap.size VA (nz col)):=by
        have h:=HN.out
        unfold Num at h
        rw [hcl] at h
        exact (qcQ h hcl).ints
       have HIX:=Lib.hid (indexnz_c 100 columns1_c (enters_of Tryz.func100 (by kernel_rfl) rfl) col VA ck wr HUP.out (by omega))
       rw [hcl] at HIX
       have yc:wr.cell? ⟨bc,0,none⟩=some (.slice VA K.length ck):=cell_of_row _ _ 0 _ _ _ HC.out
       rcases nzIx_fnz col 0 with ⟨hf0,hix⟩ | ⟨pp,hp2,hix,hpv,hf0⟩
       . rw [hix] at HIX
         have HBf:=Lib.hid (HX3.out.below.trans ((HBa.out.trans (HB.out.mono hbc)).mono HX3.out.below.size))
         clear hf0 hix HN
         go_wp2_with fail
         refine HIX.out.mono ?_
         rintro e w' ⟨rfl,rfl⟩
         go_wp2_with fail
         go_ret
         exact HFIN.out false _ (fun h=>by cases h) HBf.out
       rw [hix,Nat.zero_add] at HIX
       clear hix
       obtain ⟨bv,ov,rfl,hbv,hcv⟩:=HUP.out.at_ (k:=pp) (by rw [qaB];exact hp2)
       rw [qaF,hpv] at hcv
       rw [hcl] at hp2
       have p0:(0:Int)<=(pp:Int):=by omega
       have p1:(pp:Int)<(K.length:Int):=by omega
       have p3:¬ (pp:Int)<0:=by omega
       have HF0:Hid (fnz (colOf K j)≠0):=by show _≠_;rw [HCOL.out];exact hf0
       have hfq:=fnz_lt (by have:=(Al.fld_of HFT.out).q1;omega) col HCQ.out
       have HBw:=Lib.hid (HBa.out.trans (HB.out.mono hbc))
       have HGw:=Lib.hid ((HGF.out.keep HBw.out).more HBw.out.size)
       have HIV:=Lib.hid (inv_c (fnz col) gb p.toNat m.toNat wr.heap.size (mdOf m mod) (lOf p m mod) wr HFT.out HGw.out hfq hf0)
       have HIQ:Hid (invT (lOf p m mod) (logL (lOf p m mod) (p.toNat ^ m.toNat)) (p.toNat ^ m.toNat) (fnz col)<p.toNat ^ m.toNat):=(Al.fld_of HFT.out).invL _ hfq hf0
       have HSR:Hid (scaleRow (opsT p.toNat m.toNat (lOf p m mod)) (invT (lOf p m mod) (logL (lOf p m mod) (p.toNat ^ m.toNat)) (p.toNat ^ m.toNat) (fnz col)) col=N j):=by
        show _=_
        rw [<- HNN.out,HCOL.out]
        rfl
       clear hpv HN hf0 hfq
       generalize invT (lOf p m mod) (logL (lOf p m mod) (p.toNat ^ m.toNat)) (p.toNat ^ m.toNat) (fnz col)=iv at *
       generalize fnz col=fz at *
       go_wp2_with fail
       refine HIX.out.mono ?_
       rintro e w' ⟨rfl,rfl⟩
       clear HIX
       go_wp2_with fail
       refine HIV.out.mono ?_
       rintro e w' ⟨rfl,n1,rfl⟩
       clear HIV hcv
       have yc2:(wr.drewN n1).cell? ⟨bc,0,none⟩=some (.slice (some ⟨bv,ov,none⟩) K.length ck):=yc
       have HSC:=Lib.hid (scale_c iv gb p.toNat m.toNat (mdOf m mod) (lOf p m mod) col (some ⟨bv,ov,none⟩) ck (wr.drewN n1) HFT.out (HGw.out.keep (qaA (Below.refl _ _) n1)) HIQ.out HCQ.out (HUP.out.keep (qaA (Below.refl _ _) n1)) (by omega))
       rw [HSR.out,hcl] at HSC
       have HKn:Hid ((wr.drewN n1).heap[bc]?=some (.cells [.slice (some ⟨bv,ov,none⟩) K.length ck].toArray 23 (0,0))):=HC.out
       have HBn:Hid (Below bc wa (wr.drewN n1)):=qaA HB.out n1
       have hbn:bc<(wr.drewN n1).heap.size:=Nat.lt_of_lt_of_le hsa hsz
       clear HUP HGw HBw HC HB hsz
       generalize wr.drewN n1=wn at *
       go_wp2_with fail
       refine HSC.out.mono ?_
       rintro e w4 ⟨rfl,hr4,hb4⟩
       have HK4:=Lib.hid ((hb4.block bc hbn).trans HKn.out)
       have HR4:=Lib.hid hr4
       have HB4:=Lib.hid (HBn.out.trans (hb4.mono (Nat.le_of_lt hbn)))
       have hs4:=HR4.out.lt.2
       clear hr4 hb4 HSC HKn HBn yc yc2
       generalize wn.heap.size=gs at *
       clear wn
       have y5:w4.cell? ⟨bc,0,none⟩=some (.slice (some ⟨bv,ov,none⟩) K.length ck):=cell_of_row _ _ 0 _ _ _ HK4.out
       have f5:w4.frozen? ⟨bc,0,none⟩=false:=by simp [World.frozen?,HK4.out]
       go_upto_region 18 with fail
       have HK5:=Lib.hid (qaT HK4.out 0 (.slice (some ⟨gs,0,none⟩) K.length K.length))
       have HR5:=Lib.hid (HR4.out.far (p:=⟨bc,0,none⟩) (by show gs≠bc;omega) (.slice (some ⟨gs,0,none⟩) K.length K.length))
       have HB5:=Lib.hid (HB4.out.setCell (p:=⟨bc,0,none⟩) (Nat.le_refl _) (.slice (some ⟨gs,0,none⟩) K.length K.length))
       clear y5 f5 HK4 HR4 HB4 hs4
       generalize w4.setCell ⟨bc,0,none⟩ (.slice (some ⟨gs,0,none⟩) K.length K.length)=w5 at *
       clear w4
       have HB5o:Hid (∀ W,Below bc w5 W->LGrid W w3.heap.size (.slice VO j co) R bs R.length):=fun W hW=>HLO.out.grow (by rw [HSO.out];exact HBO.out W (HB5.out.trans hW))
       have hs5:w3.heap.size<=w5.heap.size:=Nat.le_trans HBa.out.size HB5.out.size
       have hgs:=HR5.out.lt
       by_cases hl3:low=3
       . have hRA : RowsAt w5 w5.heap.size VO (nzs R) := by
          have h:=HB5o.out w5 (Below.refl _ _)
          rw [<- HSL.out] at h
          exact h.up.rowsAt
         have HCF:=Lib.hid (containsfar_any (nzs R) (nz (N j)) VO (some ⟨gs,0,none⟩) co K.length bc w5 hRA (by rw [qaB,HNL.out];exact cell_of_row _ _ 0 _ _ _ HK5.out) (HR5.out.ints HR5.out.lt.2) (by rw [qbC,HSL.out];omega) (fun o ho=>by
          obtain ⟨r,hr,rfl⟩:=List.mem_map.1 ho
          rw [qaB,HRM.out r hr]
          omega))
         rw [qbC,HSL.out] at HCF
         clear hRA
         have hlb:decide (low=3)=true:=decide_eq_true hl3
         have hlc:(low==3)=true:=beq_iff_eq.2 hl3
         have HL3:Hid (low=3):=hl3
         clear hl3
         go_wp2_with fail
         refine HCF.out.mono ?_
         rintro e w' ⟨⟨bb,rfl,hbb⟩,n2,rfl⟩
         have HBBB:=Lib.hid hbb
         clear HCF hbb
         cases bb
         rotate_left
         . have HBf := Lib.hid (HX3.out.below.trans ((HBa.out.trans ((HB5.out.trans (qaA (Below.refl _ _) n2)).mono hbc)).mono HX3.out.below.size))
           clear HB5 HB5o
           go_wp2_with fail
           go_ret
           exact HFIN.out false _ (fun h=>by cases h) HBf.out
         have HNE:Hid (low=3->∀ i,i<j->N i≠N j):=fun _ i hi e=>by
          have h1:∀ i,i<j->(nzs R).getD i []≠nz (N j):=by
           have:=HBBB.out
           first
            | exact this rfl
            | exact this trivial
            | exact this
          refine h1 i hi ?_
          have h2:(nzs R).getD i []=nz (R.getD i []):=by simp [nzs,List.getD,HSL.out,hi]
          rw [h2,HRI.out i hi,e]
         clear HBBB
         have yc:(w5.drewN n2).cell? ⟨bc,0,none⟩=some (.slice (some ⟨gs,0,none⟩) K.length K.length):=cell_of_row _ _ 0 _ _ _ HK5.out
         have HBd:Hid (Below bc w5 (w5.drewN n2)):=qaA (Below.refl _ _) n2
         have HR6:Hid (Row (w5.drewN n2) bc gs K.length (nz ((R++[N j]).getD R.length []))):=by
          show Row _ _ _ _ _
          rw [qbB R (N j) []]
          exact (HR5.out.below (qaA (Below.refl w5.heap.size w5) n2) hgs.2).base (by omega)
         have HB6:Hid (Below bc wa (w5.drewN n2)):=HB5.out.trans HBd.out
         have HL6:=Lib.hid ((HB5o.out _ HBd.out).wide (N j))
         have hs6:w3.heap.size<=(w5.drewN n2).heap.size:=hs5
         have hbs6:bc<(w5.drewN n2).heap.size:=Nat.lt_of_le_of_lt (by omega) hgs.2
         have hg2:(R++[N j]).getD R.length []=N j:=qbB R (N j) []
         clear HB5 HK5 HR5 HBd HB5o
         generalize w5.drewN n2=w6 at *
         have HOW:Hid ((w6.alloc (.cells #[.slice (some ⟨gs,0,none⟩) K.length K.length] 23)).ownsRow w3.heap.size 23 1 (.slice VO j co) j ((List.range j).map (hdr (R++[N j]) bs))):=by
          have h:=HL6.out.out
          rw [HSL.out] at h
          exact World.ownsRow.alloc h _
         go_wp2_with (at_builtin;refine wpList_append_own_at _ rfl (.tmp 72) (.tmp 74) 30 rfl w3.heap.size 23 i00 _ 1 24 Tryz.underlying30 HI'.out HZ0'.out HZ1'.out HZ2'.out rfl (by decide) (.slice VO j co) j ((List.range j).map (hdr (R++[N j]) bs)) rfl HOW.out ⟨w6.heap.size,0,none⟩ 1 1 [.slice (some ⟨gs,0,none⟩) K.length K.length] rfl rfl ?c1 ?c2 ?c3 ?c4 ?c5 ?_)
         try case c1=>exact World.news_of_block (cs:=#[.slice (some ⟨gs,0,none⟩) K.length K.length]) (t:=23) (fr:=(0,0)) (heap_alloc_new w6 _)
         case c2=>first | rfl | (intro u hu;simp at hu;subst hu;rfl)
         case c3=>unfold maxLen;omega
         case c4=>omega
         case c5=>first | omega | (simp;omega) | assumption
         intro v' w7 hown' hgw _ hat
         have HLW:=Lib.hid (HLO.out.wide (N j))
         have hlow:∀ i,(Value.slice VO j co).ownBlock=some i->w3.heap.size<=i:=fun i hi=>(World.ownsRow.lt HLO.out.out i hi).1
         have HX7:Hid (LGrid w7 w3.heap.size v' (R++[N j]) (bs++[(gs,K.length)]) (R.length+1)):=by
          refine HLW.out.step (by simp) (by rw [HSO.out];exact hbc) (by rw [HSO.out];exact HBO.out _ HB6.out) (by rw [HSO.out];exact HR6.out) ?_ hgw (by simpa using hat)
          rw [hg2,HNL.out,HSL.out]
          exact hown'
         have HB7:Hid (Below w3.heap.size w3 w7):=((HBa.out.trans (HB6.out.mono hbc)).alloc hs6 _).grown hgw (by simp;omega) (fun i hi=>hlow i hi)
         clear hown' hgw hat HOW HL6 HB6 HR6 hlow HLW
         go_wp2_with fail
         go_roundw
         case rel=>exact ⟨j+1,bs++[(gs,K.length)],by omega,by go_num,(by rw [HSN.out,List.length_append];exact HX7.out),(fun i hi=>by
          rcases Nat.lt_succ_iff_lt_or_eq.1 hi with h | rfl
          . exact HZZ.out i h
          . show fnz (colOf K i) ≠ 0
            exact HF0.out),(fun h3 i i' hii hi=>by
          rcases Nat.lt_succ_iff_lt_or_eq.1 hi with h | rfl
          . exact HDD.out h3 i i' hii h
          . exact HNE.out h3 i hii),HB7.out⟩
         case measure=>first | (simp [intOf];done) | (simp [intOf];omega)
       . have hlb : decide (low = 3) = false := decide_eq_false hl3
         have hlc:(low==3)=false:=beq_false_of_ne hl3
         have HNE:Hid (low=3->∀ i,i<j->N i≠N j):=fun h=>absurd h hl3
         clear hl3
         have e0:w5=w5.drewN 0:=rfl
         obtain ⟨n2,hn2e⟩:∃ n2,n2=0:=⟨0,rfl⟩
         have e1:w5.drewN n2=w5:=by rw [hn2e];rfl
         clear e0 hn2e
         rw [<- e1]
         clear e1
         have yc:(w5.drewN n2).cell? ⟨bc,0,none⟩=some (.slice (some ⟨gs,0,none⟩) K.length K.length):=cell_of_row _ _ 0 _ _ _ HK5.out
         have HBd:Hid (Below bc w5 (w5.drewN n2)):=qaA (Below.refl _ _) n2
         have HR6:Hid (Row (w5.drewN n2) bc gs K.length (nz ((R++[N j]).getD R.length []))):=by
          show Row _ _ _ _ _
          rw [qbB R (N j) []]
          exact (HR5.out.below (qaA (Below.refl w5.heap.size w5) n2) hgs.2).base (by omega)
         have HB6:Hid (Below bc wa (w5.drewN n2)):=HB5.out.trans HBd.out
         have HL6:=Lib.hid ((HB5o.out _ HBd.out).wide (N j))
         have hs6:w3.heap.size<=(w5.drewN n2).heap.size:=hs5
         have hbs6:bc<(w5.drewN n2).heap.size:=Nat.lt_of_le_of_lt (by omega) hgs.2
         have hg2:(R++[N j]).getD R.length []=N j:=qbB R (N j) []
         clear HB5 HK5 HR5 HBd HB5o
         generalize w5.drewN n2=w6 at *
         have HOW:Hid ((w6.alloc (.cells #[.slice (some ⟨gs,0,none⟩) K.length K.length] 23)).ownsRow w3.heap.size 23 1 (.slice VO j co) j ((List.range j).map (hdr (R++[N j]) bs))):=by
          have h:=HL6.out.out
          rw [HSL.out] at h
          exact World.ownsRow.alloc h _
         go_wp2_with (at_builtin;refine wpList_append_own_at _ rfl (.tmp 72) (.tmp 74) 30 rfl w3.heap.size 23 i00 _ 1 24 Tryz.underlying30 HI'.out HZ0'.out HZ1'.out HZ2'.out rfl (by decide) (.slice VO j co) j ((List.range j).map (hdr (R++[N j]) bs)) rfl HOW.out ⟨w6.heap.size,0,none⟩ 1 1 [.slice (some ⟨gs,0,none⟩) K.length K.length] rfl rfl ?c1 ?c2 ?c3 ?c4 ?c5 ?_)
         try case c1=>exact World.news_of_block (cs:=#[.slice (some ⟨gs,0,none⟩) K.length K.length]) (t:=23) (fr:=(0,0)) (heap_alloc_new w6 _)
         case c2=>first | rfl | (intro u hu;simp at hu;subst hu;rfl)
         case c3=>unfold maxLen;omega
         case c4=>omega
         case c5=>first | omega | (simp;omega) | assumption
         intro v' w7 hown' hgw _ hat
         have HLW:=Lib.hid (HLO.out.wide (N j))
         have hlow:∀ i,(Value.slice VO j co).ownBlock=some i->w3.heap.size<=i:=fun i hi=>(World.ownsRow.lt HLO.out.out i hi).1
         have HX7:Hid (LGrid w7 w3.heap.size v' (R++[N j]) (bs++[(gs,K.length)]) (R.length+1)):=by
          refine HLW.out.step (by simp) (by rw [HSO.out];exact hbc) (by rw [HSO.out];exact HBO.out _ HB6.out) (by rw [HSO.out];exact HR6.out) ?_ hgw (by simpa using hat)
          rw [hg2,HNL.out,HSL.out]
          exact hown'
         have HB7:Hid (Below w3.heap.size w3 w7):=((HBa.out.trans (HB6.out.mono hbc)).alloc hs6 _).grown hgw (by simp;omega) (fun i hi=>hlow i hi)
         clear hown' hgw hat HOW HL6 HB6 HR6 hlow HLW
         go_wp2_with fail
         go_roundw
         case rel=>exact ⟨j+1,bs++[(gs,K.length)],by omega,by go_num,(by rw [HSN.out,List.length_append];exact HX7.out),(fun i hi=>by
          rcases Nat.lt_succ_iff_lt_or_eq.1 hi with h | rfl
          . exact HZZ.out i h
          . show fnz (colOf K i) ≠ 0
            exact HF0.out),(fun h3 i i' hii hi=>by
          rcases Nat.lt_succ_iff_lt_or_eq.1 hi with h | rfl
          . exact HDD.out h3 i i' hii h
          . exact HNE.out h3 i hii),HB7.out⟩
         case measure=>first | (simp [intOf];done) | (simp [intOf];omega)
  . obtain rfl : n = j := by omega
    go_wp2_with fail
    go_ret
    exact HFIN.out true _ (fun _=>⟨HZZ.out,HDD.out⟩) (HX3.out.below.trans (HB.out.mono HX3.out.below.size))
end Go.Proofs.YtlmglaonldlanaaGreat
