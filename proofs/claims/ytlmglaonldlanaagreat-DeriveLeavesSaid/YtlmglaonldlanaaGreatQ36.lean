/-
 field.New, with the list of the modulus kept.
-/
import Derived.Test.YtlmglaonldlanaaGreatQ07
namespace Go.Proofs.YtlmglaonldlanaaGreat
open Go.RowKit Pln
def GFM (w:World) (B gb p m:Nat) (mod:List Int) (l lg:List Nat):Prop :=
 gb<B/\∃ (A3:Option Addr) (c3 ge ce gl cl:Nat),w.heap[gb]?=some (.cells #[.int .i64 p,.int .i64 m,.slice A3 mod.length c3,.int .i64 ((p ^ m:Nat):Int),.slice (some ⟨ge,0,none⟩) l.length ce,.slice (some ⟨gl,0,none⟩) lg.length cl] 171 (0,0)) /\
  IntsAt w B A3 mod/\IntsAt w B (some ⟨ge,0,none⟩) (nz l)/\IntsAt w B (some ⟨gl,0,none⟩) (nz lg)
theorem GFM.gf {w:World} {B gb p m:Nat} {mod:List Int} {l lg:List Nat} (h:GFM w B gb p m mod l lg):GFAt w B gb p m l lg:=by
 obtain ⟨h0,A3,c3,ge,ce,gl,cl,h1,_,h2,h3⟩:=h
 exact ⟨h0,A3,_,c3,ge,ce,gl,cl,h1,h2,h3⟩
theorem GFM.keep {w w':World} {B gb p m:Nat} {mod:List Int} {l lg:List Nat} (h:GFM w B gb p m mod l lg) (hb:Below B w w'):GFM w' B gb p m mod l lg:=by
 obtain ⟨h0,A3,c3,ge,ce,gl,cl,h1,h4,h2,h3⟩:=h
 exact ⟨h0,A3,c3,ge,ce,gl,cl,(hb.block gb h0).trans h1,h4.keep hb,h2.keep hb,h3.keep hb⟩
theorem GFM.more {w:World} {B B' gb p m:Nat} {mod:List Int} {l lg:List Nat} (h:GFM w B gb p m mod l lg) (hB:B<=B'):GFM w B' gb p m mod l lg:=by
 obtain ⟨h0,A3,c3,ge,ce,gl,cl,h1,h4,h2,h3⟩:=h
 exact ⟨by omega,A3,c3,ge,ce,gl,cl,h1,h4.more hB,h2.more hB,h3.more hB⟩
def CutM (w:World) (p m:Int) (mod:List Int) (q:Nat) (ge k ce:Nat) (l:List Nat) (v6:Value) (wx:World):Prop :=
 ∃ (gb ga ca gl:Nat),v6=.pointer (some ⟨gb,0,none⟩)/\w.heap.size<gb/\gb≠gl/\ge≠gl/\ga≠gl /\
  wx.heap[gb]?=some (.cells #[.int .i64 p,.int .i64 m,.slice (some ⟨ga,0,none⟩) mod.length ca,.int .i64 (q:Int),.slice (some ⟨ge,0,none⟩) k ce,.slice (some ⟨gl,0,none⟩) q q] 171 (0,0)) /\
  Row wx w.heap.size ge ce (nz l)/\Row wx (w.heap.size+1) gl q (nz (List.replicate q 0))/\Row wx (w.heap.size+1) ga ca mod/\Below w.heap.size w wx
theorem CutM.drew {w:World} {p m:Int} {mod:List Int} {q ge k ce:Nat} {l:List Nat} {v:Value} {wx:World} (h:CutM w p m mod q ge k ce l v wx):CutM w p m mod q ge k ce l v wx.drew:=by
 obtain ⟨gb,ga,ca,gl,h1,h2,h3,h4,h5,h6,h7,h8,h9,h10⟩:=h
 exact ⟨gb,ga,ca,gl,h1,h2,h3,h4,h5,h6,h7,h8,h9,h10.drew⟩
def RelMd (w:World) (p m:Int) (mod:List Int) (q gb ge gl ce ga ca:Nat) (l:List Nat) (v39:Value) (wr:World):Prop :=
 ∃ n:Nat,n<=l.length/\v39=.int .i64 n /\
  wr.heap[gb]?=some (.cells #[.int .i64 p,.int .i64 m,.slice (some ⟨ga,0,none⟩) mod.length ca,.int .i64 (q:Int),.slice (some ⟨ge,0,none⟩) l.length ce,.slice (some ⟨gl,0,none⟩) q q] 171 (0,0)) /\
  Row wr w.heap.size ge ce (nz l)/\Row wr (w.heap.size+1) gl q (nz (logGo l (List.replicate q 0) n))/\Row wr (w.heap.size+1) ga ca mod/\Below w.heap.size w wr
theorem cutM_mk {w wz:World} {p m:Int} {mod:List Int} {nn q ge k ce gl ga ca:Nat} {l:List Nat} (hnn:mod.length=nn) (h3:Row wz (w.heap.size+1) ga ca mod) (hag:ga≠gl) (h1:Row wz w.heap.size ge ce (nz l)) (h2:Row wz (w.heap.size+1) gl q (nz (List.replicate q 0))) (hb:Below w.heap.size w wz) (hne:ge≠gl) (hlt:w.heap.size<wz.heap.size) :
 CutM w p m mod q ge k ce l (.pointer (some ⟨wz.heap.size,0,none⟩)) (wz.alloc (.cells #[.int .i64 p,.int .i64 m,.slice (some ⟨ga,0,none⟩) nn ca,.int .i64 (q:Int),.slice (some ⟨ge,0,none⟩) k ce,.slice (some ⟨gl,0,none⟩) q q] 171)) :=
 ⟨_,ga,ca,gl,rfl,hlt,by have:=h2.lt;omega,hne,hag,by rw [hnn];exact heap_alloc_new _ _,h1.alloc _,h2.alloc _,h3.alloc _,hb.alloc (Nat.le_of_lt hlt) _⟩
set_option maxHeartbeats 2000000 in
set_option maxRecDepth 100000 in
theorem fnew_any (p m:Int) (mod:List Int) (A:Option Addr) (c:Nat) (w:World) (hA:IntsAt w w.heap.size A mod) (hok:fieldOK p m mod=true) :
 Calls Tryz.prog 72 #[.agg #[.int .i64 p,.int .i64 m,.slice A mod.length c]] w fun e w'=>(∃ gb,e=.returned (.tuple #[.pointer (some ⟨gb,0,none⟩),.int .i64 0])/\w.heap.size<=gb /\
  GFM w' w'.heap.size gb p.toNat m.toNat mod (genM (mulM p.toNat m.toNat (mdOf m mod)) (p.toNat ^ m.toNat)) (logL (genM (mulM p.toNat m.toNat (mdOf m mod)) (p.toNat ^ m.toNat)) (p.toNat ^ m.toNat)))/\Below w.heap.size w w':=by
 have hsh:shapeM p m mod=true:=by unfold fieldOK at hok;rw [Bool.and_eq_true] at hok;exact hok.1
 have hgne:genM (mulM p.toNat m.toNat (mdOf m mod)) (p.toNat ^ m.toNat)≠[]:=by
  unfold fieldOK at hok
  rw [Bool.and_eq_true] at hok
  intro h
  rw [h] at hok
  simp at hok
 have hs:=qbJ hsh
 have hl8:mod.length<=8:=by
  by_cases hm:m=1
  . rw [hs.one hm];simp
  . rw [hs.len hm];exact hs.small.m2
 have HSH:=Lib.hid hs
 have HA:=Lib.hid hA
 have HMON:=Lib.hid (qaU (p:=p.toNat) (m:=m.toNat) (by have:=hs.small.p1;omega) hs.small.m1 (mdOf m mod))
 have HTAB:=Lib.hid (genM_tab HMON.out hgne)
 have hq2:=hs.small.q
 have hq1:=HMON.out.q1
 have HORD:=Lib.hid hs.ord
 have HCS:Hid (∀ W,w.heap.size<=W.heap.size->Below w.heap.size w W->Calls Tryz.prog 94 #[.agg #[.int .i64 p,.int .i64 m,.slice A mod.length c]] W fun e w'=>e=.returned (.bool true)/\Below W.heap.size W w') :=
  fun W h1 h2=>by
   have:=shape_c p m mod A c W ((hA.keep h2).more h1) (by omega)
   rw [hsh] at this
   exact this
 have HCG:Hid (∀ W,w.heap.size<=W.heap.size->Below w.heap.size w W->Calls Tryz.prog 95 #[.agg #[.int .i64 p,.int .i64 m,.slice A mod.length c],.int .i64 ((p.toNat ^ m.toNat:Nat):Int)] W fun e w'=>(∃ g c',e=.returned (.slice (some ⟨g,0,none⟩) (genM (mulM p.toNat m.toNat (mdOf m mod)) (p.toNat ^ m.toNat)).length c')/\Row w' W.heap.size g c' (nz (genM (mulM p.toNat m.toNat (mdOf m mod)) (p.toNat ^ m.toNat))))/\Below W.heap.size W w') :=
  fun W h1 h2=>by
   have:=qeF hs A c W ((hA.keep h2).more h1)
   rw [hs.ord] at this
   refine this.mono fun e w' ⟨⟨v,he,hv⟩,hb⟩=>?_
   rcases hv with ⟨h,_⟩ | ⟨_,g,c',rfl,hr⟩
   . exact absurd h hgne
   . rw [qaB] at he
     exact ⟨⟨g,c',he,hr⟩,hb⟩
 have HCO:Hid (∀ W:World,Calls Tryz.prog 96 #[.int .i64 p,.int .i64 m] W fun e w'=>e=.returned (.int .i64 ((p.toNat ^ m.toNat:Nat):Int))/\W=w'):=fun W=>by
  have:=qdU p m W
  rw [hs.ord] at this
  exact this
 have HP0:=Lib.hid hs.p0
 have HM0:=Lib.hid hs.m0
 clear hsh hgne hs hA hok HSH HORD
 generalize hge:genM (mulM p.toNat m.toNat (mdOf m mod)) (p.toNat ^ m.toNat)=l at *
 generalize hme:mulM p.toNat m.toNat (mdOf m mod)=mul at *
 generalize hqe:p.toNat ^ m.toNat=q at *
 have HQE:=Lib.hid hqe
 have hll:l.length=q-1:=HTAB.out.len
 have HLL:=Lib.hid hll
 clear hge hme hqe hll
 obtain ⟨i0,hi,hz0,hz1,hz2⟩:=qaG infoInt
 have HI:=Lib.hid hi
 have HZ0:=Lib.hid hz0
 have HZ1:=Lib.hid hz1
 have HZ2:=Lib.hid hz2
 have HB2:=Lib.hid (show i0.bytes*q<=281474976710656 by rw [hz2];omega)
 have HB3:=Lib.hid (show q<=maxLen by unfold maxLen;omega)
 clear hi hz0 hz1 hz2
 go_enter Tryz.func72,Tryz.ntmps72
 have HW0:Hid ((w.alloc (.cells #[.int .i64 p,.int .i64 m,.slice A mod.length c] 29)).heap.size=w.heap.size+1):=by show _=_;simp
 have HBLK:Hid ((w.alloc (.cells #[.int .i64 p,.int .i64 m,.slice A mod.length c] 29)).heap[w.heap.size]?=some (.cells [.int .i64 p,.int .i64 m,.slice A mod.length c].toArray 29 (0,0))):=heap_alloc_new _ _
 have HB0:Hid (Below w.heap.size w (w.alloc (.cells #[.int .i64 p,.int .i64 m,.slice A mod.length c] 29))):=(Below.refl _ _).alloc (Nat.le_refl _) _
 go_wp2_with fail
 generalize w.alloc (.cells #[.int .i64 p,.int .i64 m,.slice A mod.length c] 29)=W0 at *
 (with_reducible refine (HCS.out W0 (by have:=HW0.out;omega) HB0.out).mono ?_)
 rintro e w1 ⟨rfl,hb1⟩
 have hw1:w.heap.size<w1.heap.size:=by have:=HW0.out;have:=hb1.size;omega
 have HB1:=Lib.hid (HB0.out.trans (hb1.mono (by have:=HW0.out;omega)))
 have HK1:=Lib.hid ((hb1.block w.heap.size (by have:=HW0.out;omega)).trans HBLK.out)
 clear hb1 HB0 HBLK HW0
 clear W0
 have a0:w1.cell? ⟨w.heap.size,0,none⟩=some (.int .i64 p):=cell_of_row _ _ 0 _ _ _ HK1.out
 have a1:w1.cell? ⟨w.heap.size,1,none⟩=some (.int .i64 m):=cell_of_row _ _ 1 _ _ _ HK1.out
 have HRG:=Lib.hid (qaC HK1.out)
 go_wp2_with (first | (go_at_call 96;refine (HCO.out _).mono ?_;rintro e w' ⟨rfl,rfl⟩) | (refine wpList_load_mid rfl 29 (.tmp 1) rfl w.heap.size 0 rfl [.int .i64 p,.int .i64 m,.slice A mod.length c] _ HRG.out Tryz.underlying29 rfl fieldSize ?_))
 (with_reducible refine (HCG.out w1 (Nat.le_of_lt hw1) HB1.out).mono ?_)
 rintro e w2 ⟨⟨ge,ce,rfl,hrow⟩,hb2⟩
 have hw2:w.heap.size<w2.heap.size:=Nat.lt_of_lt_of_le hw1 hb2.size
 have HB2':=Lib.hid (HB1.out.trans (hb2.mono (Nat.le_of_lt hw1)))
 have HK2:=Lib.hid ((hb2.block w.heap.size hw1).trans HK1.out)
 have hgl:=hrow.lt
 have HRE:=Lib.hid (hrow.base (B':=w.heap.size) (by omega))
 clear hrow hb2 HB1 HK1 HRG a0 a1
 have HGE:Hid (w.heap.size<ge):=Nat.lt_of_lt_of_le hw1 hgl.1
 have HGE2:Hid (ge<w2.heap.size):=hgl.2
 clear hgl hw1
 clear w1
 have hen:∀ (W:World) (a:Option Addr) (n c n' c':Nat),(binOp .eql 23 (.slice a n c) (.slice none n' c')).run Tryz.prog W=.ok (.bool a.isNone) W:=fun W a n c n' c'=>Lib.run_eql_slice_nil W 23 3 a n c n' c' Tryz.underlying23
 go_upto_region 7 with fail
 clear hen
 have z0:w2.cell? ⟨w.heap.size,0,none⟩=some (.int .i64 p):=cell_of_row _ _ 0 _ _ _ HK2.out
 have z1:w2.cell? ⟨w.heap.size,1,none⟩=some (.int .i64 m):=cell_of_row _ _ 1 _ _ _ HK2.out
 have z2:w2.cell? ⟨w.heap.size,2,none⟩=some (.slice A mod.length c):=cell_of_row _ _ 2 _ _ _ HK2.out
 go_cut [6] (fun v6 wx=>CutM w p m mod q ge l.length ce l v6 wx)
 case first =>
  by_cases hmz:mod.length=0
  . have hlb : w.heap.size < w2.heap.size := hw2
    have HMZ:=Lib.hid hmz
    clear hmz
    have HZ0':=Lib.hid z0
    have HZ1':=Lib.hid z1
    have HZ2':=Lib.hid z2
    obtain ⟨zz,hzz⟩:∃ zz,zz=madeCells (Value.int .i64 0).cells (q*1):=⟨_,rfl⟩
    have HZZ:=Lib.hid hzz
    have hmk:∀ W:World,(Instr.makeSlice 23 (.int .i64 (q:Int)) (.int .i64 (q:Int))).run Tryz.prog W=.ok (.slice (some ⟨W.heap.size,0,none⟩) q q) (W.alloc (.cells zz 3)):=fun W=>by
     have:=run_make (P:=Tryz.prog) W 23 3 i0 (.int .i64 0) Tryz.underlying23 HI.out HZ0.out .i64 .i64 (q:Int) (q:Int) (by omega) (Int.le_refl _) (by rw [HZ2.out];omega) (by omega)
     rw [HZ1.out,Int.toNat_natCast,<- hzz] at this
     exact this
    clear hzz
    have HOE1:Hid ((w2.alloc (.cells #[] 3)).drew.ownsRow (w.heap.size+1) 3 1 (.slice (some ⟨w2.heap.size,0,none⟩) 0 0) 0 []):=World.ownsRow_made w2 #[] 0 hlb (by unfold maxLen;omega) rfl
    have HOE2:Hid (((w2.alloc (.cells #[] 3)).alloc (.cells zz 3)).drew.ownsRow (w.heap.size+1) 3 1 (.slice (some ⟨w2.heap.size,0,none⟩) 0 0) 0 []):=World.ownsRow.alloc (World.ownsRow_made w2 #[] 0 hlb (by unfold maxLen;omega) rfl) _
    have HOE3:Hid (((w2.alloc (.cells zz 3)).alloc (.cells #[] 3)).drew.ownsRow (w.heap.size+1) 3 1 (.slice (some ⟨w2.heap.size+1,0,none⟩) 0 0) 0 []):=by have h:=World.ownsRow_made (e:=3) (base:=w.heap.size+1) (size:=1) (w2.alloc (.cells zz 3)) #[] 0 (by simp;omega) (by unfold maxLen;omega) rfl;rw [show (w2.alloc (.cells zz 3)).heap.size=w2.heap.size+1 by simp] at h;exact h
    go_region_held3 (fun w'=>w'.cell? ⟨w.heap.size,0,none⟩=some (.int .i64 p)/\w'.cell? ⟨w.heap.size,1,none⟩=some (.int .i64 m)/\w'.cell? ⟨w.heap.size,2,none⟩=some (.slice A mod.length c))
     (first | (with_reducible exact ⟨cell3 HZ0'.out hlb _ _ _,cell3 HZ1'.out hlb _ _ _,cell3 HZ2'.out hlb _ _ _⟩) | go_keep)
     (first | (refine qbK rfl _ _ _ rfl (w.heap.size+1) 3 i0 1 Tryz.underlying23 HI.out (.slice (some ⟨w2.heap.size,0,none⟩) 0 0) 0 [] (by rfl) HOE1.out A mod.length c HMZ.out (by rfl) ?_) | (refine qbK rfl _ _ _ rfl (w.heap.size+1) 3 i0 1 Tryz.underlying23 HI.out (.slice (some ⟨w2.heap.size,0,none⟩) 0 0) 0 [] (by rfl) HOE2.out A mod.length c HMZ.out (by rfl) ?_) | (refine qbK rfl _ _ _ rfl (w.heap.size+1) 3 i0 1 Tryz.underlying23 HI.out (.slice (some ⟨w2.heap.size+1,0,none⟩) 0 0) 0 [] (by rfl) HOE3.out A mod.length c HMZ.out (by rfl) ?_))
    all_goals (clear hmk z0 z1 z2)
    all_goals (have hgew:=HGE2.out)
    all_goals
     have HXA:Hid (CutM w p m mod q ge l.length ce l (.pointer (some ⟨w2.heap.size+1+1,0,none⟩)) (((w2.alloc (.cells #[] 3)).alloc (.cells zz 3)).alloc (.cells #[.int .i64 p,.int .i64 m,.slice (some ⟨w2.heap.size,0,none⟩) 0 0,.int .i64 (q:Int),.slice (some ⟨ge,0,none⟩) l.length ce,.slice (some ⟨w2.heap.size+1,0,none⟩) q q] 171)).drew):=by
      have hz:=qfG (w2.alloc (.cells #[] 3)) (B:=w.heap.size+1) HZZ.out (by simp;omega) HB3.out
      rw [show (w2.alloc (.cells #[] 3)).heap.size=w2.heap.size+1 by simp] at hz
      have h:=cutM_mk (p:=p) (m:=m) (k:=l.length) (ca:=0) HMZ.out (show Row ((w2.alloc (.cells #[] 3)).alloc (.cells zz 3)) (w.heap.size+1) w2.heap.size 0 mod by rw [List.length_eq_zero_iff.1 HMZ.out];exact HOE2.out) (by omega) ((HRE.out.alloc (.cells #[] 3)).alloc (.cells zz 3)) hz ((HB2'.out.alloc (Nat.le_of_lt hlb) _).alloc (by simp;omega) _) (by omega) (by simp;omega)
      rw [show ((w2.alloc (.cells #[] 3)).alloc (.cells zz 3)).heap.size=w2.heap.size+1+1 by simp] at h
      exact h.drew
     have HXB:Hid (CutM w p m mod q ge l.length ce l (.pointer (some ⟨w2.heap.size+1+1,0,none⟩)) (((w2.alloc (.cells zz 3)).alloc (.cells #[] 3)).alloc (.cells #[.int .i64 p,.int .i64 m,.slice (some ⟨w2.heap.size+1,0,none⟩) 0 0,.int .i64 (q:Int),.slice (some ⟨ge,0,none⟩) l.length ce,.slice (some ⟨w2.heap.size,0,none⟩) q q] 171)).drew):=by
      have hz:=(qfG w2 (B:=w.heap.size+1) HZZ.out hlb HB3.out).alloc (.cells #[] 3)
      have h:=cutM_mk (p:=p) (m:=m) (k:=l.length) (ca:=0) HMZ.out (show Row ((w2.alloc (.cells zz 3)).alloc (.cells #[] 3)) (w.heap.size+1) (w2.heap.size+1) 0 mod by rw [List.length_eq_zero_iff.1 HMZ.out];exact HOE3.out) (by omega) ((HRE.out.alloc (.cells zz 3)).alloc (.cells #[] 3)) hz ((HB2'.out.alloc (Nat.le_of_lt hlb) _).alloc (by simp;omega) _) (by omega) (by simp;omega)
      rw [show ((w2.alloc (.cells zz 3)).alloc (.cells #[] 3)).heap.size=w2.heap.size+1+1 by simp] at h
      exact h.drew
     go_wp2_with fail
     go_meet
     first
      | exact HXA.out
      | exact HXB.out
  . obtain ⟨b,o,rfl,hbl,hca⟩ := (HA.out.keep HB2'.out) (by omega)
    have HCA:=Lib.hid hca
    clear hca
    have hlb:w.heap.size<w2.heap.size:=hw2
    obtain ⟨zz,hzz⟩:∃ zz,zz=madeCells (Value.int .i64 0).cells (q*1):=⟨_,rfl⟩
    have HZZ:=Lib.hid hzz
    have hmk:∀ W:World,(Instr.makeSlice 23 (.int .i64 (q:Int)) (.int .i64 (q:Int))).run Tryz.prog W=.ok (.slice (some ⟨W.heap.size,0,none⟩) q q) (W.alloc (.cells zz 3)):=fun W=>by
     have:=run_make (P:=Tryz.prog) W 23 3 i0 (.int .i64 0) Tryz.underlying23 HI.out HZ0.out .i64 .i64 (q:Int) (q:Int) (by omega) (Int.le_refl _) (by rw [HZ2.out];omega) (by omega)
     rw [HZ1.out,Int.toNat_natCast,<- hzz] at this
     exact this
    clear hzz
    have HBAS1:Hid (w.heap.size+1<=(w2.alloc (.cells #[] 3)).drew.heap.size):=by show _<=_;rw [show (w2.alloc (.cells #[] 3)).drew.heap.size=w2.heap.size+1 by simp];omega
    have HOE1:Hid ((w2.alloc (.cells #[] 3)).drew.ownsRow (w.heap.size+1) 3 1 (.slice (some ⟨w2.heap.size,0,none⟩) 0 0) 0 []):=World.ownsRow_made w2 #[] 0 hlb (by unfold maxLen;omega) rfl
    have HXB1:Hid (Below w.heap.size w (w2.alloc (.cells #[] 3)).drew):=(HB2'.out.alloc (Nat.le_of_lt hlb) _).drew
    have HNEW1:Hid (∀ (j:Nat) (u:Value),(mod.map (Value.int .i64))[j]?=some u->(w2.alloc (.cells #[] 3)).drew.cell? ((⟨b,o,none⟩:Addr).add j)=some u):=(HA.out.keep HXB1.out).news
    have HGEX1:Hid (Row (w2.alloc (.cells #[] 3)).drew w.heap.size ge ce (nz l)):=HRE.out.alloc _
    have HBAS2:Hid (w.heap.size+1<=((w2.alloc (.cells #[] 3)).alloc (.cells zz 3)).drew.heap.size):=by show _<=_;rw [show ((w2.alloc (.cells #[] 3)).alloc (.cells zz 3)).drew.heap.size=w2.heap.size+2 by simp];omega
    have HOE2:Hid (((w2.alloc (.cells #[] 3)).alloc (.cells zz 3)).drew.ownsRow (w.heap.size+1) 3 1 (.slice (some ⟨w2.heap.size,0,none⟩) 0 0) 0 []):=World.ownsRow.alloc (World.ownsRow_made w2 #[] 0 hlb (by unfold maxLen;omega) rfl) _
    have HXB2:Hid (Below w.heap.size w ((w2.alloc (.cells #[] 3)).alloc (.cells zz 3)).drew):=((HB2'.out.alloc (Nat.le_of_lt hlb) _).alloc (by simp;omega) _).drew
    have HNEW2:Hid (∀ (j:Nat) (u:Value),(mod.map (Value.int .i64))[j]?=some u->((w2.alloc (.cells #[] 3)).alloc (.cells zz 3)).drew.cell? ((⟨b,o,none⟩:Addr).add j)=some u):=(HA.out.keep HXB2.out).news
    have HGEX2:Hid (Row ((w2.alloc (.cells #[] 3)).alloc (.cells zz 3)).drew w.heap.size ge ce (nz l)):=(HRE.out.alloc _).alloc _
    have HBAS3:Hid (w.heap.size+1<=((w2.alloc (.cells zz 3)).alloc (.cells #[] 3)).drew.heap.size):=by show _<=_;rw [show ((w2.alloc (.cells zz 3)).alloc (.cells #[] 3)).drew.heap.size=w2.heap.size+2 by simp];omega
    have HOE3:Hid (((w2.alloc (.cells zz 3)).alloc (.cells #[] 3)).drew.ownsRow (w.heap.size+1) 3 1 (.slice (some ⟨w2.heap.size+1,0,none⟩) 0 0) 0 []):=by have h:=World.ownsRow_made (e:=3) (base:=w.heap.size+1) (size:=1) (w2.alloc (.cells zz 3)) #[] 0 (by simp;omega) (by unfold maxLen;omega) rfl;rw [show (w2.alloc (.cells zz 3)).heap.size=w2.heap.size+1 by simp] at h;exact h
    have HXB3:Hid (Below w.heap.size w ((w2.alloc (.cells zz 3)).alloc (.cells #[] 3)).drew):=((HB2'.out.alloc (Nat.le_of_lt hlb) _).alloc (by simp;omega) _).drew
    have HNEW3:Hid (∀ (j:Nat) (u:Value),(mod.map (Value.int .i64))[j]?=some u->((w2.alloc (.cells zz 3)).alloc (.cells #[] 3)).drew.cell? ((⟨b,o,none⟩:Addr).add j)=some u):=(HA.out.keep HXB3.out).news
    have HGEX3:Hid (Row ((w2.alloc (.cells zz 3)).alloc (.cells #[] 3)).drew w.heap.size ge ce (nz l)):=(HRE.out.alloc _).alloc _
    have HONE:Hid (∀ u∈mod.map (Value.int .i64),u.oneCell'=true):=fun u hu=>by obtain ⟨z,_,rfl⟩:=List.mem_map.1 hu;rfl
    have HRZ2:Hid (Row ((w2.alloc (.cells #[] 3)).alloc (.cells zz 3)).drew (w.heap.size+1) (w2.heap.size+1) q (nz (List.replicate q 0))):=by
     have h:=qfG (w2.alloc (.cells #[] 3)) (B:=w.heap.size+1) HZZ.out (by simp;omega) HB3.out
     rw [show (w2.alloc (.cells #[] 3)).heap.size=w2.heap.size+1 by simp] at h
     exact h
    have HRZ3:Hid (Row ((w2.alloc (.cells zz 3)).alloc (.cells #[] 3)).drew (w.heap.size+1) w2.heap.size q (nz (List.replicate q 0))):=(qfG w2 (B:=w.heap.size+1) HZZ.out hlb HB3.out).alloc _
    have hgew:=HGE2.out
    go_region_held3 (fun w'=>w'.cell? ⟨w.heap.size,0,none⟩=some (.int .i64 p)/\w'.cell? ⟨w.heap.size,1,none⟩=some (.int .i64 m)/\w'.cell? ⟨w.heap.size,2,none⟩=some (.slice (some ⟨b,o,none⟩) mod.length c))
     (first | go_keep | (go_split_ands;exact ⟨(hgm.cell_far ⟨w.heap.size,0,none⟩ (by first | assumption | (simp;omega)) (by simp [Value.ownBlock] <;> omega)).trans (by assumption),(hgm.cell_far ⟨w.heap.size,1,none⟩ (by first | assumption | (simp;omega)) (by simp [Value.ownBlock] <;> omega)).trans (by assumption),(hgm.cell_far ⟨w.heap.size,2,none⟩ (by first | assumption | (simp;omega)) (by simp [Value.ownBlock] <;> omega)).trans (by assumption)⟩))
     (first | (refine step_append_lies _ (by rfl) _ _ _ (by rfl) (w.heap.size+1) 3 i0 _ 1 8 Tryz.underlying23 HI.out HZ0.out HZ1.out HZ2.out rfl (by omega) (.slice (some ⟨w2.heap.size,0,none⟩) 0 0) 0 [] (by rfl) HOE1.out ⟨b,o,none⟩ mod.length c (mod.map (Value.int .i64)) (by rfl) (by simp) HNEW1.out HONE.out (by omega) (by unfold maxLen;omega) (by omega) HBAS1.out _ rfl ?_;intro ga ca wa hoa hgm hat hlt;have hwa:w.heap.size<wa.heap.size:=Nat.lt_of_lt_of_le HBAS1.out hgm.size;have HE:Hid (Row wa w.heap.size ge ce (nz l)):=HGEX1.out.grown hgm (by simp [Value.ownBlock];omega);have HW:Hid (Below w.heap.size w wa):=HXB1.out.grown hgm (Nat.le_of_lt HBAS1.out) (fun k hk=>by simp [Value.ownBlock] at hk;omega);have HMR:Hid (Row wa (w.heap.size+1) ga ca mod):=(by show wa.ownsRow _ _ _ _ _ _;simpa using hoa);have hagl:ga<wa.heap.size:=hlt) | (refine step_append_lies _ (by rfl) _ _ _ (by rfl) (w.heap.size+1) 3 i0 _ 1 8 Tryz.underlying23 HI.out HZ0.out HZ1.out HZ2.out rfl (by omega) (.slice (some ⟨w2.heap.size,0,none⟩) 0 0) 0 [] (by rfl) HOE2.out ⟨b,o,none⟩ mod.length c (mod.map (Value.int .i64)) (by rfl) (by simp) HNEW2.out HONE.out (by omega) (by unfold maxLen;omega) (by omega) HBAS2.out _ rfl ?_;intro ga ca wa hoa hgm hat hlt;have hwa:w.heap.size<wa.heap.size:=Nat.lt_of_lt_of_le HBAS2.out hgm.size;have HE:Hid (Row wa w.heap.size ge ce (nz l)):=HGEX2.out.grown hgm (by simp [Value.ownBlock];omega);have HW:Hid (Below w.heap.size w wa):=HXB2.out.grown hgm (Nat.le_of_lt HBAS2.out) (fun k hk=>by simp [Value.ownBlock] at hk;omega);have HZR:Hid (Row wa (w.heap.size+1) (w2.heap.size+1) q (nz (List.replicate q 0))):=HRZ2.out.grown hgm (by simp [Value.ownBlock]);have HMR:Hid (Row wa (w.heap.size+1) ga ca mod):=(by show wa.ownsRow _ _ _ _ _ _;simpa using hoa);have hagl:ga≠w2.heap.size+1:=(by rcases hat with h | h <;> simp [Value.ownBlock] at h <;> omega)) | (refine step_append_lies _ (by rfl) _ _ _ (by rfl) (w.heap.size+1) 3 i0 _ 1 8 Tryz.underlying23 HI.out HZ0.out HZ1.out HZ2.out rfl (by omega) (.slice (some ⟨w2.heap.size+1,0,none⟩) 0 0) 0 [] (by rfl) HOE3.out ⟨b,o,none⟩ mod.length c (mod.map (Value.int .i64)) (by rfl) (by simp) HNEW3.out HONE.out (by omega) (by unfold maxLen;omega) (by omega) HBAS3.out _ rfl ?_;intro ga ca wa hoa hgm hat hlt;have hwa:w.heap.size<wa.heap.size:=Nat.lt_of_lt_of_le HBAS3.out hgm.size;have HE:Hid (Row wa w.heap.size ge ce (nz l)):=HGEX3.out.grown hgm (by simp [Value.ownBlock];omega);have HW:Hid (Below w.heap.size w wa):=HXB3.out.grown hgm (Nat.le_of_lt HBAS3.out) (fun k hk=>by simp [Value.ownBlock] at hk;omega);have HZR:Hid (Row wa (w.heap.size+1) w2.heap.size q (nz (List.replicate q 0))):=HRZ3.out.grown hgm (by simp [Value.ownBlock]);have HMR:Hid (Row wa (w.heap.size+1) ga ca mod):=(by show wa.ownsRow _ _ _ _ _ _;simpa using hoa);have hagl:ga≠w2.heap.size:=(by rcases hat with h | h <;> simp [Value.ownBlock] at h <;> omega)))
    all_goals (clear hmk hoa hgm hat z0 z1 z2)
    . have HX : Hid (CutM w p m mod q ge l.length ce l (.pointer (some ⟨wa.heap.size + 1,0,none⟩)) ((wa.alloc (.cells zz 3)).alloc (.cells #[.int .i64 p,.int .i64 m,.slice (some ⟨ga,0,none⟩) mod.length ca,.int .i64 (q : Int),.slice (some ⟨ge,0,none⟩) l.length ce,.slice (some ⟨wa.heap.size,0,none⟩) q q] 171))) := by
       have h:=cutM_mk (p:=p) (m:=m) (k:=l.length) (ca:=ca) rfl (HMR.out.alloc (.cells zz 3)) (show ga≠wa.heap.size by omega) (HE.out.alloc (.cells zz 3)) (qfG wa (B:=w.heap.size+1) HZZ.out hwa HB3.out) (HW.out.alloc (Nat.le_of_lt hwa) _) (by have:=HE.out.lt;omega) (by simp;omega)
       rw [show (wa.alloc (.cells zz 3)).heap.size=wa.heap.size+1 by simp] at h
       exact h
      go_wp2_with fail
      go_meet
      exact HX.out
    . have HX := Lib.hid (cutM_mk (p := p) (m := m) (k := l.length) (ca := ca) rfl HMR.out hagl HE.out HZR.out HW.out (by omega) hwa)
      go_wp2_with fail
      go_meet
      exact HX.out
    . have HX := Lib.hid (cutM_mk (p := p) (m := m) (k := l.length) (ca := ca) rfl HMR.out hagl HE.out HZR.out HW.out (by omega) hwa)
      go_wp2_with fail
      go_meet
      exact HX.out
 case rest =>
  obtain ⟨gb,ga,ca,gl,rfl,hgb,hgl,hgel,hagl,hblk,hre,hrl,hmr,hb⟩:=hcut
  have HS:Hid (RelMd w p m mod q gb ge gl ce ga ca l (.int .i64 ((0:Nat):Int)) wc):=⟨0,Nat.zero_le _,rfl,hblk,hre,hrl,hmr,hb⟩
  have hlq:l.length<=256:=by rw [HLL.out];omega
  have HLT:Hid (∀ n,n<l.length->l.getD n 0<q):=fun n hn=>by
   have e:l.getD n 0=l[n]:=by simp [List.getD,hn]
   rw [e]
   exact HTAB.out.lt _ (List.getElem_mem hn)
  clear hblk hre hrl hmr hb z0 z1 z2 HCS HCG HCO HK2 HRE
  go_wp2_with fail
  go_loopw [39] (fun v39 wr=>RelMd w p m mod q gb ge gl ce ga ca l v39 wr) (fun v39 _=>l.length-(intOf v39).toNat)
  case atStart=>exact HS.out
  case round =>
   obtain ⟨n,hn,rfl,hblk,hre,hrl,hmr,hb⟩:=hrel
   have HMD:=Lib.hid hmr
   have HBLK:=Lib.hid hblk
   have HRR:=Lib.hid hre
   have HRL:=Lib.hid hrl
   have HBB:=Lib.hid hb
   clear hblk hre hrl hmr hb HS
   have HLG:Hid ((logGo l (List.replicate q 0) n).length=q):=by show _=_;rw [qdE,List.length_replicate]
   by_cases hlt:n<l.length
   . have hx := HLT.out n hlt
     have y0:wr.cell? ⟨ge,n,none⟩=some (.int .i64 ((l.getD n 0:Nat):Int)):=by rw [<- qaF];exact HRR.out.cell (by rw [qaB];exact hlt)
     have y1:wr.cell? ⟨gb,5,none⟩=some (.slice (some ⟨gl,0,none⟩) q q):=cell_of_row _ _ 5 _ _ _ HBLK.out
     have HSET:Hid ((logGo l (List.replicate q 0) n).set (l.getD n 0) n=logGo l (List.replicate q 0) (n+1)):=rfl
     have y2:wr.cell? ⟨gl,l.getD n 0,none⟩=some (.int .i64 ((logGo l (List.replicate q 0) n).getD (l.getD n 0) 0:Nat)):=by rw [<- qaF];exact HRL.out.cell (by rw [qaB,HLG.out];exact hx)
     have f2:=HRL.out.frozen (l.getD n 0)
     generalize l.getD n 0=x at *
     have hx0:(0:Int)<=(x:Int):=by omega
     have hx1:(x:Int)<(q:Int):=by omega
     go_wp2_with fail
     go_roundw
     case rel =>
      refine ⟨n+1,by omega,by go_num,?_,HRR.out.far (p:=⟨gl,x,none⟩) hgel _,?_,HMD.out.far (p:=⟨gl,x,none⟩) hagl _,HBB.out.setCell (p:=⟨gl,x,none⟩) (by have:=HRL.out.lt;show w.heap.size<=gl;omega) _⟩
      . exact (Below.heap_setCell wr ⟨gl,x,none⟩ _ gb hgl).trans HBLK.out
      . rw [<- HSET.out,<- qbX]
        exact HRL.out.set x n
     case measure=>simp [intOf];omega
   . obtain rfl : n = l.length := by omega
     have hgbl:gb<wr.heap.size:=by
      rcases Nat.lt_or_ge gb wr.heap.size with h | h
      . exact h
      . have:=HBLK.out;rw [Array.getElem?_eq_none h] at this;cases this
     go_wp2_with fail
     go_ret2
     refine ⟨⟨gb,rfl,Nat.le_of_lt hgb,hgbl,some ⟨ga,0,none⟩,ca,ge,ce,gl,q,?_,HMD.out.ints HMD.out.lt.2,HRR.out.ints HRR.out.lt.2,HRL.out.ints HRL.out.lt.2⟩,HBB.out⟩
     rw [HP0.out,HM0.out,HQE.out]
     have e:(logL l q).length=q:=by unfold logL;rw [qdE,List.length_replicate]
     rw [e]
     exact HBLK.out
end Go.Proofs.YtlmglaonldlanaaGreat
