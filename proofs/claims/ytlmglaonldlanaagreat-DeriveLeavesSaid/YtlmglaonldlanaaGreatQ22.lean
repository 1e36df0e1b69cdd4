/-
 The reference's field: Add, Neg. The reference's field: Neg. The reference's field: Mul.
-/
import Derived.Test.YtlmglaonldlanaaGreatQ21
namespace Go.Proofs.YtlmglaonldlanaaGreat
open Go.RowKit Pln
def rK (r a:List Nat) (k:Nat):List Nat:=r.take k++a.drop k
theorem rK_len (r a:List Nat) (hl:r.length=a.length) (k:Nat) (hk:k<=a.length):(rK r a k).length=a.length:=by
 unfold rK
 rw [List.length_append,List.length_take,List.length_drop]
 omega
theorem rK_at (r a:List Nat) (hl:r.length=a.length) (k:Nat) (hk:k<a.length):(rK r a k).getD k 0=a.getD k 0:=by
 unfold rK
 have h:(r.take k).length=k:=by rw [List.length_take];omega
 simp only [List.getD]
 rw [List.getElem?_append_right (by omega),h,Nat.sub_self,List.getElem?_drop,Nat.add_zero]
theorem rK_set (r a:List Nat) (hl:r.length=a.length) (k:Nat) (hk:k<a.length):(rK r a k).set k (r.getD k 0)=rK r a (k+1):=by
 unfold rK
 have h:(r.take k).length=k:=by rw [List.length_take];omega
 rw [List.set_append_right _ _ (by omega),h,Nat.sub_self,List.drop_eq_getElem_cons hk,List.set_cons_zero,List.take_succ_eq_append_getElem (l:=r) (by omega),List.append_assoc]
 simp [List.getD,show k<r.length by omega]
theorem rK_end (r a:List Nat) (hl:r.length=a.length):rK r a a.length=r:=by
 unfold rK
 rw [<- hl,List.take_length,hl,List.drop_length,List.append_nil]
theorem SBoxF.wrote {w:World} {p m:Int} {A:Option Addr} {n c:Nat} {W:World} (h:SBoxF w p m A n c W) {g k:Nat} (hg:w.heap.size<g) (u:Value):SBoxF w p m A n c (W.setCell ⟨g,k,none⟩ u) :=
 ⟨h.1.setCell (p:=⟨g,k,none⟩) (Nat.le_of_lt hg) u,by simpa using h.2.1,(Below.heap_setCell W ⟨g,k,none⟩ u w.heap.size (by show w.heap.size≠g;omega)).trans h.2.2⟩
theorem SBoxF.drewN {w:World} {p m:Int} {A:Option Addr} {n c:Nat} {W:World} (h:SBoxF w p m A n c W) (k:Nat):SBoxF w p m A n c (W.drewN k):=⟨qaA h.1 k,h.2.1,h.2.2⟩
def RelAd2 (w:World) (p m:Nat) (A:Option Addr) (n c ga gb:Nat) (r a b:List Nat) (v9:Value) (wr:World):Prop :=
 ∃ k:Nat,k<=m/\v9=.int .i64 (k:Int)/\Row wr (w.heap.size+1) ga m (nz (rK r a k))/\Row wr (w.heap.size+1) gb m (nz b)/\SBoxF w p m A n c wr
set_option maxHeartbeats 1000000 in
set_option maxRecDepth 100000 in
theorem radd_c (p m:Nat) (A:Option Addr) (n c x y:Nat) (w:World) (hs:Small p m) (hx:x<p ^ m) (hy:y<p ^ m):Calls Tryz.prog 90 #[.agg #[.int .i64 p,.int .i64 m,.slice A n c],.int .i64 x,.int .i64 y] w fun e w'=>e=.returned (.int .i64 ((addD p m x y:Nat):Int))/\Below w.heap.size w w':=by
 have HX:=Lib.hid (qbP w p m A n c)
 have HD1:Hid (∀ W:World,Calls Tryz.prog 151 #[.agg #[.int .i64 p,.int .i64 m,.slice A n c],.int .i64 x] W fun e w'=>(∃ g,e=.returned (.slice (some ⟨g,0,none⟩) m m)/\Row w' W.heap.size g m (nz (digs p m x)))/\Below W.heap.size W w'):=fun W=>rdig_c p m A n c x W hs hx
 have HD2:Hid (∀ W:World,Calls Tryz.prog 151 #[.agg #[.int .i64 p,.int .i64 m,.slice A n c],.int .i64 y] W fun e w'=>(∃ g,e=.returned (.slice (some ⟨g,0,none⟩) m m)/\Row w' W.heap.size g m (nz (digs p m y)))/\Below W.heap.size W w'):=fun W=>rdig_c p m A n c y W hs hy
 have hp1:=hs.p1
 have hp2:=hs.p2
 have hm2:=hs.m2
 have HRV:=Lib.hid (addD_val p m x y)
 have hla:=qaK p m x
 have hlb:=qaK p m y
 have HLT:Hid (∀ k,(digs p m x).getD k 0<p/\(digs p m y).getD k 0<p):=fun k=>⟨getD_lt (by omega) (qcV (by omega) m x) k,getD_lt (by omega) (qcV (by omega) m y) k⟩
 have hlr:(List.zipWith (fun a b=>(a+b) % p) (digs p m x) (digs p m y)).length=m:=by rw [List.length_zipWith,hla,hlb,Nat.min_self]
 have HRG:Hid (∀ k,k<m->(List.zipWith (fun a b=>(a+b) % p) (digs p m x) (digs p m y)).getD k 0=((digs p m x).getD k 0+(digs p m y).getD k 0) % p):=fun k hk=>by
  have e1:(digs p m x)[k]?=some ((digs p m x).getD k 0):=by simp [List.getD,show k<(digs p m x).length by omega]
  have e2:(digs p m y)[k]?=some ((digs p m y).getD k 0):=by simp [List.getD,show k<(digs p m y).length by omega]
  rw [List.getD_eq_getElem?_getD,List.getElem?_zipWith,e1,e2]
  rfl
 have HVL:Hid (∀ (l:List Nat) (Al:Option Addr) (W:World),l.length=m->(∀ d∈l,d<p)->IntsAt W W.heap.size Al (nz l)->Calls Tryz.prog 152 #[.agg #[.int .i64 p,.int .i64 m,.slice A n c],.slice Al m m] W fun e w'=>e=.returned (.int .i64 ((val p l:Nat):Int))/\Below W.heap.size W w'):=fun l Al W h1 h2 h3=>by
  have:=rval_c p m A n c l Al m W h3 (by omega) h2 (by rw [h1];have:=hs.q;omega) (by omega) (by omega)
  rw [h1] at this
  exact this
 have HRD:Hid (∀ d∈List.zipWith (fun a b=>(a+b) % p) (digs p m x) (digs p m y),d<p):=fun d hd=>by
  obtain ⟨i,hi,rfl⟩:=List.mem_iff_getElem.1 hd
  rw [List.getElem_zipWith]
  exact Nat.mod_lt _ (by omega)
 have HLA:=Lib.hid hla
 have HLR:=Lib.hid hlr
 have HLB:=Lib.hid hlb
 clear hs hx hy hla hlb hlr
 generalize List.zipWith (fun a b=>(a+b) % p) (digs p m x) (digs p m y)=r at *
 generalize digs p m x=a at *
 generalize digs p m y=b at *
 have HRS:=Lib.hid (fun k hk=>rK_set r a (by rw [HLR.out,HLA.out]) k hk)
 have HRA:=Lib.hid (fun k hk=>rK_at r a (by rw [HLR.out,HLA.out]) k hk)
 have HRL:=Lib.hid (fun k hk=>rK_len r a (by rw [HLR.out,HLA.out]) k hk)
 have HRE:=Lib.hid (rK_end r a (by rw [HLR.out,HLA.out]))
 go_enter Tryz.func90,Tryz.ntmps90
 go_upto_region 1 with fail
 have hsz0:Hid (w.heap.size+1=(w.alloc (.cells #[.int .i64 (p:Int),.int .i64 (m:Int),.slice A n c] 29)).heap.size):=by show _=_;simp
 generalize w.alloc (.cells #[.int .i64 (p:Int),.int .i64 (m:Int),.slice A n c] 29)=W0 at *
 have HRG0:=Lib.hid HX.out.range
 go_wp2_with (refine wpList_load_mid rfl 29 (.tmp 3) rfl w.heap.size 0 rfl [.int .i64 (p:Int),.int .i64 (m:Int),.slice A n c] _ HRG0.out Tryz.underlying29 rfl fieldSize ?_)
 (with_reducible refine (HD1.out W0).mono ?_)
 rintro e w1 ⟨⟨ga,rfl,hra⟩,hb1⟩
 have HX1:=Lib.hid (HX.out.grow hb1)
 have HRA1:Hid (Row w1 (w.heap.size+1) ga m (nz a)):=hra.base (by have:=hra.lt;have:=hsz0.out;omega)
 have hs1:=hb1.size
 clear hra hb1 HX HRG0
 have HRG0:=Lib.hid HX1.out.range
 go_wp2_with (refine wpList_load_mid rfl 29 (.tmp 3) rfl w.heap.size 0 rfl [.int .i64 (p:Int),.int .i64 (m:Int),.slice A n c] _ HRG0.out Tryz.underlying29 rfl fieldSize ?_)
 (with_reducible refine (HD2.out w1).mono ?_)
 rintro e w2 ⟨⟨gb,rfl,hrb⟩,hb2⟩
 have HX2:=Lib.hid (HX1.out.grow hb2)
 have HGB:Hid (ga<gb):=Nat.lt_of_lt_of_le HRA1.out.lt.2 hrb.lt.1
 have HRB2:Hid (Row w2 (w.heap.size+1) gb m (nz b)):=hrb.base (by have:=hrb.lt;have:=hsz0.out;omega)
 have HRA2:Hid (Row w2 (w.heap.size+1) ga m (nz a)):=HRA1.out.below hb2 HRA1.out.lt.2
 have HGA:Hid (w.heap.size<ga):=HRA1.out.lt.1
 clear hrb hb2 hs1 HX1 HRG0 HRA1 HD1 HD2
 clear w1
 have HS0:Hid (RelAd2 w p m A n c ga gb r a b (.int .i64 ((0:Nat):Int)) w2):=⟨0,Nat.zero_le _,rfl,by simpa [rK] using HRA2.out,HRB2.out,HX2.out⟩
 clear HX2 HRA2 HRB2
 go_wp2_with fail
 go_loopw [9] (fun v9 wr=>RelAd2 w p m A n c ga gb r a b v9 wr) (fun v9 _=>m-(intOf v9).toNat)
 case atStart=>exact HS0.out
 case round =>
  obtain ⟨k,hk,rfl,hra,hrb,hx⟩:=hrel
  have HRA3:=Lib.hid hra
  have HRB3:=Lib.hid hrb
  have HX3:=Lib.hid hx
  clear hra hrb hx HS0
  by_cases hlt:k<m
  . have ya : wr.cell? ⟨ga,k,none⟩ = some (.int .i64 ((a.getD k 0 : Nat) : Int)) := by
     rw [<- HRA.out k (by rw [HLA.out];exact hlt),<- qaF]
     exact HRA3.out.cell (by rw [qaB,HRL.out k (by rw [HLA.out];exact hk),HLA.out];exact hlt)
    have yb:wr.cell? ⟨gb,k,none⟩=some (.int .i64 ((b.getD k 0:Nat):Int)):=by
     rw [<- qaF]
     exact HRB3.out.cell (by rw [qaB,HLB.out];exact hlt)
    have y0:=HX3.out.c0
    have f1:=HRA3.out.frozen k
    have HSET:=Lib.hid (HRS.out k (by rw [HLA.out];exact hlt))
    have HGT:=Lib.hid (HRG.out k hlt)
    obtain ⟨hlx,hly⟩:=HLT.out k
    have T1:Hid (Int.tmod ((a.getD k 0+b.getD k 0:Nat):Int) (p:Int)=(((a.getD k 0+b.getD k 0) % p:Nat):Int)):=qbF _ _
    generalize a.getD k 0=u at *
    generalize b.getD k 0=v at *
    have E1:Hid (IntKind.i64.wrap ((u:Int)+(v:Int))=((u+v:Nat):Int)):=by
     show _=_
     rw [Int.natCast_add]
     exact IntWalk.i64_in _ (by omega)
    generalize (u+v) % p=z at *
    generalize u+v=uv at *
    have hp0:¬ (p:Int)=0:=by omega
    have hp00:¬ p=0:=by omega
    have k0:(0:Int)<=(k:Int):=by omega
    have k1:(k:Int)<(m:Int):=by omega
    go_upto_region 6 with fail
    have e1:=E1.out
    have t1:=T1.out
    refine qaN 15 (SDrew wr) (by kernel_rfl) (by kernel_rfl) ⟨1,rfl⟩ ?_
    simp only [List.take_succ_cons,List.take_zero,List.drop_succ_cons,List.drop_zero]
    repeat (apply qaM rfl
            . intro W hS
              obtain ⟨n',rfl⟩:=hS
              go_simp
              rfl
            go_simp)
    refine qaJ ?_
    intro w3 hS3
    obtain ⟨n3,rfl⟩:=hS3
    clear e1 t1 yb y0
    go_wp2_with fail
    go_roundw
    case rel=>exact ⟨k+1,by omega,by go_num,by rw [<- HSET.out,HGT.out,<- qbX];exact Row.set (w:=wr.drewN n3) HRA3.out k z,Row.far (w:=wr.drewN n3) HRB3.out (p:=⟨ga,k,none⟩) (by show gb≠ga;have:=HGB.out;omega) _,(HX3.out.drewN n3).wrote HGA.out _⟩
    case measure=>simp [intOf];omega
  . obtain rfl : k = m := by omega
    have HRR:Hid (Row wr (w.heap.size+1) ga k (nz r)):=by
     have:=HRA3.out
     have e:=HRE.out
     rw [HLA.out] at e
     rw [e] at this
     exact this
    have HCV:=Lib.hid (HVL.out r (some ⟨ga,0,none⟩) wr HLR.out HRD.out (HRR.out.ints HRR.out.lt.2))
    rw [<- HRV.out] at HCV
    have HRG0:=Lib.hid HX3.out.range
    go_wp2_with (refine wpList_load_mid rfl 29 (.tmp 3) rfl w.heap.size 0 rfl [.int .i64 (p:Int),.int .i64 (k:Int),.slice A n c] _ HRG0.out Tryz.underlying29 rfl fieldSize ?_)
    (with_reducible refine HCV.out.mono ?_)
    rintro e w4 ⟨rfl,hb4⟩
    have HX4:=Lib.hid (HX3.out.grow hb4)
    clear hb4
    go_wp2_with fail
    go_ret
    exact ⟨rfl,HX4.out.1⟩
end Go.Proofs.YtlmglaonldlanaaGreat
namespace Go.Proofs.YtlmglaonldlanaaGreat
open Go.RowKit Pln
def RelNg2 (w:World) (p m:Nat) (A:Option Addr) (n c ga:Nat) (r a:List Nat) (v9:Value) (wr:World):Prop :=
 ∃ k:Nat,k<=m/\v9=.int .i64 (k:Int)/\Row wr (w.heap.size+1) ga m (nz (rK r a k))/\SBoxF w p m A n c wr
set_option maxHeartbeats 1000000 in
set_option maxRecDepth 100000 in
theorem rneg_c (p m:Nat) (A:Option Addr) (n c x:Nat) (w:World) (hs:Small p m) (hx:x<p ^ m):Calls Tryz.prog 150 #[.agg #[.int .i64 p,.int .i64 m,.slice A n c],.int .i64 x] w fun e w'=>e=.returned (.int .i64 ((negD p m x:Nat):Int))/\Below w.heap.size w w':=by
 have HX:=Lib.hid (qbP w p m A n c)
 have HD1:Hid (∀ W:World,Calls Tryz.prog 151 #[.agg #[.int .i64 p,.int .i64 m,.slice A n c],.int .i64 x] W fun e w'=>(∃ g,e=.returned (.slice (some ⟨g,0,none⟩) m m)/\Row w' W.heap.size g m (nz (digs p m x)))/\Below W.heap.size W w'):=fun W=>rdig_c p m A n c x W hs hx
 have hp1:=hs.p1
 have hp2:=hs.p2
 have hm2:=hs.m2
 have HRV:=Lib.hid (negD_val p m x)
 have hla:=qaK p m x
 have HLT:Hid (∀ k,(digs p m x).getD k 0<p):=fun k=>getD_lt (by omega) (qcV (by omega) m x) k
 have hlr:((digs p m x).map fun a=>(p-a) % p).length=m:=by rw [List.length_map,hla]
 have HRG:Hid (∀ k,k<m->((digs p m x).map fun a=>(p-a) % p).getD k 0=(p-(digs p m x).getD k 0) % p):=fun k hk=>by
  have e1:(digs p m x)[k]?=some ((digs p m x).getD k 0):=by simp [List.getD,show k<(digs p m x).length by omega]
  rw [List.getD_eq_getElem?_getD,List.getElem?_map,e1]
  rfl
 have HVL:Hid (∀ (l:List Nat) (Al:Option Addr) (W:World),l.length=m->(∀ d∈l,d<p)->IntsAt W W.heap.size Al (nz l)->Calls Tryz.prog 152 #[.agg #[.int .i64 p,.int .i64 m,.slice A n c],.slice Al m m] W fun e w'=>e=.returned (.int .i64 ((val p l:Nat):Int))/\Below W.heap.size W w'):=fun l Al W h1 h2 h3=>by
  have:=rval_c p m A n c l Al m W h3 (by omega) h2 (by rw [h1];have:=hs.q;omega) (by omega) (by omega)
  rw [h1] at this
  exact this
 have HRD:Hid (∀ d∈(digs p m x).map fun a=>(p-a) % p,d<p):=fun d hd=>by
  obtain ⟨i,_,rfl⟩:=List.mem_map.1 hd
  exact Nat.mod_lt _ (by omega)
 have HLA:=Lib.hid hla
 have HLR:=Lib.hid hlr
 clear hs hx hla hlr
 generalize ((digs p m x).map fun a=>(p-a) % p)=r at *
 generalize digs p m x=a at *
 have HRS:=Lib.hid (fun k hk=>rK_set r a (by rw [HLR.out,HLA.out]) k hk)
 have HRA:=Lib.hid (fun k hk=>rK_at r a (by rw [HLR.out,HLA.out]) k hk)
 have HRL:=Lib.hid (fun k hk=>rK_len r a (by rw [HLR.out,HLA.out]) k hk)
 have HRE:=Lib.hid (rK_end r a (by rw [HLR.out,HLA.out]))
 go_enter Tryz.func150,Tryz.ntmps150
 go_upto_region 1 with fail
 have hsz0:Hid (w.heap.size+1=(w.alloc (.cells #[.int .i64 (p:Int),.int .i64 (m:Int),.slice A n c] 29)).heap.size):=by show _=_;simp
 generalize w.alloc (.cells #[.int .i64 (p:Int),.int .i64 (m:Int),.slice A n c] 29)=W0 at *
 have HRG0:=Lib.hid HX.out.range
 go_wp2_with (refine wpList_load_mid rfl 29 (.tmp 2) rfl w.heap.size 0 rfl [.int .i64 (p:Int),.int .i64 (m:Int),.slice A n c] _ HRG0.out Tryz.underlying29 rfl fieldSize ?_)
 (with_reducible refine (HD1.out W0).mono ?_)
 rintro e w1 ⟨⟨ga,rfl,hra⟩,hb1⟩
 have HX1:=Lib.hid (HX.out.grow hb1)
 have HRA1:Hid (Row w1 (w.heap.size+1) ga m (nz a)):=hra.base (by have:=hra.lt;have:=hsz0.out;omega)
 have HGA:Hid (w.heap.size<ga):=HRA1.out.lt.1
 clear hra hb1 HX HRG0 HD1
 have HS0:Hid (RelNg2 w p m A n c ga r a (.int .i64 ((0:Nat):Int)) w1):=⟨0,Nat.zero_le _,rfl,by simpa [rK] using HRA1.out,HX1.out⟩
 clear HX1 HRA1
 go_wp2_with fail
 go_loopw [6] (fun v9 wr=>RelNg2 w p m A n c ga r a v9 wr) (fun v9 _=>m-(intOf v9).toNat)
 case atStart=>exact HS0.out
 case round =>
  obtain ⟨k,hk,rfl,hra,hx⟩:=hrel
  have HRA3:=Lib.hid hra
  have HX3:=Lib.hid hx
  clear hra hx HS0
  by_cases hlt:k<m
  . have ya : wr.cell? ⟨ga,k,none⟩ = some (.int .i64 ((a.getD k 0 : Nat) : Int)) := by
     rw [<- HRA.out k (by rw [HLA.out];exact hlt),<- qaF]
     exact HRA3.out.cell (by rw [qaB,HRL.out k (by rw [HLA.out];exact hk),HLA.out];exact hlt)
    have y0:=HX3.out.c0
    have f1:=HRA3.out.frozen k
    have HSET:=Lib.hid (HRS.out k (by rw [HLA.out];exact hlt))
    have HGT:=Lib.hid (HRG.out k hlt)
    have hlx:=HLT.out k
    have T1:Hid (Int.tmod ((p-a.getD k 0:Nat):Int) (p:Int)=(((p-a.getD k 0) % p:Nat):Int)):=qbF _ _
    generalize a.getD k 0=u at *
    have E1:Hid (IntKind.i64.wrap ((p:Int)-(u:Int))=((p-u:Nat):Int)):=by
     show _=_
     rw [Int.natCast_sub (by omega)]
     exact IntWalk.i64_in _ (by omega)
    generalize (p-u) % p=z at *
    generalize p-u=uv at *
    have hp0:¬ (p:Int)=0:=by omega
    have hp00:¬ p=0:=by omega
    have k0:(0:Int)<=(k:Int):=by omega
    have k1:(k:Int)<(m:Int):=by omega
    go_upto_region 5 with fail
    have e1:=E1.out
    have t1:=T1.out
    refine qaN 13 (SDrew wr) (by kernel_rfl) (by kernel_rfl) ⟨1,rfl⟩ ?_
    simp only [List.take_succ_cons,List.take_zero,List.drop_succ_cons,List.drop_zero]
    repeat (apply qaM rfl
            . intro W hS
              obtain ⟨n',rfl⟩:=hS
              go_simp
              rfl
            go_simp)
    refine qaJ ?_
    intro w3 hS3
    obtain ⟨n3,rfl⟩:=hS3
    clear e1 t1 y0
    go_wp2_with fail
    go_roundw
    case rel=>exact ⟨k+1,by omega,by go_num,by rw [<- HSET.out,HGT.out,<- qbX];exact Row.set (w:=wr.drewN n3) HRA3.out k z,(HX3.out.drewN n3).wrote HGA.out _⟩
    case measure=>simp [intOf];omega
  . obtain rfl : k = m := by omega
    have HRR:Hid (Row wr (w.heap.size+1) ga k (nz r)):=by
     have:=HRA3.out
     have e:=HRE.out
     rw [HLA.out] at e
     rw [e] at this
     exact this
    have HCV:=Lib.hid (HVL.out r (some ⟨ga,0,none⟩) wr HLR.out HRD.out (HRR.out.ints HRR.out.lt.2))
    rw [<- HRV.out] at HCV
    have HRG0:=Lib.hid HX3.out.range
    go_wp2_with (refine wpList_load_mid rfl 29 (.tmp 2) rfl w.heap.size 0 rfl [.int .i64 (p:Int),.int .i64 (k:Int),.slice A n c] _ HRG0.out Tryz.underlying29 rfl fieldSize ?_)
    (with_reducible refine HCV.out.mono ?_)
    rintro e w4 ⟨rfl,hb4⟩
    have HX4:=Lib.hid (HX3.out.grow hb4)
    clear hb4
    go_wp2_with fail
    go_ret
    exact ⟨rfl,HX4.out.1⟩
end Go.Proofs.YtlmglaonldlanaaGreat
namespace Go.Proofs.YtlmglaonldlanaaGreat
open Go.RowKit Pln
def MuInv (w:World) (p m:Nat) (A:Option Addr) (n c ga gb gc N:Nat) (a b C:List Nat) (wr:World):Prop :=
 Row wr (w.heap.size+1) ga m (nz a)/\Row wr (w.heap.size+1) gb m (nz b)/\Row wr (w.heap.size+1) gc N (nz C)/\SBoxF w p m A n c wr/\ga<gc/\gb<gc
section
variable {w:World} {p m:Nat} {A:Option Addr} {n c ga gb gc N:Nat} {a b C:List Nat} {wr wx:World}
theorem MuInv.set (h:MuInv w p m A n c ga gb gc N a b C wr) (k x:Nat):MuInv w p m A n c ga gb gc N a b (C.set k x) (wr.setCell ⟨gc,k,none⟩ (.int .i64 (x:Int))):=by
 obtain ⟨h1,h2,h3,h4,h5,h6⟩:=h
 refine ⟨h1.far (p:=⟨gc,k,none⟩) (by show ga≠gc;omega) _,h2.far (p:=⟨gc,k,none⟩) (by show gb≠gc;omega) _,?_,h4.wrote h3.lt.1 _,h5,h6⟩
 rw [<- qbX]
 exact h3.set k x
theorem MuInv.drewN (h:MuInv w p m A n c ga gb gc N a b C wr) (k:Nat):MuInv w p m A n c ga gb gc N a b C (wr.drewN k):=by
 obtain ⟨h1,h2,h3,h4,h5,h6⟩:=h
 exact ⟨h1,h2,h3,h4.drewN k,h5,h6⟩
theorem MuInv.grow (h:MuInv w p m A n c ga gb gc N a b C wr) (hb:Below wr.heap.size wr wx):MuInv w p m A n c ga gb gc N a b C wx:=by
 obtain ⟨h1,h2,h3,h4,h5,h6⟩:=h
 exact ⟨h1.below hb h1.lt.2,h2.below hb h2.lt.2,h3.below hb h3.lt.2,h4.grow hb,h5,h6⟩
theorem MuInv.ca (h:MuInv w p m A n c ga gb gc N a b C wr) {k:Nat} (hk:k<a.length):wr.cell? ⟨ga,k,none⟩=some (.int .i64 ((a.getD k 0:Nat):Int)):=by
 rw [<- qaF]
 exact h.1.cell (by rw [qaB];exact hk)
theorem MuInv.cb (h:MuInv w p m A n c ga gb gc N a b C wr) {k:Nat} (hk:k<b.length):wr.cell? ⟨gb,k,none⟩=some (.int .i64 ((b.getD k 0:Nat):Int)):=by
 rw [<- qaF]
 exact h.2.1.cell (by rw [qaB];exact hk)
theorem MuInv.cc (h:MuInv w p m A n c ga gb gc N a b C wr) {k:Nat} (hk:k<C.length):wr.cell? ⟨gc,k,none⟩=some (.int .i64 ((C.getD k 0:Nat):Int)):=by
 rw [<- qaF]
 exact h.2.2.1.cell (by rw [qaB];exact hk)
end
theorem ints_take {w:World} {B:Nat} {A:Option Addr} {C:List Nat} (h:IntsAt w B A (nz C)) (m:Nat) (hm:m<=C.length):IntsAt w B A (nz (C.take m)):=fun hz=>by
 rw [qaB,List.length_take] at hz
 obtain ⟨b,o,e,hlt,hc⟩:=h (by rw [qaB];omega)
 refine ⟨b,o,e,hlt,fun j hj=>?_⟩
 rw [qaB,List.length_take] at hj
 rw [hc j (by rw [qaB];omega),qaF,qaF]
 congr 2
 simp only [List.getD]
 rw [List.getElem?_take_of_lt (by omega)]
def RelC1 (w:World) (p m:Nat) (A:Option Addr) (n c ga gb gc N:Nat) (a b:List Nat) (v10:Value) (wr:World):Prop :=
 ∃ i:Nat,i<=m/\v10=.int .i64 (i:Int)/\MuInv w p m A n c ga gb gc N a b (conv p m a b i) wr
def RelC2 (w:World) (p m:Nat) (A:Option Addr) (n c ga gb gc N:Nat) (a b:List Nat) (i:Nat) (v11:Value) (wr:World):Prop :=
 ∃ j:Nat,j<=m/\v11=.int .i64 (j:Int)/\MuInv w p m A n c ga gb gc N a b (convRow p i (a.getD i 0) b (conv p m a b i) j) wr
def RelC3 (w:World) (p m:Nat) (A:Option Addr) (n c ga gb gc N:Nat) (a b md C0:List Nat) (v12:Value) (wr:World):Prop :=
 ∃ t i:Nat,t<=m-1/\i+t+1=N/\v12=.int .i64 (i:Int)/\MuInv w p m A n c ga gb gc N a b (red p m md C0 t) wr
def RelC4 (w:World) (p m:Nat) (A:Option Addr) (n c ga gb gc N:Nat) (a b md:List Nat) (i:Nat) (C1:List Nat) (v13:Value) (wr:World):Prop :=
 ∃ j:Nat,j<=m/\v13=.int .i64 (j:Int)/\MuInv w p m A n c ga gb gc N a b (redRow p m md i C1 j) wr
set_option maxHeartbeats 2000000 in
set_option maxRecDepth 100000 in
theorem rmul_c (p m:Nat) (md:List Nat) (A:Option Addr) (n c x y:Nat) (w:World) (hs:Small p m) (hmd:md.length=m) (hml:∀ d∈md,d<p) (hM:2<=m->n=m/\IntsAt w w.heap.size A (nz md)) (hx:x<p ^ m) (hy:y<p ^ m) :
 Calls Tryz.prog 91 #[.agg #[.int .i64 p,.int .i64 m,.slice A n c],.int .i64 x,.int .i64 y] w fun e w'=>e=.returned (.int .i64 ((refMul p m md x y:Nat):Int))/\Below w.heap.size w w':=by
 have HX:=Lib.hid (qbP w p m A n c)
 have HD1:Hid (∀ W:World,Calls Tryz.prog 151 #[.agg #[.int .i64 p,.int .i64 m,.slice A n c],.int .i64 x] W fun e w'=>(∃ g,e=.returned (.slice (some ⟨g,0,none⟩) m m)/\Row w' W.heap.size g m (nz (digs p m x)))/\Below W.heap.size W w'):=fun W=>rdig_c p m A n c x W hs hx
 have HD2:Hid (∀ W:World,Calls Tryz.prog 151 #[.agg #[.int .i64 p,.int .i64 m,.slice A n c],.int .i64 y] W fun e w'=>(∃ g,e=.returned (.slice (some ⟨g,0,none⟩) m m)/\Row w' W.heap.size g m (nz (digs p m y)))/\Below W.heap.size W w'):=fun W=>rdig_c p m A n c y W hs hy
 have hp1:=hs.p1
 have hp2:=hs.p2
 have hm1:=hs.m1
 have hm2:=hs.m2
 have HRV:Hid (refMul p m md x y=val p ((red p m md (conv p m (digs p m x) (digs p m y) m) (m-1)).take m)):=rfl
 have HLA:=Lib.hid (qaK p m x)
 have HLB:=Lib.hid (qaK p m y)
 have HLTA:Hid (∀ k,(digs p m x).getD k 0<p):=fun k=>getD_lt (by omega) (qcV (by omega) m x) k
 have HLTB:Hid (∀ k,(digs p m y).getD k 0<p):=fun k=>getD_lt (by omega) (qcV (by omega) m y) k
 have HLTM:Hid (∀ k,md.getD k 0<p):=fun k=>getD_lt (by omega) (m:=m) ⟨hmd,hml⟩ k
 have HCD:Hid (∀ i,Dig p (2*m-1) (conv p m (digs p m x) (digs p m y) i)):=fun i=>qdR (by omega) m _ _ i
 have HCR:Hid (∀ i j,Dig p (2*m-1) (convRow p i ((digs p m x).getD i 0) (digs p m y) (conv p m (digs p m x) (digs p m y) i) j)):=fun i j=>qeJ (by omega) i _ _ (qdR (by omega) m _ _ i) j
 have HRDD:Hid (∀ t,Dig p (2*m-1) (red p m md (conv p m (digs p m x) (digs p m y) m) t)):=fun t=>red_dig (by omega) m md (qdR (by omega) m _ _ m) t
 have HRR:Hid (∀ i t j,Dig p (2*m-1) (redRow p m md i (red p m md (conv p m (digs p m x) (digs p m y) m) t) j)):=fun i t j=>qfE (by omega) m md i (red_dig (by omega) m md (qdR (by omega) m _ _ m) t) j
 have HVL:Hid (∀ (l:List Nat) (Al:Option Addr) (cl:Nat) (W:World),l.length=m->(∀ d∈l,d<p)->IntsAt W W.heap.size Al (nz l)->Calls Tryz.prog 152 #[.agg #[.int .i64 p,.int .i64 m,.slice A n c],.slice Al m cl] W fun e w'=>e=.returned (.int .i64 ((val p l:Nat):Int))/\Below W.heap.size W w'):=fun l Al cl W h1 h2 h3=>by
  have:=rval_c p m A n c l Al cl W h3 (by omega) h2 (by rw [h1];have:=hs.q;omega) (by omega) (by omega)
  rw [h1] at this
  exact this
 have HMD:Hid (2<=m->n=m/\∀ W,Below w.heap.size w W->IntsAt W w.heap.size A (nz md)):=fun h=>⟨(hM h).1,fun W hW=>(hM h).2.keep hW⟩
 have HMDL:=Lib.hid hmd
 clear hs hx hy hml hM hmd
 obtain ⟨N,hNe⟩:∃ N,N=2*m-1:=⟨_,rfl⟩
 have hN:(2:Int)*(m:Int)-1=(N:Int):=by omega
 have hN2:(2:Int)*(m:Int)-2=(N:Int)-1:=by omega
 have hN3:2*m=N+1:=by omega
 have hN15:N<=15:=by omega
 rw [<- hNe] at HCD HCR HRDD HRR
 have HC0:Hid (conv p m (digs p m x) (digs p m y) 0=List.replicate N 0):=by show List.replicate (2*m-1) 0=_;rw [hNe]
 generalize digs p m x=a at *
 generalize digs p m y=b at *
 obtain ⟨i0,hi,hz0,hz1,hz2⟩:=qaG infoInt
 have HI:=Lib.hid hi
 have HZ0:=Lib.hid hz0
 have HZ1:=Lib.hid hz1
 have HB2:=Lib.hid (show i0.bytes*N<=281474976710656 by rw [hz2];omega)
 have HB3:=Lib.hid (show N<=maxLen by unfold maxLen;omega)
 have HNE:=Lib.hid hNe
 clear hi hz0 hz1 hz2 hNe
 go_enter Tryz.func91,Tryz.ntmps91
 go_upto_region 1 with fail
 have hsz0:Hid (w.heap.size+1=(w.alloc (.cells #[.int .i64 (p:Int),.int .i64 (m:Int),.slice A n c] 29)).heap.size):=by show _=_;simp
 generalize w.alloc (.cells #[.int .i64 (p:Int),.int .i64 (m:Int),.slice A n c] 29)=W0 at *
 have HRG0:=Lib.hid HX.out.range
 go_wp2_with (refine wpList_load_mid rfl 29 (.tmp 3) rfl w.heap.size 0 rfl [.int .i64 (p:Int),.int .i64 (m:Int),.slice A n c] _ HRG0.out Tryz.underlying29 rfl fieldSize ?_)
 (with_reducible refine (HD1.out W0).mono ?_)
 rintro e w1 ⟨⟨ga,rfl,hra⟩,hb1⟩
 have HX1:=Lib.hid (HX.out.grow hb1)
 have HRA1:Hid (Row w1 (w.heap.size+1) ga m (nz a)):=hra.base (by have:=hra.lt;have:=hsz0.out;omega)
 clear hra hb1 HX HRG0
 have HRG0:=Lib.hid HX1.out.range
 go_wp2_with (refine wpList_load_mid rfl 29 (.tmp 3) rfl w.heap.size 0 rfl [.int .i64 (p:Int),.int .i64 (m:Int),.slice A n c] _ HRG0.out Tryz.underlying29 rfl fieldSize ?_)
 (with_reducible refine (HD2.out w1).mono ?_)
 rintro e w2 ⟨⟨gb,rfl,hrb⟩,hb2⟩
 have HX2:=Lib.hid (HX1.out.grow hb2)
 have HRB2:Hid (Row w2 (w.heap.size+1) gb m (nz b)):=hrb.base (by have:=hrb.lt;have:=HRA1.out.lt;omega)
 have HRA2:Hid (Row w2 (w.heap.size+1) ga m (nz a)):=HRA1.out.below hb2 HRA1.out.lt.2
 have hw2:w.heap.size+1<=w2.heap.size:=HX2.out.2.1
 clear hrb hb2 HX1 HRG0 HRA1 HD1 HD2
 clear w1
 have y1:=HX2.out.c1
 go_wp2_with (refine wpList_make_full w2 rfl (.tmp 23) (.tmp 23) 23 rfl (w.heap.size+1) 3 i0 (.int .i64 0) 1 Tryz.underlying23 HI.out HZ0.out HZ1.out .i64 .i64 N N N rfl rfl rfl rfl HB2.out HB3.out hw2 ?_;intro w3 hown hgr)
 have hb3:=qaL hgr
 have hr3:=Row.of_make hown
 have HS0:Hid (RelC1 w p m A n c ga gb w2.heap.size N a b (.int .i64 ((0:Nat):Int)) w3):=⟨0,Nat.zero_le _,rfl,HRA2.out.below hb3 HRA2.out.lt.2,HRB2.out.below hb3 HRB2.out.lt.2,by rw [HC0.out];exact hr3,HX2.out.grow hb3,HRA2.out.lt.2,HRB2.out.lt.2⟩
 clear hown hgr hb3 hr3 HX2 HRA2 HRB2 y1 HI HZ0 HZ1 HB2 HB3 HC0 hw2
 generalize w2.heap.size=gc at *
 clear w2
 go_wp2_with fail
 go_loopw [10] (fun v10 wr=>RelC1 w p m A n c ga gb gc N a b v10 wr) (fun v10 _=>m-(intOf v10).toNat)
 case atStart=>exact HS0.out
 case round =>
  obtain ⟨i,hi,rfl,hmu⟩:=hrel
  have HMU:=Lib.hid hmu
  have y1:=hmu.2.2.2.1.c1
  clear hmu HS0
  by_cases hlt:i<m
  . have HJ0 : Hid (RelC2 w p m A n c ga gb gc N a b i (.int .i64 ((0 : Nat) : Int)) wr) := ⟨0,Nat.zero_le _,rfl,HMU.out⟩
    go_wp2_with fail
    clear y1 HMU
    go_loopw [11] (fun v11 wr=>RelC2 w p m A n c ga gb gc N a b i v11 wr) (fun v11 _=>m-(intOf v11).toNat)
    case atStart=>exact HJ0.out
    case round =>
     obtain ⟨j,hj,rfl,hmu⟩:=hrel
     have HMU:=Lib.hid hmu
     have y1:=hmu.2.2.2.1.c1
     clear HJ0
     by_cases hlj:j<m
     . have hcr := HCR.out i j
       have y0:=hmu.2.2.2.1.c0
       have ya:=hmu.ca (k:=i) (by rw [HLA.out];exact hlt)
       have yb:=hmu.cb (k:=j) (by rw [HLB.out];exact hlj)
       have yc:=hmu.cc (k:=i+j) (by rw [hcr.1];omega)
       have fc:=hmu.2.2.1.frozen (i+j)
       have hca:a.getD i 0<p:=HLTA.out i
       have hcb:b.getD j 0<p:=HLTB.out j
       have hcc:(convRow p i (a.getD i 0) b (conv p m a b i) j).getD (i+j) 0<p:=getD_lt (by omega) hcr (i+j)
       have HNX:Hid (convRow p i (a.getD i 0) b (conv p m a b i) (j+1)=(convRow p i (a.getD i 0) b (conv p m a b i) j).set (i+j) (((convRow p i (a.getD i 0) b (conv p m a b i) j).getD (i+j) 0+a.getD i 0*b.getD j 0) % p)):=rfl
       have HRL:Hid (∀ v wr,(∃ j:Nat,j<=m/\v=.int .i64 (j:Int)/\MuInv w p m A n c ga gb gc N a b (convRow p i (a.getD i 0) b (conv p m a b i) j) wr)->RelC2 w p m A n c ga gb gc N a b i v wr):=fun _ _ h=>h
       clear hmu hcr
       generalize convRow p i (a.getD i 0) b (conv p m a b i) j=cj at *
       generalize a.getD i 0=u at *
       generalize b.getD j 0=v at *
       generalize hz:cj.getD (i+j) 0=z at *
       have T1:Hid (Int.tmod ((z+u*v:Nat):Int) (p:Int)=(((z+u*v) % p:Nat):Int)):=qbF _ _
       have huv:u*v<=65536:=Nat.le_trans (Nat.mul_le_mul (show u<=256 by omega) (show v<=256 by omega)) (by omega)
       have E1:Hid (IntKind.i64.wrap ((i:Int)+(j:Int))=((i+j:Nat):Int)):=by
        show _=_
        rw [Int.natCast_add]
        exact IntWalk.i64_in _ (by omega)
       have E2:Hid (IntKind.i64.wrap ((u:Int)*(v:Int))=((u*v:Nat):Int)):=by
        show _=_
        rw [<- Int.natCast_mul]
        exact IntWalk.i64_in _ (by omega)
       have E3:Hid (IntKind.i64.wrap ((z:Int)+((u*v:Nat):Int))=((z+u*v:Nat):Int)):=by
        show _=_
        rw [Int.natCast_add]
        exact IntWalk.i64_in _ (by omega)
       clear hz
       generalize (z+u*v) % p=rr at *
       generalize z+u*v=zu at *
       generalize u*v=uv at *
       have k0:(0:Int)<=((i+j:Nat):Int):=by omega
       have k1:((i+j:Nat):Int)<(N:Int):=by omega
       have a0:(0:Int)<=(i:Int):=by omega
       have a1:(i:Int)<(m:Int):=by omega
       have b0:(0:Int)<=(j:Int):=by omega
       have b1:(j:Int)<(m:Int):=by omega
       have hp0:¬ (p:Int)=0:=by omega
       have hp00:¬ p=0:=by omega
       generalize hij:i+j=ij at *
       have HIJ:=Lib.hid hij
       clear hij huv
       go_upto_region 10 with fail
       have e1:=E1.out
       have e2:=E2.out
       have e3:=E3.out
       have t1:=T1.out
       refine qaN 24 (SDrew wr) (by kernel_rfl) (by kernel_rfl) ⟨1,rfl⟩ ?_
       simp only [List.take_succ_cons,List.take_zero,List.drop_succ_cons,List.drop_zero]
       repeat (apply qaM rfl
               . intro W hS
                 obtain ⟨n',rfl⟩:=hS
                 go_simp
                 rfl
               go_simp)
       refine qaJ ?_
       intro w3 hS3
       obtain ⟨n3,rfl⟩:=hS3
       clear e1 e2 e3 t1 ya yb y0 y1
       go_wp2_with fail
       go_roundw
       case rel=>exact HRL.out _ _ ⟨j+1,by omega,by go_num,by rw [HNX.out];exact (HMU.out.drewN n3).set ij rr⟩
       case measure=>simp [intOf];omega
     . obtain rfl : j = m := by omega
       clear hmu
       go_wp2_with fail
       go_roundw
       case rel=>exact ⟨i+1,by omega,by go_num,HMU.out⟩
       case measure=>simp [intOf];omega
  . obtain rfl : i = m := by omega
    have HT0:Hid (RelC3 w p i A n c ga gb gc N a b md (conv p i a b i) (.int .i64 ((N:Int)-1)) wr):=⟨0,N-1,by omega,by omega,by rw [show ((N-1:Nat):Int)=(N:Int)-1 by omega],HMU.out⟩
    clear HMU HCR HCD HLTA HLTB HLA HLB
    generalize conv p i a b i=C0 at *
    go_wp2_with fail
    clear y1
    go_loopw [12] (fun v12 wr=>RelC3 w p i A n c ga gb gc N a b md C0 v12 wr) (fun v12 _=>(intOf v12+1).toNat-i)
    case atStart=>exact HT0.out
    case round =>
     obtain ⟨t,k,ht,htk,rfl,hmu⟩:=hrel
     have HMU:=Lib.hid hmu
     have y1:=hmu.2.2.2.1.c1
     clear hmu HT0
     by_cases hlt2:i<=k
     . obtain ⟨hn,hmd⟩ := HMD.out (by omega)
       subst hn
       have HMDW:=Lib.hid hmd
       clear hmd
       have HJ0:Hid (RelC4 w p n A n c ga gb gc N a b md k (red p n md C0 t) (.int .i64 ((0:Nat):Int)) wr):=⟨0,Nat.zero_le _,rfl,HMU.out⟩
       have HNT:Hid (redRow p n md k (red p n md C0 t) n=red p n md C0 (t+1)):=by
        show _=redRow p n md (2*n-2-t) _ n
        rw [show 2*n-2-t=k by omega]
       have HRRK:=Lib.hid (HRR.out k t)
       go_wp2_with fail
       clear y1 HMU
       generalize red p n md C0 t=C1 at *
       go_loopw [13] (fun v13 wr=>RelC4 w p n A n c ga gb gc N a b md k C1 v13 wr) (fun v13 _=>n-(intOf v13).toNat)
       case atStart=>exact HJ0.out
       case round =>
        obtain ⟨j,hj,rfl,hmu⟩:=hrel
        have HMU:=Lib.hid hmu
        have y1:=hmu.2.2.2.1.c1
        clear HJ0
        by_cases hlj:j<n
        . have hcr := HRRK.out j
          obtain ⟨q,rfl⟩:∃ q,k=q+n:=⟨k-n,by omega⟩
          have y0:=hmu.2.2.2.1.c0
          have y2:=hmu.2.2.2.1.c2
          have yc:=hmu.cc (k:=q+j) (by rw [hcr.1];omega)
          have yk:=hmu.cc (k:=q+n) (by rw [hcr.1];omega)
          have fc:=hmu.2.2.1.frozen (q+j)
          obtain ⟨bm,om,rfl,hbm,ym⟩:=(HMDW.out wr hmu.2.2.2.1.1).at_ (k:=j) (by rw [qaB,HMDL.out];exact hlj)
          rw [qaF] at ym
          have hcm:md.getD j 0<p:=HLTM.out j
          have hcc:(redRow p n md (q+n) C1 j).getD (q+j) 0<p:=getD_lt (by omega) hcr (q+j)
          have hck:(redRow p n md (q+n) C1 j).getD (q+n) 0<p:=getD_lt (by omega) hcr (q+n)
          have HNX:Hid (redRow p n md (q+n) C1 (j+1)=(redRow p n md (q+n) C1 j).set (q+j) (((redRow p n md (q+n) C1 j).getD (q+j) 0+(p-(redRow p n md (q+n) C1 j).getD (q+n) 0)*md.getD j 0) % p)):=by
           show addAt p _ (q+n-n+j) _=_
           rw [Nat.add_sub_cancel]
           rfl
          clear hmu hcr
          generalize redRow p n md (q+n) C1 j=cj at *
          generalize md.getD j 0=v at *
          generalize hz:cj.getD (q+j) 0=z at *
          generalize hu:cj.getD (q+n) 0=u at *
          have T1:Hid (Int.tmod ((z+(p-u)*v:Nat):Int) (p:Int)=(((z+(p-u)*v) % p:Nat):Int)):=qbF _ _
          have hpu:p-u<=256:=by omega
          have huv:(p-u)*v<=65536:=Nat.le_trans (Nat.mul_le_mul hpu (show v<=256 by omega)) (by omega)
          have E0:Hid (IntKind.i64.wrap (((q+n:Nat):Int)-(n:Int))=(q:Int)):=by
           show _=_
           rw [show ((q+n:Nat):Int)-(n:Int)=(q:Int) by omega]
           exact IntWalk.i64_in _ (by omega)
          have E1:Hid (IntKind.i64.wrap ((q:Int)+(j:Int))=((q+j:Nat):Int)):=by
           show _=_
           rw [Int.natCast_add]
           exact IntWalk.i64_in _ (by omega)
          have E4:Hid (IntKind.i64.wrap ((p:Int)-(u:Int))=((p-u:Nat):Int)):=by
           show _=_
           rw [Int.natCast_sub (by omega)]
           exact IntWalk.i64_in _ (by omega)
          have E2:Hid (IntKind.i64.wrap (((p-u:Nat):Int)*(v:Int))=(((p-u)*v:Nat):Int)):=by
           show _=_
           rw [<- Int.natCast_mul]
           exact IntWalk.i64_in _ (by omega)
          have E3:Hid (IntKind.i64.wrap ((z:Int)+(((p-u)*v:Nat):Int))=((z+(p-u)*v:Nat):Int)):=by
           show _=_
           rw [Int.natCast_add]
           exact IntWalk.i64_in _ (by omega)
          clear hz hu
          generalize (z+(p-u)*v) % p=rr at *
          generalize z+(p-u)*v=zu at *
          generalize (p-u)*v=uv at *
          generalize p-u=pu at *
          have k0:(0:Int)<=((q+j:Nat):Int):=by omega
          have k1:((q+j:Nat):Int)<(N:Int):=by omega
          have a0:(0:Int)<=((q+n:Nat):Int):=by omega
          have a1:((q+n:Nat):Int)<(N:Int):=by omega
          have b0:(0:Int)<=(j:Int):=by omega
          have b1:(j:Int)<(n:Int):=by omega
          have hp0:¬ (p:Int)=0:=by omega
          have hp00:¬ p=0:=by omega
          generalize hij:q+j=ij at *
          generalize hqn:q+n=qn at *
          have HIJ:=Lib.hid hij
          have HQN:=Lib.hid hqn
          clear hij hqn huv
          go_upto_region 17 with fail
          have e0:=E0.out
          have e1:=E1.out
          have e2:=E2.out
          have e3:=E3.out
          have e4:=E4.out
          have t1:=T1.out
          refine qaN 34 (SDrew wr) (by kernel_rfl) (by kernel_rfl) ⟨1,rfl⟩ ?_
          simp only [List.take_succ_cons,List.take_zero,List.drop_succ_cons,List.drop_zero]
          repeat (apply qaM rfl
                  . intro W hS
                    obtain ⟨n',rfl⟩:=hS
                    go_simp
                    rfl
                  go_simp)
          refine qaJ ?_
          intro w3 hS3
          obtain ⟨n3,rfl⟩:=hS3
          clear e0 e1 e2 e3 e4 t1 ym yk y0 y1 y2
          go_wp2_with fail
          go_roundw
          case rel=>exact ⟨j+1,by omega,by go_num,by rw [HNX.out];exact (HMU.out.drewN n3).set ij rr⟩
          case measure=>simp [intOf];omega
        . obtain rfl : j = n := by omega
          clear hmu
          go_wp2_with fail
          go_roundw
          case rel=>exact ⟨t+1,k-1,by omega,by omega,by rw [show ((k-1:Nat):Int)=(k:Int)-1 by omega],by rw [<- HNT.out];exact HMU.out⟩
          case measure=>simp [intOf];omega
     . have hte : t = i - 1 := by omega
       have HRF:Hid (refMul p i md x y=val p ((red p i md C0 t).take i)):=by show _=_;rw [HRV.out,hte]
       have hrd:=HRDD.out t
       have HCV:Hid (∀ W,MuInv w p i A n c ga gb gc N a b (red p i md C0 t) W->Calls Tryz.prog 152 #[.agg #[.int .i64 p,.int .i64 i,.slice A n c],.slice (some ⟨gc,0,none⟩) i N] W fun e w'=>e=.returned (.int .i64 ((refMul p i md x y:Nat):Int))/\MuInv w p i A n c ga gb gc N a b (red p i md C0 t) w'):=fun W hW=>by
        have:=HVL.out ((red p i md C0 t).take i) (some ⟨gc,0,none⟩) N W (by rw [List.length_take,hrd.1];omega) (fun d hd=>hrd.2 d (List.mem_of_mem_take hd)) (ints_take (hW.2.2.1.ints hW.2.2.1.lt.2) i (by rw [hrd.1];omega))
        rw [<- HRF.out] at this
        exact this.mono fun e w' ⟨he,hb⟩=>⟨he,hW.grow hb⟩
       clear hrd HVL HRF HRV HRDD HRR HMD hte
       generalize red p i md C0 t=C1 at *
       have m0:(0:Int)<=(i:Int):=by omega
       have m1:(i:Int)<=(N:Int):=by omega
       go_upto_region 18 with fail
       clear y1
       refine qaH (MuInv w p i A n c ga gb gc N a b C1) (by kernel_rfl) (by kernel_rfl) (HMU.out.grow (Below.refl _ _).drew) ?_
       repeat (first
        | (refine qbG rfl 29 (.tmp 3) rfl w.heap.size 0 rfl [.int .i64 (p : Int),.int .i64 (i : Int),.slice A n c] _ (fun W hW => hW.2.2.2.1.range) Tryz.underlying29 rfl fieldSize ?_
           go_simp)
        | (apply qaM rfl
           . intro W hS
             have y1:=hS.2.2.2.1.c1
             go_simp
             rfl
           go_simp)
        | (apply qaV rfl
           . intro W hS
             go_simp
             exact ⟨rfl,rfl⟩
           . intro W hS
             exact HCV.out W hS
           go_simp))
       refine qaJ ?_
       intro w5 hS5
       have HB5:=Lib.hid hS5.2.2.2.1.1
       clear hS5
       go_wp2_with fail
       go_ret
       exact ⟨rfl,HB5.out⟩
end Go.Proofs.YtlmglaonldlanaaGreat
