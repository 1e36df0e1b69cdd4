/-
 The reference's field: divides. The reference's field: irreducible, Check.
-/
import Derived.Test.YtlmglaonldlanaaGreatQ19
namespace Go.Proofs.YtlmglaonldlanaaGreat
open Go.RowKit Pln
def RelDv (w:World) (B p:Nat) (low md:List Nat) (g c:Nat) (v9:Value) (wr:World):Prop :=
 ∃ t i:Nat,t<=md.length+1-low.length/\i+t=md.length/\v9=.int .i64 (i:Int)/\Row wr B g c (nz (divGo p low (md++[1]) t))/\Below B w wr
def RelDr (w:World) (B p:Nat) (low:List Nat) (i cc:Nat) (s:List Nat) (g c:Nat) (v11:Value) (wr:World):Prop :=
 ∃ j:Nat,j<=low.length/\v11=.int .i64 (j:Int)/\Row wr B g c (nz (divRow p low.length low i cc s j))/\Below B w wr
set_option maxHeartbeats 2000000 in
set_option maxRecDepth 100000 in
theorem rdivides_c (p:Nat) (low md:List Nat) (Al Am:Option Addr) (cl cm:Nat) (w:World) (hp:2<=p) (hp2:p<=256) (hL:IntsAt w w.heap.size Al (nz low)) (hM:IntsAt w w.heap.size Am (nz md)) (hl:Dig p low.length low) (hm:Dig p md.length md)
 (hl1:1<=low.length) (hlm:low.length<=md.length) (hml:md.length<=8) :
 Calls Tryz.prog 84 #[.slice Al low.length cl,.slice Am md.length cm,.int .i64 p] w fun e w'=>e=.returned (.bool (dividesM p low md))/\Below w.heap.size w w':=by
 obtain ⟨i0,hi,hz0,hz1,hz2⟩:=qaG infoInt
 have HI:=Lib.hid hi
 have HZ0:=Lib.hid hz0
 have HZ1:=Lib.hid hz1
 have HZ2:=Lib.hid hz2
 obtain ⟨b,o,rfl,hbl,hc⟩:=hM.at_ (k:=0) (by rw [qaB];omega)
 have HL:=Lib.hid hL
 have HOE:Hid ((w.alloc (.cells #[] 3)).ownsRow w.heap.size 3 1 (.slice (some ⟨w.heap.size,0,none⟩) 0 0) 0 []):=World.ownsRow_made w #[] 0 (Nat.le_refl _) (by unfold maxLen;omega) rfl
 have HNEW:Hid (∀ (j:Nat) (u:Value),((nz md).map (Value.int .i64))[j]?=some u->(w.alloc (.cells #[] 3)).cell? ((⟨b,o,none⟩:Addr).add j)=some u):=(hM.keep ((Below.refl _ _).alloc (Nat.le_refl _) _)).news
 have HDG:Hid (∀ t,Dig p (md.length+1) (divGo p low (md++[1]) t)):=fun t=>divGo_dig (by omega) low ⟨by simp,fun d hd=>by
  rcases List.mem_append.1 hd with h | h
  . exact hm.2 d h
  . simp at h;omega⟩ t
 have HDR:Hid (∀ i cc s,Dig p (md.length+1) s->∀ j,Dig p (md.length+1) (divRow p low.length low i cc s j)):=fun i cc s hs j=>qdW (by omega) _ low i cc hs j
 have HLW:Hid (∀ j,low.getD j 0<p):=fun j=>getD_lt (by omega) hl j
 have HLEN:=Lib.hid (qaB md)
 clear hi hz0 hz1 hz2 hM hL hc hm hl
 go_enter Tryz.func84,Tryz.ntmps84
 go_upto_region 3 with (at_builtin;refine wpList_append_lies _ rfl (.tmp 15) (.tmp 16) 23 rfl w.heap.size 3 i0 _ 1 8 Tryz.underlying23 HI.out HZ0.out HZ1.out HZ2.out rfl (by decide) (.slice (some ⟨w.heap.size,0,none⟩) 0 0) 0 [] rfl HOE.out ⟨b,o,none⟩ md.length cm ((nz md).map (Value.int .i64)) rfl ?c0 HNEW.out ?c2 ?c1 ?c3 ?c4 ?c5 _ rfl ?_)
 case c0=>simp [nz]
 case c1=>omega
 case c2=>intro u hu;obtain ⟨z,_,rfl⟩:=List.mem_map.1 hu;rfl
 case c3=>unfold maxLen;omega
 case c4=>omega
 case c5=>simp
 intro g1 cap1 w1 hown hgr hat hlt
 have HB1:Hid (Below w.heap.size w w1):=((Below.refl _ _).alloc (Nat.le_refl _) _).grown hgr (by simp) (fun k hk=>by simp [Value.ownBlock] at hk;omega)
 have HR1:Hid (Row w1 w.heap.size g1 cap1 (nz md)):=by
  show w1.ownsRow _ _ _ _ _ _
  rw [HLEN.out]
  exact hown
 have hws:=HB1.out.size
 clear hown hgr hat hlt hbl
 go_upto_region 4 with (at_builtin;refine wpList_append_own_at _ rfl (.tmp 18) (.tmp 19) 23 rfl w.heap.size 3 i0 _ 1 8 Tryz.underlying23 HI.out HZ0.out HZ1.out HZ2.out rfl (by decide) (.slice (some ⟨g1,0,none⟩) md.length cap1) md.length ((nz md).map (Value.int .i64)) rfl (own_of_row HR1.out HLEN.out) ⟨w1.heap.size,0,none⟩ 1 1 [.int .i64 1] rfl rfl ?d1 ?d2 ?d3 ?d4 ?d5 ?_)
 case d1=>exact World.news_of_block (cs:=#[.int .i64 1]) (t:=3) (fr:=(0,0)) (heap_alloc_new w1 _)
 case d2=>intro u hu;simp at hu;subst hu;rfl
 case d3=>unfold maxLen;omega
 case d4=>omega
 case d5=>simp;omega
 intro v' w3 hown' hgw3 _ hat
 have HB3:Hid (Below w.heap.size w w3):=(HB1.out.alloc hws _).grown hgw3 (by simp;omega) (fun j hj=>by simp [Value.ownBlock] at hj;have:=HR1.out.lt;omega)
 have hOI:OwnI w3 w.heap.size v' (nz (md++[1])):=own_of_append (y:=1) hown' HLEN.out
 obtain ⟨g,cg,rfl,hrow⟩:=hOI
 have hnl:(nz (md++[1])).length=md.length+1:=by simp [nz]
 rw [hnl]
 have HS0:Hid (RelDv w w.heap.size p low md g cg (.int .i64 (md.length:Int)) w3):=⟨0,md.length,Nat.zero_le _,rfl,rfl,hrow,HB3.out⟩
 clear hown' hgw3 hat hrow hnl HR1 HB1 HB3 HNEW HOE
 have HSTEP:Hid (∀ t i,i+t=md.length->divGo p low (md++[1]) (t+1)=(divRow p low.length low i ((divGo p low (md++[1]) t).getD i 0) (divGo p low (md++[1]) t) low.length).set i 0):=fun t i h=>by
  show (divRow p low.length low ((md++[1]).length-1-t) _ _ low.length).set ((md++[1]).length-1-t) 0=_
  have e:(md++[1]).length-1-t=i:=by simp;omega
  rw [e]
 have HEND:Hid (dividesM p low md=(divGo p low (md++[1]) (md.length+1-low.length)).all (·==0)):=rfl
 have HL3:Hid (∀ W:World,Below w.heap.size w W->IntsAt W w.heap.size Al (nz low)):=fun W hW=>HL.out.keep hW
 clear HL HLEN
 go_wp2_with fail
 go_loopw [9] (fun v9 wr=>RelDv w w.heap.size p low md g cg v9 wr) (fun v9 _=>(intOf v9+1).toNat-low.length)
 case atStart=>exact HS0.out
 case round =>
  obtain ⟨t,i,ht,hit,rfl,hrow,hb⟩:=hrel
  have HROW:=Lib.hid hrow
  have HB:=Lib.hid hb
  have hdig:=HDG.out t
  have hlen:(nz (divGo p low (md++[1]) t)).length=md.length+1:=by rw [qaB];exact hdig.1
  have HDGT:=Lib.hid hdig
  clear hrow hb HS0
  by_cases hlt:low.length<=i
  . have HST := Lib.hid (HSTEP.out t i hit)
    have hci:wr.cell? ⟨g,i,none⟩=some (.int .i64 (((divGo p low (md++[1]) t).getD i 0:Nat):Int)):=by
     rw [<- qaF]
     exact HROW.out.cell (by rw [hlen];omega)
    have hcp:(divGo p low (md++[1]) t).getD i 0<p:=getD_lt (by omega) hdig i
    have HDRT:=Lib.hid (fun cc=>HDR.out i cc _ hdig)
    clear hdig hlen
    generalize (divGo p low (md++[1]) t).getD i 0=cc at *
    generalize divGo p low (md++[1]) t=s at *
    have HI0:Hid (RelDr w w.heap.size p low i cc s g cg (.int .i64 ((0:Nat):Int)) wr):=⟨0,Nat.zero_le _,rfl,HROW.out,HB.out⟩
    have j0:(0:Int)<=(i:Int):=by omega
    have j1:(i:Int)<((md.length+1:Nat):Int):=by omega
    go_wp2_with fail
    clear hci HROW HB
    go_loopw [11] (fun v11 wr=>RelDr w w.heap.size p low i cc s g cg v11 wr) (fun v11 _=>low.length-(intOf v11).toNat)
    case atStart=>exact HI0.out
    case round =>
     obtain ⟨j,hj,rfl,hrow,hb⟩:=hrel
     have HROW:=Lib.hid hrow
     have HB:=Lib.hid hb
     have hdr:=HDRT.out cc j
     clear hrow hb HI0
     by_cases hlj:j<low.length
     . obtain ⟨a,rfl⟩ : ∃ a,i = a + low.length := ⟨i - low.length,by omega⟩
       have hrc:wr.cell? ⟨g,a+j,none⟩=some (.int .i64 (((divRow p low.length low (a+low.length) cc s j).getD (a+j) 0:Nat):Int)):=by
        rw [<- qaF]
        exact HROW.out.cell (by rw [qaB,hdr.1];omega)
       obtain ⟨bl,ol,rfl,hbl,hlc⟩:=(HL3.out wr HB.out).at_ (k:=j) (by rw [qaB];exact hlj)
       rw [qaF] at hlc
       have hlw:=HLW.out j
       have hrp:(divRow p low.length low (a+low.length) cc s j).getD (a+j) 0<p:=getD_lt (by omega) hdr (a+j)
       have HNX:Hid (divRow p low.length low (a+low.length) cc s (j+1)=(divRow p low.length low (a+low.length) cc s j).set (a+j) (((divRow p low.length low (a+low.length) cc s j).getD (a+j) 0+(p-cc)*low.getD j 0) % p)):=by
        show addAt p _ (a+low.length-low.length+j) _=_
        rw [Nat.add_sub_cancel]
        rfl
       have hf:=HROW.out.frozen (a+j)
       have T1:Hid (Int.tmod ((((divRow p low.length low (a+low.length) cc s j).getD (a+j) 0+(p-cc)*low.getD j 0:Nat):Nat):Int) (p:Int)=((((divRow p low.length low (a+low.length) cc s j).getD (a+j) 0+(p-cc)*low.getD j 0) % p:Nat):Int)):=qbF _ _
       clear hdr
       generalize divRow p low.length low (a+low.length) cc s j=rj at *
       generalize rj.getD (a+j) 0=x at *
       generalize low.getD j 0=lj at *
       have E1:Hid (IntKind.i64.wrap (((a+low.length:Nat):Int)-(low.length:Int))=(a:Int)):=by
        show _=_
        rw [show ((a+low.length:Nat):Int)-(low.length:Int)=(a:Int) by omega]
        exact IntWalk.i64_in _ (by omega)
       have E3:Hid (IntKind.i64.wrap ((p:Int)-(cc:Int))=((p-cc:Nat):Int)):=by
        show _=_
        rw [Int.natCast_sub (by omega)]
        exact IntWalk.i64_in _ (by omega)
       have hpc:p-cc<=256:=by omega
       have E2:Hid (IntKind.i64.wrap ((a:Int)+(j:Int))=((a+j:Nat):Int)):=by
        show _=_
        rw [Int.natCast_add]
        exact IntWalk.i64_in _ (by omega)
       have hmul:(p-cc)*lj<=65536:=Nat.le_trans (Nat.mul_le_mul hpc (show lj<=256 by omega)) (by omega)
       have E4:Hid (IntKind.i64.wrap (((p-cc:Nat):Int)*(lj:Int))=(((p-cc)*lj:Nat):Int)):=by
        show _=_
        rw [<- Int.natCast_mul]
        exact IntWalk.i64_in _ (by omega)
       generalize (p-cc)*lj=pl at *
       generalize p-cc=pc at *
       have E5:Hid (IntKind.i64.wrap ((x:Int)+(pl:Int))=((x+pl:Nat):Int)):=by
        show _=_
        rw [Int.natCast_add]
        exact IntWalk.i64_in _ (by omega)
       have k0:(0:Int)<=((a+j:Nat):Int):=by omega
       have k1:((a+j:Nat):Int)<(md.length:Int)+1:=by omega
       have l0:(0:Int)<=(j:Int):=by omega
       have l1:(j:Int)<(low.length:Int):=by omega
       have hp0:¬ (p:Int)=0:=by omega
       have hp00:¬ p=0:=by omega
       generalize (x+pl) % p=z at *
       generalize x+pl=xp at *
       generalize hy:a+j=y at *
       generalize hil:a+low.length=i at *
       have HY:=Lib.hid hy
       have HIL:=Lib.hid hil
       clear hy hil
       go_upto_region 11 with fail
       have e1:=E1.out
       have e2:=E2.out
       have e3:=E3.out
       have e4:=E4.out
       have e5:=E5.out
       have t1:=T1.out
       refine qaN 26 (SDrew wr) (by kernel_rfl) (by kernel_rfl) ⟨1,rfl⟩ ?_
       simp only [List.take_succ_cons,List.take_zero,List.drop_succ_cons,List.drop_zero]
       repeat (apply qaM rfl
               . intro W hS
                 obtain ⟨n,rfl⟩:=hS
                 go_simp
                 rfl
               go_simp)
       refine qaJ ?_
       intro w2 hS2
       obtain ⟨n,rfl⟩:=hS2
       clear e1 e2 e3 e4 e5 t1
       go_wp2_with fail
       go_roundw
       case rel=>exact ⟨j+1,by omega,by go_num,by rw [HNX.out,<- qbX];exact Row.set (w:=wr.drewN n) HROW.out y z,(qaA HB.out n).setCell (p:=⟨g,y,none⟩) HROW.out.lt.1 _⟩
       case measure=>simp [intOf];omega
     . obtain rfl : j = low.length := by omega
       have hf:=HROW.out.frozen i
       have hrc:wr.cell? ⟨g,i,none⟩=some (.int .i64 (((divRow p low.length low i cc s low.length).getD i 0:Nat):Int)):=by
        rw [<- qaF]
        exact HROW.out.cell (by rw [qaB,hdr.1];omega)
       clear hdr
       go_wp2_with fail
       go_roundw
       case rel=>exact ⟨t+1,i-1,by omega,by omega,by rw [show ((i-1:Nat):Int)=(i:Int)-1 by omega],by rw [HST.out,<- qbX];exact HROW.out.set i 0,HB.out.setCell (p:=⟨g,i,none⟩) HROW.out.lt.1 _⟩
       case measure=>simp [intOf];omega
  . have hte : t = md.length + 1 - low.length := by omega
    have HE:Hid (dividesM p low md=(divGo p low (md++[1]) t).all (·==0)):=by show _=_;rw [HEND.out,<- hte]
    have hdl:=hdig.1
    clear hte hdig hlen HDGT HDG HDR HSTEP HEND
    generalize divGo p low (md++[1]) t=s at *
    have hil:(i:Int)<(low.length:Int):=by omega
    have HSL:Hid (s.length=md.length+1):=hdl
    clear hdl
    go_wp2_with fail
    clear hil
    go_loop [12] (fun v12=>∃ k:Nat,k<=md.length+1/\v12=.int .i64 k/\(s.take k).all (·==0)=true) (fun v12=>md.length+1-(intOf v12).toNat)
    case atStart=>exact ⟨0,by omega,rfl,by simp⟩
    case round =>
     obtain ⟨k,hk,rfl,hall⟩:=hrel
     have HALL:=Lib.hid hall
     clear hall
     by_cases hlk:k<md.length+1
     . have hrc : wr.cell? ⟨g,k,none⟩ = some (.int .i64 ((s.getD k 0 : Nat) : Int)) := by
        rw [<- qaF]
        exact HROW.out.cell (by rw [qaB,HSL.out];exact hlk)
       have HTK:=Lib.hid (qbT (·==0) s 0 k (by rw [HSL.out];exact hlk))
       have HFL:=Lib.hid (qbR (·==0) s 0 k (by rw [HSL.out];exact hlk))
       generalize s.getD k 0=z at *
       by_cases hz:z=0
       . have hzb : ((z : Int) != 0) = false := by rw [hz];rfl
         have HN:Hid ((s.take (k+1)).all (·==0)=true):=by show _=_;rw [HTK.out,HALL.out,hz];rfl
         clear hz HTK HFL
         go_wp2_with fail
         go_round
         case rel=>exact ⟨k+1,by omega,by go_num,HN.out⟩
         case measure=>simp [intOf];omega
       . have hzb : ((z : Int) != 0) = true := by rw [bne_iff_ne];omega
         have HN:Hid (dividesM p low md=false):=by show _=_;rw [HE.out];exact HFL.out (by simpa using hz)
         clear hz HTK HFL
         go_wp2_with fail
         go_ret
         exact ⟨qaO HN.out.symm,HB.out⟩
     . have HN : Hid (dividesM p low md = true) := by
        show _=_
        have:=HALL.out
        rw [List.take_of_length_le (by rw [HSL.out];omega)] at this
        rw [HE.out,this]
       go_wp2_with fail
       go_ret
       exact ⟨qaO HN.out.symm,HB.out⟩
end Go.Proofs.YtlmglaonldlanaaGreat
namespace Go.Proofs.YtlmglaonldlanaaGreat
open Go.RowKit Pln
theorem qfJ (f:Nat->Bool) (k:Nat):(List.range (k+1)).all f=((List.range k).all f && f k):=by
 rw [List.range_succ,List.all_append]
 simp
theorem qeM (f:Nat->Bool) {n k:Nat} (hk:k<n) (h:f k=false):(List.range n).all f=false:=by
 rw [List.all_eq_false]
 exact ⟨k,List.mem_range.2 hk,by rw [h];simp⟩
def noDiv (p:Nat) (md:List Nat) (d:Nat):Bool:=(List.range (p ^ (d+1))).all fun v=>!dividesM p (digs p (d+1) v) md
theorem irrM_eq (p:Nat) (md:List Nat):irrM p md=(List.range (md.length / 2)).all (noDiv p md):=rfl
def RelIr (w:World) (p:Nat) (md:List Nat) (v5 v6:Value) (wr:World):Prop :=
 ∃ d:Nat,d<=md.length / 2/\v6=.int .i64 ((d+1:Nat):Int)/\v5=.int .i64 ((p ^ d:Nat):Int)/\(List.range d).all (noDiv p md)=true/\Below w.heap.size w wr
def RelIv (w:World) (p:Nat) (md:List Nat) (d:Nat) (v7:Value) (wr:World):Prop :=
 ∃ v:Nat,v<=p ^ (d+1)/\v7=.int .i64 (v:Int)/\(List.range v).all (fun v=>!dividesM p (digs p (d+1) v) md)=true/\Below w.heap.size w wr
set_option maxHeartbeats 1000000 in
set_option maxRecDepth 100000 in
theorem rirr_c (p:Nat) (md:List Nat) (Am:Option Addr) (cm:Nat) (w:World) (hp:2<=p) (hp2:p<=256) (hM:IntsAt w w.heap.size Am (nz md)) (hm:Dig p md.length md) (hml:md.length<=8) (hq:p ^ md.length<=256) :
 Calls Tryz.prog 35 #[.slice Am md.length cm,.int .i64 p] w fun e w'=>e=.returned (.bool (irrM p md))/\Below w.heap.size w w':=by
 have HM:=Lib.hid hM
 have HDM:=Lib.hid hm
 have HIR:=Lib.hid (irrM_eq p md)
 have HPW:Hid (∀ d,d<md.length / 2->p ^ (d+1)<=256):=fun d hd=>Nat.le_trans (qcO hp (by omega)) hq
 clear hM hm
 go_enter Tryz.func35,Tryz.ntmps35
 go_wp2_with fail
 go_loopw [5,6] (fun v5 v6 wr=>RelIr w p md v5 v6 wr) (fun _ v6 _=>md.length+1-(intOf v6).toNat)
 case atStart=>exact ⟨0,Nat.zero_le _,rfl,by rw [Nat.pow_zero];rfl,rfl,Below.refl _ _⟩
 case round =>
  obtain ⟨d,hd,rfl,rfl,hall,hb⟩:=hrel
  have HALL:=Lib.hid hall
  have HB:=Lib.hid hb
  clear hall hb
  by_cases hlt:d<md.length / 2
  . have HQ : Hid (p ^ (d + 1) = p ^ d * p) := Nat.pow_succ _ _
    have hpw:=HPW.out d hlt
    rw [HQ.out] at hpw
    have hmul:((p ^ d:Nat):Int)*(p:Int)=((p ^ d*p:Nat):Int):=(Int.natCast_mul _ _).symm
    have HI0:Hid (RelIv w p md d (.int .i64 ((0:Nat):Int)) wr):=⟨0,Nat.zero_le _,rfl,rfl,HB.out⟩
    have HC1:Hid (∀ (v:Nat) (wr:World),v<=256->Calls Tryz.prog 85 #[.int .i64 (v:Int),.int .i64 (p:Int),.int .i64 ((d+1:Nat):Int)] wr fun e w'=>e=.returned (.slice (some ⟨wr.heap.size,0,none⟩) (d+1) (d+1))/\Row w' wr.heap.size wr.heap.size (d+1) (nz (digs p (d+1) v))/\Below wr.heap.size wr w') :=
     fun v wr hv=>rdigits_c v p (d+1) wr (by omega) (by omega) (by omega) (by omega)
    have HDL:Hid (∀ v:Nat,(digs p (d+1) v).length=d+1):=fun v=>qaK p (d+1) v
    have HND1:Hid ((List.range (p ^ (d+1))).all (fun v=>!dividesM p (digs p (d+1) v) md)=true->(List.range (d+1)).all (noDiv p md)=true):=fun h=>by
     rw [qfJ,HALL.out]
     unfold noDiv
     rw [h]
     rfl
    have HIF:Hid ((List.range (p ^ (d+1))).all (fun v=>!dividesM p (digs p (d+1) v) md)=false->irrM p md=false):=fun h=>by
     rw [HIR.out]
     exact qeM _ hlt (k:=d) h
    have h2d:2*(d+1)<=md.length:=by omega
    have h2i:2*((d+1:Nat):Int)<=(md.length:Int):=by omega
    have hd1:1<=d+1:=by omega
    have HDE:Hid (RelIr w p md (.int .i64 ((p ^ (d+1):Nat):Int)) (.int .i64 ((d+1+1:Nat):Int))=RelIr w p md (.int .i64 ((p ^ (d+1):Nat):Int)) (.int .i64 (((d+1)+1:Nat):Int))):=rfl
    have HIV:Hid (∀ v wr,RelIv w p md d v wr=∃ x:Nat,x<=p ^ (d+1)/\v=.int .i64 (x:Int)/\(List.range x).all (fun v=>!dividesM p (digs p (d+1) v) md)=true/\Below w.heap.size w wr):=fun _ _=>rfl
    have HNXT:Hid (∀ wr,(List.range (d+1)).all (noDiv p md)=true->Below w.heap.size w wr->RelIr w p md (.int .i64 ((p ^ (d+1):Nat):Int)) (.int .i64 (((d+1:Nat):Int)+1)) wr):=fun wr h1 h2=>⟨d+1,by omega,by rw [Int.natCast_add (d+1) 1];rfl,rfl,h1,h2⟩
    clear HDE
    generalize hqd:p ^ d=q at *
    generalize hqp:q*p=q2 at *
    have HQ2:Hid (p ^ (d+1)=q2):=HQ.out
    clear hqd hqp HQ
    generalize d+1=e at *
    go_wp2_with fail
    clear hmul
    go_loopw [7] (fun v7 wr=>RelIv w p md d v7 wr) (fun v7 _=>q2-(intOf v7).toNat)
    case atStart=>exact HI0.out
    case round =>
     rw [HIV.out] at hrel
     obtain ⟨v,hv,rfl,hallv,hb⟩:=hrel
     have HALLV:=Lib.hid hallv
     have HBV:=Lib.hid hb
     rw [HQ2.out] at hv
     clear hallv hb HI0
     by_cases hlv:v<q2
     . have HC2 : Hid (∀ w1,Below wr.heap.size wr w1 -> Row w1 wr.heap.size wr.heap.size e (nz (digs p e v)) -> Calls Tryz.prog 84 #[.slice (some ⟨wr.heap.size,0,none⟩) e e,.slice Am md.length cm,.int .i64 p] w1 fun e' w' => e' = .returned (.bool (dividesM p (digs p e v) md)) /\ Below w1.heap.size w1 w') := fun w1 hb1 hr1 => by
        have hdl:=HDL.out v
        have:=rdivides_c p (digs p e v) md (some ⟨wr.heap.size,0,none⟩) Am e cm w1 hp hp2 (hr1.ints hr1.lt.2) (((HM.out.keep HBV.out).more HBV.out.size).grow (Nat.le_refl _) hb1 |>.more hb1.size) ⟨rfl,qeQ (by omega) _ _⟩ HDM.out (by rw [hdl];omega) (by rw [hdl];omega) hml
        rw [hdl] at this
        exact this
       have HRS:=Lib.hid (qfJ (fun v=>!dividesM p (digs p e v) md) v)
       have HRF:Hid (dividesM p (digs p e v) md=true->irrM p md=false):=fun h=>by
        refine HIF.out ?_
        exact qeM _ (by rw [HQ2.out];exact hlv) (by rw [h];rfl)
       have HC1v:=Lib.hid (HC1.out v wr (by omega))
       go_wp2_with fail
       (with_reducible refine HC1v.out.mono ?_)
       rintro e1 w1 ⟨rfl,hr1,hb1⟩
       have HC3:=Lib.hid (HC2.out w1 hb1 hr1)
       have HB1:=Lib.hid (HBV.out.trans (hb1.mono HBV.out.size))
       clear hr1 hb1 HC1v HC2
       generalize dividesM p (digs p e v) md=bb at *
       go_wp2_with fail
       (with_reducible refine HC3.out.mono ?_)
       rintro e2 w2 ⟨rfl,hb2⟩
       have HB2:=Lib.hid (HB1.out.trans (hb2.mono HB1.out.size))
       clear hb2 HC3
       cases bb
       . go_wp2_with fail
         go_roundw
         case rel=>rw [HIV.out];exact ⟨v+1,by rw [HQ2.out];omega,by go_num,by rw [HRS.out,HALLV.out];rfl,HB2.out⟩
         case measure=>simp [intOf];omega
       . have HN := Lib.hid (HRF.out rfl)
         go_wp2_with fail
         go_ret
         exact ⟨qaO HN.out.symm,HB2.out⟩
     . obtain rfl : v = q2 := by omega
       have HND:=Lib.hid (HNXT.out wr (HND1.out (by rw [HQ2.out];exact HALLV.out)) HBV.out)
       rw [HQ2.out] at HND
       go_wp2_with fail
       go_roundw
       case rel=>exact HND.out
       case measure=>simp [intOf];omega
  . obtain rfl : d = md.length / 2 := by omega
    have HT:Hid (irrM p md=true):=by show _=_;rw [HIR.out];exact HALL.out
    have h2d:md.length<2*(md.length / 2+1):=by omega
    have h2e:md.length / 2<=4:=by omega
    generalize md.length / 2=d at *
    have h2i:¬ 2*((d+1:Nat):Int)<=(md.length:Int):=by omega
    have hdec:decide (2*((d+1:Nat):Int)<=(md.length:Int))=false:=decide_eq_false h2i
    have he9:d+1<=9:=by omega
    clear h2d
    generalize p ^ d=q at *
    generalize d+1=e at *
    go_wp2_with fail
    go_ret
    exact ⟨qaO HT.out.symm,HB.out⟩
end Go.Proofs.YtlmglaonldlanaaGreat
