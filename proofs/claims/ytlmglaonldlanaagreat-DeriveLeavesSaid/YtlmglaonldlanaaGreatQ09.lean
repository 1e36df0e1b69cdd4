/-
 Rows of field elements: scaled, copied, added in place. A multiple of a row added to a row in place. A grid of rows of the call's own; matrix.clone.
-/
import Derived.Test.YtlmglaonldlanaaGreatQ08
namespace Go.Proofs.YtlmglaonldlanaaGreat
open Go.RowKit Pln
def opsT (p m:Nat) (l:List Nat):Ops:=⟨addD p m,mulT l (logL l (p ^ m)) (p ^ m),negD p m,invT l (logL l (p ^ m)) (p ^ m)⟩
theorem qcZ {p m:Nat} {md l:List Nat} (h:FT p m md l) {x y:Nat} (hx:x<p ^ m) (hy:y<p ^ m):mulT l (logL l (p ^ m)) (p ^ m) x y<p ^ m:=by
 have H:=qaU (p:=p) (m:=m) (by have:=h.small.p1;omega) h.small.m1 md
 rw [h.tab.mul_eq H hx hy]
 exact H.lt x y
def scK (f:Nat->Nat) (v:List Nat) (k:Nat):List Nat:=(v.take k).map f++List.replicate (v.length-k) 0
theorem scK_len (f:Nat->Nat) (v:List Nat) (k:Nat) (hk:k<=v.length):(scK f v k).length=v.length:=by simp [scK];omega
theorem scK_set (f:Nat->Nat) (v:List Nat) (k:Nat) (hk:k<v.length):(scK f v k).set k (f (v.getD k 0))=scK f v (k+1):=by
 unfold scK
 have hl:((v.take k).map f).length=k:=by simp;omega
 rw [List.set_append_right _ _ (by omega),hl,Nat.sub_self,show v.length-k=(v.length-(k+1))+1 by omega,List.replicate_succ,List.set_cons_zero,List.take_succ_eq_append_getElem hk,List.map_append,List.append_assoc]
 simp [List.getD,hk]
def RelSc (w:World) (f:Nat->Nat) (v:List Nat) (v15:Value) (wr:World):Prop :=
 ∃ k:Nat,k<=v.length/\v15=.int .i64 k/\Row wr w.heap.size w.heap.size v.length (nz (scK f v k))/\Below w.heap.size w wr
set_option maxHeartbeats 1000000 in
set_option maxRecDepth 100000 in
theorem scale_c (a gb p m:Nat) (md l v:List Nat) (A:Option Addr) (c:Nat) (w:World) (hF:FT p m md l) (hG:GFAt w w.heap.size gb p m l (logL l (p ^ m))) (ha:a<p ^ m) (hv:∀ x∈v,x<p ^ m) (hA:IntsAt w w.heap.size A (nz v)) (hl:v.length<=1000) :
 Calls Tryz.prog 75 #[.pointer (some ⟨gb,0,none⟩),.int .i64 a,.slice A v.length c] w fun e w'=>e=.returned (.slice (some ⟨w.heap.size,0,none⟩) v.length v.length)/\Row w' w.heap.size w.heap.size v.length (nz (scaleRow (opsT p m l) a v))/\Below w.heap.size w w':=by
 obtain ⟨i0,hi,hz0,hz1,hz2⟩:=qaG infoInt
 have HI:=Lib.hid hi
 have HZ0:=Lib.hid hz0
 have HZ1:=Lib.hid hz1
 have HB2:=Lib.hid (show i0.bytes*v.length<=281474976710656 by rw [hz2];omega)
 have HB3:=Lib.hid (show v.length<=maxLen by unfold maxLen;omega)
 have HA:=Lib.hid hA
 have HC:Hid (∀ x W,x<p ^ m->Below w.heap.size w W->Calls Tryz.prog 142 #[.pointer (some ⟨gb,0,none⟩),.int .i64 (a:Int),.int .i64 (x:Int)] W (Quiet (.int .i64 ((mulT l (logL l (p ^ m)) (p ^ m) a x:Nat):Int)) W)) :=
  fun x W hx hb=>mul_c a x gb p m w.heap.size md l W hF (hG.keep hb) ha hx
 have HV:Hid (∀ k,k<v.length->v.getD k 0<p ^ m):=fun k hk=>by
  have:v.getD k 0=v[k]:=by simp [List.getD,hk]
  rw [this]
  exact hv _ (List.getElem_mem hk)
 have HFE:Hid (scaleRow (opsT p m l) a v=v.map (mulT l (logL l (p ^ m)) (p ^ m) a)):=rfl
 clear hi hz0 hz1 hz2 hA hF hG hv
 generalize mulT l (logL l (p ^ m)) (p ^ m) a=f at *
 generalize p ^ m=q at *
 go_enter Tryz.func75,Tryz.ntmps75
 go_wp2_with (refine wpList_make_full w rfl (.tmp 11) (.tmp 11) 23 rfl w.heap.size 3 i0 (.int .i64 0) 1 Tryz.underlying23 HI.out HZ0.out HZ1.out .i64 .i64 v.length v.length v.length rfl rfl rfl rfl HB2.out HB3.out (Nat.le_refl _) ?_;intro w1 hown hgr)
 have HS:Hid (RelSc w f v (.int .i64 ((0:Nat):Int)) w1):=⟨0,by omega,rfl,by have:=Row.of_make hown;exact this,qaL hgr⟩
 clear hown hgr
 go_loopw [15] (fun v15 wr=>RelSc w f v v15 wr) (fun v15 _=>v.length-(intOf v15).toNat)
 case atStart=>exact HS.out
 case round =>
  obtain ⟨k,hk,rfl,hrow,hb⟩:=hrel
  have HR:=Lib.hid hrow
  have HB:=Lib.hid hb
  clear hrow hb HS
  by_cases hlt:k<v.length
  . obtain ⟨b,o,rfl,hbl,hc⟩ := (HA.out.keep HB.out).at_ (k := k) (by rw [qaB];exact hlt)
    rw [qaF] at hc
    have hxq:=HV.out k hlt
    have HST:=Lib.hid (scK_set f v k hlt)
    have f0:=HR.out.frozen k
    have c0:=HR.out.cell (j:=k) (by rw [qaB,scK_len f v k hk];exact hlt)
    generalize v.getD k 0=x at *
    go_wp2_with fail
    (with_reducible refine (HC.out x wr hxq HB.out).mono ?_)
    rintro e w2 ⟨rfl,n,rfl⟩
    go_wp2_with fail
    go_roundw
    case rel =>
     refine ⟨k+1,by omega,by go_num,?_,(qaA HB.out n).setCell (p:=⟨w.heap.size,k,none⟩) (Nat.le_refl _) _⟩
     rw [<- HST.out,<- qbX]
     exact Row.set (w:=wr.drewN n) HR.out k _
    case measure=>simp [intOf];omega
  . obtain rfl : k = v.length := by omega
    go_wp2_with fail
    go_ret
    refine ⟨rfl,?_,HB.out⟩
    have:=HR.out
    unfold scK at this
    rw [Nat.sub_self,List.replicate_zero,List.append_nil,List.take_length] at this
    rw [HFE.out]
    exact this
set_option maxHeartbeats 1000000 in
set_option maxRecDepth 100000 in
theorem sclone_c (zs:List Int) (A:Option Addr) (c:Nat) (w:World) (hA:IntsAt w w.heap.size A zs) (h0:0<zs.length) (hl:zs.length<=1000000) :
 Calls Tryz.prog 74 #[.slice A zs.length c] w fun e w'=>(∃ g c',e=.returned (.slice (some ⟨g,0,none⟩) zs.length c')/\Row w' w.heap.size g c' zs)/\Below w.heap.size w w':=by
 obtain ⟨i0,hi,hz0,hz1,hz2⟩:=qaG infoInt
 obtain ⟨b,o,rfl,hbl,hc⟩:=hA h0
 have HI:=Lib.hid hi
 have HZ0:=Lib.hid hz0
 have HZ1:=Lib.hid hz1
 have HZ2:=Lib.hid hz2
 have HOE:Hid ((w.alloc (.cells #[] 3)).ownsRow w.heap.size 3 1 (.slice (some ⟨w.heap.size,0,none⟩) 0 0) 0 []):=World.ownsRow_made w #[] 0 (Nat.le_refl _) (by unfold maxLen;omega) rfl
 have HNEW:Hid (∀ (j:Nat) (u:Value),(zs.map (Value.int .i64))[j]?=some u->(w.alloc (.cells #[] 3)).cell? ((⟨b,o,none⟩:Addr).add j)=some u):=(hA.keep ((Below.refl _ _).alloc (Nat.le_refl _) _)).news
 clear hi hz0 hz1 hz2 hA hc
 have hen:∀ (W:World) (a:Option Addr) (n c n' c':Nat),(binOp .eql 23 (.slice a n c) (.slice none n' c')).run Tryz.prog W=.ok (.bool a.isNone) W:=fun W a n c n' c'=>Lib.run_eql_slice_nil W 23 3 a n c n' c' Tryz.underlying23
 go_enter Tryz.func74,Tryz.ntmps74
 go_wp2_with (at_builtin;refine wpList_append_lies _ rfl (.tmp 5) (.tmp 6) 23 rfl w.heap.size 3 i0 _ 1 8 Tryz.underlying23 HI.out HZ0.out HZ1.out HZ2.out rfl (by decide) (.slice (some ⟨w.heap.size,0,none⟩) 0 0) 0 [] rfl HOE.out ⟨b,o,none⟩ zs.length c (zs.map (Value.int .i64)) rfl ?c0 HNEW.out ?c2 h0 ?c3 ?c4 ?c5 _ rfl ?_)
 case c0=>simp
 case c2=>intro u hu;obtain ⟨z,_,rfl⟩:=List.mem_map.1 hu;rfl
 case c3=>unfold maxLen;omega
 case c4=>omega
 case c5=>simp
 intro g cap w1 hown hgr hat hlt
 have HR:Hid (Row w1 w.heap.size g cap zs):=by
  show w1.ownsRow _ _ _ _ _ _
  exact hown
 have HB:Hid (Below w.heap.size w w1):=((Below.refl _ _).alloc (Nat.le_refl _) _).grown hgr (by simp) (fun k hk=>by simp [Value.ownBlock] at hk;omega)
 clear hown hgr hat hlt hen
 go_wp2_with fail
 go_ret
 exact ⟨⟨g,cap,rfl,HR.out⟩,HB.out⟩
end Go.Proofs.YtlmglaonldlanaaGreat
namespace Go.Proofs.YtlmglaonldlanaaGreat
open Go.RowKit Pln
def adK (O:Ops) (v:List Nat) (a:Nat) (u:List Nat) (k:Nat):List Nat:=addRow O (v.take k) a (u.take k)++v.drop k
theorem qcR (O:Ops) (v:List Nat) (a:Nat) (u:List Nat) (h:v.length=u.length):(addRow O v a u).length=v.length:=by
 unfold addRow
 rw [List.length_zipWith,h,Nat.min_self]
theorem adK_len (O:Ops) (v:List Nat) (a:Nat) (u:List Nat) (k:Nat) (h:v.length=u.length) (hk:k<=v.length):(adK O v a u k).length=v.length:=by
 unfold adK
 rw [List.length_append,qcR _ _ _ _ (by rw [List.length_take,List.length_take,h]),List.length_take,List.length_drop]
 omega
theorem adK_at (O:Ops) (v:List Nat) (a:Nat) (u:List Nat) (k:Nat) (h:v.length=u.length) (hk:k<v.length):(adK O v a u k).getD k 0=v.getD k 0:=by
 unfold adK
 have hl:(addRow O (v.take k) a (u.take k)).length=k:=by rw [qcR _ _ _ _ (by rw [List.length_take,List.length_take,h]),List.length_take];omega
 simp only [List.getD]
 rw [List.getElem?_append_right (by omega),hl,Nat.sub_self,List.getElem?_drop,Nat.add_zero]
theorem adK_set (O:Ops) (v:List Nat) (a:Nat) (u:List Nat) (k:Nat) (h:v.length=u.length) (hk:k<v.length) :
 (adK O v a u k).set k (if u.getD k 0=0 then v.getD k 0 else O.add (v.getD k 0) (O.mul a (u.getD k 0)))=adK O v a u (k+1):=by
 unfold adK
 have hl:(addRow O (v.take k) a (u.take k)).length=k:=by rw [qcR _ _ _ _ (by rw [List.length_take,List.length_take,h]),List.length_take];omega
 rw [List.set_append_right _ _ (by omega),hl,Nat.sub_self,List.drop_eq_getElem_cons hk,List.set_cons_zero]
 rw [List.take_succ_eq_append_getElem hk,List.take_succ_eq_append_getElem (l:=u) (by omega)]
 unfold addRow
 rw [List.zipWith_append (by rw [List.length_take,List.length_take,h])]
 have e1:v.getD k 0=v[k]:=by simp [List.getD,hk]
 have e2:u.getD k 0=u[k]:=by simp [List.getD,show k<u.length by omega]
 rw [e1,e2]
 simp
theorem adK_skip (O:Ops) (v:List Nat) (a:Nat) (u:List Nat) (k:Nat) (h:v.length=u.length) (hk:k<v.length) (h0:u.getD k 0=0):adK O v a u (k+1)=adK O v a u k:=by
 rw [<- adK_set O v a u k h hk,if_pos h0,<- adK_at O v a u k h hk]
 apply List.ext_getElem
 . simp
 . intro i h1 h2
   rw [List.getElem_set]
   split
   . rename_i hik
     subst hik
     have hkl:k<(adK O v a u k).length:=h2
     simp [List.getD,hkl]
   . rfl
theorem adK_end (O:Ops) (v:List Nat) (a:Nat) (u:List Nat) (h:v.length=u.length):adK O v a u v.length=addRow O v a u:=by
 unfold adK
 rw [List.take_length,List.drop_length,List.append_nil,List.take_of_length_le (by omega)]
def SDrew (wr W:World):Prop:=∃ n,W=wr.drewN n
def RelAd (w:World) (B gv cv:Nat) (O:Ops) (v:List Nat) (a:Nat) (u:List Nat) (v12:Value) (wr:World):Prop :=
 ∃ k:Nat,k<=v.length/\v12=.int .i64 k/\Row wr B gv cv (nz (adK O v a u k))/\w.grownBy wr (some gv)
theorem qcD {w w1 w2:World} {g:Nat} (h:w.grownBy w1 (some g)) (h':w1.grownBy w2 (some g)):w.grownBy w2 (some g) :=
 ⟨h'.os.trans h.os,h'.tape.trans h.tape,h'.output.trans h.output,Nat.le_trans h.size h'.size,fun k hk hne=>(h'.block k (Nat.lt_of_lt_of_le hk h.size) hne).trans (h.block k hk hne)⟩
theorem qdG (w:World) (n:Nat) (row:Option Nat):w.grownBy (w.drewN n) row:=⟨rfl,rfl,rfl,Nat.le_refl _,fun _ _ _=>rfl⟩
theorem qbQ (w:World) (p:Addr) (u:Value):w.grownBy (w.setCell p u) (some p.block):=⟨rfl,rfl,rfl,by simp,fun k _ hne=>Below.heap_setCell w p u k (fun e=>hne (by rw [e]))⟩
theorem qdI {w w':World} {g:Nat} (h:w.grownBy w' (some g)) (hg:g<=w.heap.size):Below g w w':=⟨h.os,h.tape,h.output,h.size,fun k hk=>h.block k (by omega) (fun e=>by injection e with e;omega)⟩
set_option maxHeartbeats 1000000 in
set_option maxRecDepth 100000 in
theorem madd_c (a gb p m Bg B gv cv gu cu:Nat) (md l v u:List Nat) (w:World) (hF:FT p m md l) (hG:GFAt w Bg gb p m l (logL l (p ^ m))) (hBg:Bg<=gv) (ha:a<p ^ m) (hv:∀ x∈v,x<p ^ m) (hu:∀ x∈u,x<p ^ m)
 (hrv:Row w B gv cv (nz v)) (hru:Row w B gu cu (nz u)) (hne:gu≠gv) (hlen:v.length=u.length) (hl:v.length<=1000) :
 Calls Tryz.prog 233 #[.pointer (some ⟨gb,0,none⟩),.slice (some ⟨gv,0,none⟩) v.length cv,.int .i64 a,.slice (some ⟨gu,0,none⟩) v.length cu] w fun e w'=>e=.returned (.tuple #[])/\Row w' B gv cv (nz (addRow (opsT p m l) v a u))/\w.grownBy w' (some gv):=by
 have hgvs:=hrv.lt.2
 have HC:Hid (∀ x W,x<p ^ m->w.grownBy W (some gv)->Calls Tryz.prog 142 #[.pointer (some ⟨gb,0,none⟩),.int .i64 (a:Int),.int .i64 (x:Int)] W (Quiet (.int .i64 (((opsT p m l).mul a x:Nat):Int)) W)) :=
  fun x W hx hb=>mul_c a x gb p m Bg md l W hF (hG.keep ((qdI hb (Nat.le_of_lt hgvs)).mono hBg)) ha hx
 have HD:Hid (∀ x y W,x<p ^ m->y<p ^ m->w.grownBy W (some gv)->Calls Tryz.prog 143 #[.pointer (some ⟨gb,0,none⟩),.int .i64 (x:Int),.int .i64 (y:Int)] W (Quiet (.int .i64 (((opsT p m l).add x y:Nat):Int)) W)) :=
  fun x y W hx hy hb=>add_c x y gb p m Bg l _ W hF.small (hG.keep ((qdI hb (Nat.le_of_lt hgvs)).mono hBg)) hx hy
 have HML:Hid (∀ x,x<p ^ m->(opsT p m l).mul a x<p ^ m):=fun x hx=>qcZ hF ha hx
 have HV:Hid (∀ k,k<v.length->v.getD k 0<p ^ m):=fun k hk=>by
  have:v.getD k 0=v[k]:=by simp [List.getD,hk]
  rw [this]
  exact hv _ (List.getElem_mem hk)
 have HU:Hid (∀ k,k<v.length->u.getD k 0<p ^ m):=fun k hk=>by
  have hk2:k<u.length:=by omega
  have:u.getD k 0=u[k]:=by simp [List.getD,hk2]
  rw [this]
  exact hu _ (List.getElem_mem hk2)
 have HRU:=Lib.hid hru
 have HS:Hid (RelAd w B gv cv (opsT p m l) v a u (.int .i64 ((0:Nat):Int)) w):=⟨0,by omega,rfl,by simpa [adK,addRow] using hrv,World.grownBy.refl _ _⟩
 have HLEN:=Lib.hid hlen
 clear hF hG hv hu hrv hru hlen
 generalize opsT p m l=O at *
 generalize p ^ m=q at *
 go_enter Tryz.func233,Tryz.ntmps233
 go_wp2_with fail
 go_loopw [12] (fun v12 wr=>RelAd w B gv cv O v a u v12 wr) (fun v12 _=>v.length-(intOf v12).toNat)
 case atStart=>exact HS.out
 case round =>
  obtain ⟨k,hk,rfl,hrow,hgr⟩:=hrel
  have HR:=Lib.hid hrow
  have HG:=Lib.hid hgr
  clear hrow hgr HS
  by_cases hlt:k<v.length
  . have HRU2 := Lib.hid (HRU.out.grown HG.out (by simp;exact hne))
    have y0:wr.cell? ⟨gu,k,none⟩=some (.int .i64 ((u.getD k 0:Nat):Int)):=by rw [<- qaF];exact HRU2.out.cell (by rw [qaB,<- HLEN.out];exact hlt)
    have y1:wr.cell? ⟨gv,k,none⟩=some (.int .i64 ((v.getD k 0:Nat):Int)):=by rw [<- adK_at O v a u k HLEN.out hlt,<- qaF];exact HR.out.cell (by rw [qaB,adK_len O v a u k HLEN.out hk];exact hlt)
    have f1:=HR.out.frozen k
    have HSET:=Lib.hid (adK_set O v a u k HLEN.out hlt)
    have HSKIP:=Lib.hid (adK_skip O v a u k HLEN.out hlt)
    have hxq:=HU.out k hlt
    have hvq:=HV.out k hlt
    have k0:(0:Int)<=(k:Int):=by omega
    have k1:(k:Int)<(v.length:Int):=by omega
    clear HRU2
    by_cases h0:u.getD k 0=0
    . have HE := Lib.hid (HSKIP.out h0)
      rw [h0] at y0
      clear HSET HSKIP h0
      go_wp2_with fail
      go_roundw
      case rel=>exact ⟨k+1,by omega,by go_num,by rw [HE.out];exact HR.out,HG.out⟩
      case measure=>simp [intOf];omega
    . rw [if_neg h0] at HSET
      clear HSKIP
      generalize u.getD k 0=x at *
      generalize v.getD k 0=y at *
      have hx0:((x:Int) != 0)=true:=by simpa using h0
      have hx1:¬ (x:Int)=0:=by omega
      have HM:Hid (∀ W,SDrew wr W->Calls Tryz.prog 142 #[.pointer (some ⟨gb,0,none⟩),.int .i64 (a:Int),.int .i64 (x:Int)] W fun e w'=>e=.returned (.int .i64 ((O.mul a x:Nat):Int))/\SDrew wr w'):=fun W ⟨n,hW⟩=>by
       subst hW
       refine (HC.out x _ hxq (qcD HG.out (qdG wr n _))).mono ?_
       rintro e w' ⟨he,k,rfl⟩
       exact ⟨he,n+k,by rw [World.drewN_drewN]⟩
      have HMQ:=HML.out x hxq
      have HAD:Hid (∀ W,SDrew wr W->Calls Tryz.prog 143 #[.pointer (some ⟨gb,0,none⟩),.int .i64 (y:Int),.int .i64 ((O.mul a x:Nat):Int)] W fun e w'=>e=.returned (.int .i64 ((O.add y (O.mul a x):Nat):Int))/\SDrew wr w'):=fun W ⟨n,hW⟩=>by
       subst hW
       refine (HD.out y _ _ hvq HMQ (qcD HG.out (qdG wr n _))).mono ?_
       rintro e w' ⟨he,k,rfl⟩
       exact ⟨he,n+k,by rw [World.drewN_drewN]⟩
      clear hx1
      go_upto_region 4 with fail
      refine qaN 13 (SDrew wr) (by kernel_rfl) (by kernel_rfl) ⟨1,rfl⟩ ?_
      simp only [List.take_succ_cons,List.take_zero,List.drop_succ_cons,List.drop_zero]
      repeat (first
       | (apply qaM rfl
          . intro W hS
            obtain ⟨n,rfl⟩:=hS
            go_simp
            rfl
          go_simp)
       | (apply qaV rfl
          . intro W hS
            go_simp
            exact ⟨rfl,rfl⟩
          . intro W hS
            first
             | exact HM.out W hS
             | exact HAD.out W hS
          go_simp))
      refine qaJ ?_
      intro w2 hS2
      obtain ⟨n,rfl⟩:=hS2
      generalize O.add y (O.mul a x)=z at *
      go_wp2_with fail
      go_roundw
      case rel =>
       refine ⟨k+1,by omega,by go_num,?_,qcD (qcD HG.out (qdG wr n _)) (qbQ _ ⟨gv,k,none⟩ _)⟩
       rw [<- HSET.out,<- qbX]
       exact Row.set (w:=wr.drewN n) HR.out k _
      case measure=>simp [intOf];omega
  . obtain rfl : k = v.length := by omega
    go_wp2_with fail
    go_end0
    refine ⟨rfl,?_,HG.out⟩
    rw [<- adK_end O v a u HLEN.out]
    exact HR.out
end Go.Proofs.YtlmglaonldlanaaGreat
namespace Go.Proofs.YtlmglaonldlanaaGreat
open Go.RowKit Pln
theorem infoInts:(Tryz.prog.info? 23).map (fun i=>(i.zero,i.size,i.bytes))=some (some (.slice none 0 0),1,24):=by kernel_rfl
def bk (bs:List (Nat × Nat)) (i:Nat):Nat:=(bs.getD i (0,0)).1
def cp (bs:List (Nat × Nat)) (i:Nat):Nat:=(bs.getD i (0,0)).2
def hdr (rows:List (List Nat)) (bs:List (Nat × Nat)) (i:Nat):Value:=.slice (some ⟨bk bs i,0,none⟩) (rows.getD i []).length (cp bs i)
def hdrs (rows:List (List Nat)) (bs:List (Nat × Nat)):List Value:=(List.range rows.length).map (hdr rows bs)
structure GridAt (w:World) (B R cR:Nat) (rows:List (List Nat)) (bs:List (Nat × Nat)):Prop where
 len:bs.length=rows.length
 out:w.ownsRow B 23 1 (.slice (some ⟨R,0,none⟩) rows.length cR) rows.length (hdrs rows bs)
 row:∀ i,i<rows.length->Row w B (bk bs i) (cp bs i) (nz (rows.getD i []))
 nd:∀ i j,i<rows.length->j<rows.length->i≠j->bk bs i≠bk bs j
section
variable {w w':World} {B R cR:Nat} {rows:List (List Nat)} {bs:List (Nat × Nat)}
theorem GridAt.cell (h:GridAt w B R cR rows bs) {i:Nat} (hi:i<rows.length):w.cell? ⟨R,i,none⟩=some (.slice (some ⟨bk bs i,0,none⟩) (rows.getD i []).length (cp bs i)):=by
 rw [World.ownsRow.cellAt h.out i (by omega)]
 simp [hdrs,hi,hdr]
theorem GridAt.frozen (h:GridAt w B R cR rows bs) (i:Nat):w.frozen? ⟨R,i,none⟩=false:=World.ownsRow.frozenAt h.out i
theorem GridAt.lt (h:GridAt w B R cR rows bs):B<=R/\R<w.heap.size:=World.ownsRow.lt h.out R rfl
theorem qeC {e:TypeId} {n c:Nat} {xs:List Value} (h:w.ownsRow B e 1 (.slice (some ⟨R,0,none⟩) n c) n xs):∃ cur,w.heap[R]?=some (.cells cur e (0,0)):=by
 rcases h.2 with ⟨h1,_⟩ | ⟨g,cap,cur,hv,_,hh,_⟩
 . cases h1
 . simp only [Value.slice.injEq,Option.some.injEq,Addr.mk.injEq,and_true,true_and] at hv
   obtain ⟨rfl,_⟩:=hv
   exact ⟨cur,hh⟩
theorem qdY {e:TypeId} {n c:Nat} {xs:List Value} (h:w.ownsRow B e 1 (.slice (some ⟨R,0,none⟩) n c) n xs) (hb:w'.heap[R]?=w.heap[R]?):w'.ownsRow B e 1 (.slice (some ⟨R,0,none⟩) n c) n xs:=by
 refine ⟨h.1,?_⟩
 rcases h.2 with ⟨h1,_⟩ | ⟨g,cap,cur,hv,hB,hh,r⟩
 . cases h1
 . have : g = R := by
    simp only [Value.slice.injEq,Option.some.injEq,Addr.mk.injEq,and_true,true_and] at hv
    exact hv.1.symm
   exact .inr ⟨g,cap,cur,hv,hB,by rw [this] at hh ⊢;exact hb.trans hh,r⟩
theorem GridAt.ne (h:GridAt w B R cR rows bs) {B' g c:Nat} {zs:List Int} (hr:Row w B' g c zs):g≠R:=by
 rintro rfl
 obtain ⟨c1,e1⟩:=qeC h.out
 obtain ⟨c2,e2⟩:=qeC (e:=3) hr
 rw [e1] at e2
 injection e2 with e2
 injection e2 with _ ht
 exact absurd ht (by decide)
theorem GridAt.of_blocks (h:GridAt w B R cR rows bs) (hb:∀ k,B<=k->k<w.heap.size->w'.heap[k]?=w.heap[k]?):GridAt w' B R cR rows bs:=by
 refine ⟨h.len,qdY h.out (hb R h.lt.1 h.lt.2),fun i hi=>?_,h.nd⟩
 have hr:=h.row i hi
 exact qdY hr (hb _ hr.lt.1 hr.lt.2)
theorem GridAt.grow (h:GridAt w B R cR rows bs) (hb:Below w.heap.size w w'):GridAt w' B R cR rows bs:=h.of_blocks fun k _ hk=>hb.block k hk
theorem GridAt.drewN (h:GridAt w B R cR rows bs) (n:Nat):GridAt (w.drewN n) B R cR rows bs:=h.of_blocks fun _ _ _=>rfl
theorem GridAt.else_ (h:GridAt w B R cR rows bs) {p:Addr} (hR:R≠p.block) (hr:∀ i,i<rows.length->bk bs i≠p.block) (u:Value):GridAt (w.setCell p u) B R cR rows bs:=by
 refine ⟨h.len,qdY h.out (Below.heap_setCell w p u R hR),fun i hi=>(h.row i hi).far (hr i hi) u,h.nd⟩
theorem qbU {α:Type} (l:List α) (i j:Nat) (x d:α) (hi:i<l.length):(l.set i x).getD j d=if j=i then x else l.getD j d:=by
 by_cases h:j=i
 . subst h
   simp [List.getD,hi]
 . rw [if_neg h]
   simp only [List.getD]
   rw [List.getElem?_set_ne (by omega)]
theorem hdrs_set (rows:List (List Nat)) (bs:List (Nat × Nat)) (hl:bs.length=rows.length) (i:Nat) (hi:i<rows.length) (r:List Nat) (b:Nat × Nat) :
 hdrs (rows.set i r) (bs.set i b)=(hdrs rows bs).set i (.slice (some ⟨b.1,0,none⟩) r.length b.2):=by
 apply List.ext_getElem
 . simp [hdrs]
 . intro j h1 h2
   have hj:j<rows.length:=by simpa [hdrs] using h1
   rw [List.getElem_set]
   simp only [hdrs,List.getElem_map,List.getElem_range,hdr,bk,cp,qbU _ _ _ _ _ hi,qbU bs i j b (0,0) (by omega)]
   by_cases hij:i=j
   . subst hij;simp
   . rw [if_neg (fun e=>hij e.symm),if_neg (fun e=>hij e.symm),if_neg hij]
theorem GridAt.put (h:GridAt w B R cR rows bs) {i:Nat} (hi:i<rows.length) {g c:Nat} {r:List Nat} (hr:Row w B g c (nz r)) (hg:∀ j,j<rows.length->bk bs j≠g) :
 GridAt (w.setCell ⟨R,i,none⟩ (.slice (some ⟨g,0,none⟩) r.length c)) B R cR (rows.set i r) (bs.set i (g,c)):=by
 refine ⟨by simp [h.len],?_,fun j hj=>?_,fun j k hj hk hjk=>?_⟩
 . rw [hdrs_set rows bs h.len i hi r (g,c),List.length_set]
   exact (World.ownsRow.stored h.out i _).1
 . rw [List.length_set] at hj
   unfold bk cp
   rw [qbU _ _ _ _ _ hi,qbU bs i j (g,c) (0,0) (by rw [h.len];exact hi)]
   by_cases hij:j=i
   . subst hij
     rw [if_pos rfl,if_pos rfl]
     exact hr.far (p:=⟨R,j,none⟩) (h.ne hr) _
   . rw [if_neg hij,if_neg hij]
     exact (h.row j hj).far (p:=⟨R,i,none⟩) (h.ne (h.row j hj)) _
 . rw [List.length_set] at hj hk
   unfold bk
   rw [qbU bs i j (g,c) (0,0) (by rw [h.len];exact hi),qbU bs i k (g,c) (0,0) (by rw [h.len];exact hi)]
   by_cases h1:j=i
   . rw [if_pos h1,if_neg (by omega)]
     exact fun e=>hg k hk e.symm
   . rw [if_neg h1]
     by_cases h2:k=i
     . rw [if_pos h2]
       exact hg j hj
     . rw [if_neg h2]
       exact h.nd j k hj hk hjk
theorem GridAt.turn (h:GridAt w B R cR rows bs) {i:Nat} (hi:i<rows.length) {r:List Nat} (hl:r.length=(rows.getD i []).length) (hr:Row w' B (bk bs i) (cp bs i) (nz r)) (hg:w.grownBy w' (some (bk bs i))) :
 GridAt w' B R cR (rows.set i r) bs:=by
 have hne:=h.ne (h.row i hi)
 refine ⟨by simp [h.len],?_,fun j hj=>?_,fun j k hj hk hjk=>h.nd j k (by simpa using hj) (by simpa using hk) hjk⟩
 . have e : hdrs (rows.set i r) bs = hdrs rows bs := by
    unfold hdrs
    rw [List.length_set]
    apply List.map_congr_left
    intro j _
    unfold hdr
    rw [qbU _ _ _ _ _ hi]
    by_cases hij:j=i
    . subst hij;rw [if_pos rfl,hl]
    . rw [if_neg hij]
   rw [e,List.length_set]
   exact qdY h.out (hg.block R h.lt.2 (fun e=>hne (by injection e with e;exact e.symm)))
 . rw [List.length_set] at hj
   rw [qbU _ _ _ _ _ hi]
   by_cases hij:j=i
   . subst hij;rw [if_pos rfl];exact hr
   . rw [if_neg hij]
     exact (h.row j hj).grown hg (fun e=>h.nd j i hj hi hij (by injection e))
end
end Go.Proofs.YtlmglaonldlanaaGreat
