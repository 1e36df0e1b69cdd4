/-
 The reference's elimination.
-/
import Derived.Deep.CutBlock
import Derived.Deep.DeepCutAuto
import Derived.Test.YtlmglaonldlanaaGreatQ24
import Derived.Test.YtlmglaonldlanaaGreatQ01
namespace Go.Proofs.YtlmglaonldlanaaGreat
open Go.RowKit Pln
theorem ints_own {w:World} {B n ck:Nat} {VA:Option Addr} {l:List Nat} (h:w.ownsRow B 3 1 (.slice VA n ck) n ((nz l).map (Value.int .i64))) (hn:l.length=n):IntsAt w w.heap.size VA (nz l):=fun hz=>by
 rw [qaB] at hz
 obtain ⟨VA',ck',e,hR⟩:=qbO h
 injection e with e1 e2 e3
 subst e1
 obtain ⟨R,rfl⟩:=hR (by omega)
 have hlt:=World.ownsRow.lt h R rfl
 refine ⟨R,0,rfl,hlt.2,fun j hj=>?_⟩
 rw [qaB] at hj
 rw [Nat.zero_add,World.ownsRow.cellAt h j (by omega)]
 have hj':j<(nz l).length:=by rw [qaB];exact hj
 simp [List.getD,hj']
def LS (w0 W:World):Prop:=Below w0.heap.size w0 W
theorem SBoxF.bl {w:World} {p m:Int} {A:Option Addr} {n c:Nat} {W:World} (h:SBoxF w p m A n c W):Below w.heap.size w W:=h.1
theorem qfP {p m:Nat} {md:List Nat} {A:Option Addr} {n B:Nat} {W:World} (h:RFld p m md A n B W) (hf:∃ l,FT p m md l):OpsEq (p ^ m) (refOps p m md) (refOps p m md):=by
 obtain ⟨l,hl⟩:=hf
 have e:=ops_eq hl h.len
 exact ⟨fun x y hx hy=>⟨rfl,by rw [<- (e.add x y hx hy).1];exact (e.add x y hx hy).2⟩,fun x y hx hy=>⟨rfl,by rw [<- (e.mul x y hx hy).1];exact (e.mul x y hx hy).2⟩,
  fun x hx=>⟨rfl,by rw [<- (e.neg x hx).1];exact (e.neg x hx).2⟩,fun x hx h0=>⟨rfl,by rw [<- (e.inv x hx h0).1];exact (e.inv x hx h0).2⟩⟩
theorem col_facts2 {q:Nat} {O:Ops} (E:OpsEq q O O) {n cols c k:Nat} {s:ElS} (hG:Grid q n cols s.rows) (hpn:s.piv.length<n) (hlt:c<cols) (hk:k=findRow s.rows c (s.rows.length-s.piv.length) s.piv.length) (hk2:k<n) :
 Grid q n cols (swapRows s.rows s.piv.length k)/\at2 (swapRows s.rows s.piv.length k) s.piv.length c≠0/\Grid q n cols (normRow O (swapRows s.rows s.piv.length k) s.piv.length c) /\
 (∀ i,i<=n->Grid q n cols (clearGo O c s.piv.length (normRow O (swapRows s.rows s.piv.length k) s.piv.length c) i)) /\
 elStep O c s=⟨clearGo O c s.piv.length (normRow O (swapRows s.rows s.piv.length k) s.piv.length c) n,s.piv++[c]⟩:=by
 have hln:=hG.1
 have g1:=swap_grid hG hpn hk2
 have e0:at2 s.rows k c≠0:=by
  have:=qeB s.rows c (s.rows.length-s.piv.length) s.piv.length (by omega)
  rw [<- hk] at this
  exact this
 have e1:at2 (swapRows s.rows s.piv.length k) s.piv.length c≠0:=by
  unfold at2 at e0 ⊢
  rw [swap_at (by omega) (by omega)]
  exact e0
 have g2:=(norm_eq E g1 hpn hlt e1).2
 refine ⟨g1,e1,g2,fun i hi=>(qfA E g2 hlt hpn i hi).2,?_⟩
 unfold elStep
 rw [if_pos (by omega),<- hk,if_neg (by omega),hln]
def RelRE (w:World) (p m:Nat) (A:Option Addr) (n cA R cR:Nat) (O:Ops) (rows:List (List Nat)) (cols g:Nat) (v9 v10 v11:Value) (wr:World):Prop :=
 ∃ (cc:Nat) (bs:List (Nat × Nat)) (VA:Option Addr) (Vk:Nat),cc+g=cols/\v11=.int .i64 (cc:Int)/\v10=.int .i64 ((elGo O rows cc).piv.length:Int)/\v9=.slice VA (elGo O rows cc).piv.length Vk/\ES w p m A n cA R cR (elGo O rows cc).rows rows.length (.slice VA (elGo O rows cc).piv.length Vk) (elGo O rows cc).piv bs wr
def RElPost (w:World) (O:Ops) (rows:List (List Nat)) (cols:Nat) (e:Ending) (w':World):Prop :=
 (∃ (R cR:Nat) (VA:Option Addr) (ck:Nat) (bs:List (Nat × Nat)),e=.returned (.tuple #[.slice (some ⟨R,0,none⟩) rows.length cR,.slice VA (elGo O rows cols).piv.length ck])/\GridAt w' (w.heap.size+1) R cR (elGo O rows cols).rows bs/\IntsAt w' w'.heap.size VA (nz (elGo O rows cols).piv))/\Below w.heap.size w w'
def RelK0 (w1:World) (rows:List (List Nat)) (c N t:Nat) (v12:Value) (wx:World):Prop:=v12=.int .i64 ((findRow rows c (N-t) t:Nat):Int)/\wx=w1
def RelES (w:World) (p m:Nat) (A:Option Addr) (n cA R cR:Nat) (rows:List (List Nat)) (N:Nat) (v9:Value) (piv:List Nat) (vt:Value) (wx:World):Prop:=vt=.int .i64 (piv.length:Int)/\∃ bs,ES w p m A n cA R cR rows N v9 piv bs wx
def RelRC (w:World) (p m:Nat) (A:Option Addr) (n cA R cR:Nat) (O:Ops) (c:Nat) (rows2:List (List Nat)) (N:Nat) (v9:Value) (piv:List Nat) (v13:Value) (wx:World):Prop:=∃ (i:Nat) (bs:List (Nat × Nat)),i<=N/\v13=.int .i64 (i:Int)/\ES w p m A n cA R cR (clearGo O c piv.length rows2 i) N v9 piv bs wx
set_option maxHeartbeats 4000000 in
set_option maxRecDepth 100000 in
theorem reliminate_c (p m:Nat) (md:List Nat) (A:Option Addr) (n cA:Nat) (rows:List (List Nat)) (A2:Option Addr) (c2 cols:Nat) (w:World) (hR:RFld p m md A n w.heap.size w) (hf:∃ l,FT p m md l) (hgr:Grid (p ^ m) rows.length cols rows) (hA:RowsAt w w.heap.size A2 (nzs rows)) (h1:1<=cols) (hc:cols<=256) (hn0:0<rows.length) (hn:rows.length<=256) :
 Calls Tryz.prog 87 #[.agg #[.int .i64 p,.int .i64 m,.slice A n cA],.slice A2 rows.length c2,.int .i64 cols] w (RElPost w (refOps p m md) rows cols):=by
 have HX:=Lib.hid (qbP w p m A n cA)
 have HES:=Lib.hid (qfP hR hf)
 have HRF:Hid (∀ W,Below w.heap.size w W->RFld p m md A n W.heap.size W):=fun W hW=>(hR.keep hW).more hW.size
 have HCP:Hid (∀ W,Below w.heap.size w W->Calls Tryz.prog 147 #[.slice A2 rows.length c2] W fun e w'=>(∃ R cR bs,e=.returned (.slice (some ⟨R,0,none⟩) rows.length cR)/\GridAt w' W.heap.size R cR rows bs)/\Below W.heap.size W w'):=fun W hW =>
  rcopy_c rows A2 c2 W ((hA.keep hW).more hW.size) (fun r hr=>by have:=(hgr.2 r hr).1;omega) (by omega) hn0
 have HGR:=Lib.hid hgr
 clear hR hf hA hgr
 generalize hO:refOps p m md=O at *
 have HO:=Lib.hid hO
 clear hO
 go_enter Tryz.func87,Tryz.ntmps87
 go_upto_region 1 with fail
 have HSZ0:Hid ((w.alloc (.cells #[.int .i64 (p:Int),.int .i64 (m:Int),.slice A n cA] 29)).heap.size=w.heap.size+1):=by show _=_;simp
 generalize w.alloc (.cells #[.int .i64 (p:Int),.int .i64 (m:Int),.slice A n cA] 29)=W0 at *
 go_wp2_with fail
 (with_reducible refine (HCP.out W0 HX.out.bl).mono ?_)
 rintro e w1 ⟨⟨R,cR,bs0,rfl,hg0⟩,hb1⟩
 rw [HSZ0.out] at hg0
 have HS0:Hid (RelRE w p m A n cA R cR O rows cols cols (.slice none 0 0) (.int .i64 ((0:Nat):Int)) (.int .i64 ((0:Nat):Int)) w1):=⟨0,bs0,none,0,by omega,rfl,rfl,rfl,HX.out.grow hb1,hg0,⟨World.ownsRow_nil _ _ _ _,fun _ _=>by simp [Value.ownBlock]⟩,rfl⟩
 clear hg0 hb1 HX HCP HSZ0
 clear W0
 obtain ⟨i00,hi,hz0,hz1,hz2⟩:=qaG infoInt
 have HI:=Lib.hid hi
 have HZ0:=Lib.hid hz0
 have HZ1:=Lib.hid hz1
 have HZ2:=Lib.hid hz2
 clear hi hz0 hz1 hz2
 go_wp2_with fail
 go_loopg [9,10,11] cols (fun g v9 v10 v11 wr=>RelRE w p m A n cA R cR O rows cols g v9 v10 v11 wr)
 case atStart=>exact HS0.out
 case round =>
  obtain ⟨c,bs,VA,Vk,hcg,rfl,rfl,rfl,hes⟩:=hrel
  have HE:=Lib.hid hes
  have hrl:=qcW (O:=O) rows c
  have hpl:=qbW (O:=O) rows c
  have HRL:=Lib.hid hrl
  have HSTEP:Hid (elGo O rows (c+1)=elStep O c (elGo O rows c)):=rfl
  have HFULL:Hid ((elGo O rows c).piv.length=rows.length->elGo O rows cols=elGo O rows c):=fun h=>by
   have:=elGo_full (O:=O) rows h (cols-c)
   rw [show c+(cols-c)=cols by omega] at this
   exact this
  have HGC:Hid (Grid (p ^ m) rows.length cols (elGo O rows c).rows):=(qfR HES.out HGR.out c (by omega)).2
  clear hes hrl HS0
  generalize hse:elGo O rows c=s at *
  by_cases hlt:c<cols
  . by_cases hpn : s.piv.length < rows.length
    . go_upto_block 2 with fail
      go_cut [12] (fun v12 wx=>RelK0 wr s.rows c rows.length s.piv.length v12 wx)
      case first =>
       have HK0:Hid (∃ k:Nat,s.piv.length<=k/\k<=rows.length/\(.int .i64 (s.piv.length:Int):Value)=.int .i64 (k:Int)/\findRow s.rows c (rows.length-s.piv.length) s.piv.length=findRow s.rows c (rows.length-k) k):=⟨_,Nat.le_refl _,by omega,rfl,rfl⟩
       go_wp2_with fail
       go_loop [12] (fun v12=>∃ k:Nat,s.piv.length<=k/\k<=rows.length/\v12=.int .i64 (k:Int)/\findRow s.rows c (rows.length-s.piv.length) s.piv.length=findRow s.rows c (rows.length-k) k) (fun v12=>rows.length-(intOf v12).toNat)
       case atStart=>exact HK0.out
       case round =>
        obtain ⟨k,htk,hkn,rfl,hf⟩:=hrel
        have HFD:=Lib.hid hf
        clear hf HK0
        by_cases hkl:k<rows.length
        . have yh := HE.out.hd HGC.out hkl
          have ye:=HE.out.en HGC.out hkl hlt
          have HFN:Hid (findRow s.rows c (rows.length-k) k=if at2 s.rows k c=0 then findRow s.rows c (rows.length-(k+1)) (k+1) else k):=by
           show _=_
           rw [show rows.length-k=(rows.length-(k+1))+1 by omega]
           rfl
          have k0:(0:Int)<=(k:Int):=by omega
          have k1:(k:Int)<(rows.length:Int):=by omega
          have c0:(0:Int)<=(c:Int):=by omega
          have c1:(c:Int)<(cols:Int):=by omega
          by_cases hz:at2 s.rows k c=0
          . rw [if_pos hz] at HFN
            rw [hz] at ye
            clear hz
            go_wp2_with fail
            go_round
            case rel=>exact ⟨k+1,by omega,by omega,by go_num,by rw [HFD.out,HFN.out]⟩
            case measure=>simp [intOf];omega
          . rw [if_neg hz] at HFN
            have hzb:(((at2 s.rows k c:Nat):Int)==0)=false:=by simpa using hz
            go_wp2_with fail
            go_meet
            exact ⟨by rw [HFD.out,HFN.out],rfl⟩
        . obtain rfl : k = rows.length := by omega
          go_wp2_with fail
          go_meet
          exact ⟨by rw [HFD.out,Nat.sub_self];rfl,rfl⟩
      case rest =>
       obtain ⟨rfl,rfl⟩:=hcut
       have hfl:=qfC s.rows c (rows.length-s.piv.length) s.piv.length
       by_cases hke:findRow s.rows c (rows.length-s.piv.length) s.piv.length=rows.length
       . have HS1 : Hid (elGo O rows (c + 1) = s) := by
          show _=_
          rw [HSTEP.out]
          unfold elStep
          rw [if_pos (by rw [HRL.out];exact hpn),if_pos (by rw [HRL.out];exact hke)]
         rw [hke]
         clear hke hfl
         go_wp2_with fail
         go_roundg (cols-(c+1))
         case measure=>omega
         case rel=>exact ⟨c+1,bs,VA,Vk,by omega,by go_num,by rw [HS1.out],by rw [HS1.out],by rw [HS1.out];exact HE.out⟩
       . have hk2 : findRow s.rows c (rows.length - s.piv.length) s.piv.length < rows.length := by omega
         have hkf:findRow s.rows c (rows.length-s.piv.length) s.piv.length=findRow s.rows c (s.rows.length-s.piv.length) s.piv.length:=by rw [HRL.out]
         have hkb:(((findRow s.rows c (rows.length-s.piv.length) s.piv.length:Nat):Int)==(rows.length:Int))=false:=by rw [beq_eq_false_iff_ne];omega
         obtain ⟨g1,e1,g2,g3,hel⟩:=col_facts2 HES.out HGC.out hpn hlt hkf hk2
         have HEL:=Lib.hid (HSTEP.out.trans hel)
         have HSW:=Lib.hid (HE.out.swap (i:=s.piv.length) (j:=findRow s.rows c (rows.length-s.piv.length) s.piv.length) hpn hk2)
         rw [hdr_eq HGC.out bs hpn,hdr_eq HGC.out bs hk2] at HSW
         have yk:=HE.out.hd HGC.out hk2
         have yt:=HE.out.hd HGC.out hpn
         clear hfl hke hkf hel
         generalize findRow s.rows c (rows.length-s.piv.length) s.piv.length=k at *
         have G1:=Lib.hid g1
         have E1:=Lib.hid e1
         have G2:=Lib.hid g2
         have G3:=Lib.hid g3
         have HN1:Hid (at2 (swapRows s.rows s.piv.length k) s.piv.length c=1->normRow O (swapRows s.rows s.piv.length k) s.piv.length c=swapRows s.rows s.piv.length k):=fun h=>by unfold normRow;rw [if_pos h]
         have HN2:Hid (at2 (swapRows s.rows s.piv.length k) s.piv.length c≠1->normRow O (swapRows s.rows s.piv.length k) s.piv.length c=(swapRows s.rows s.piv.length k).set s.piv.length (scaleRow O (O.inv (at2 (swapRows s.rows s.piv.length k) s.piv.length c)) ((swapRows s.rows s.piv.length k).getD s.piv.length []))):=fun h=>by unfold normRow;rw [if_neg h]
         clear g1 e1 g2 g3
         generalize normRow O (swapRows s.rows s.piv.length k) s.piv.length c=rows2 at *
         have t0:(0:Int)<=(s.piv.length:Int):=by omega
         have t1:(s.piv.length:Int)<(rows.length:Int):=by omega
         have k0:(0:Int)<=(k:Int):=by omega
         have k1:(k:Int)<(rows.length:Int):=by omega
         have ft:=HE.out.2.1.frozen s.piv.length
         have fk:=HE.out.2.1.frozen k
         go_upto_region 11 with fail
         go_cut [10] (fun v10 wx=>RelES w p m A n cA R cR (swapRows s.rows s.piv.length k) rows.length (.slice VA s.piv.length Vk) s.piv v10 wx)
         case first =>
          by_cases htk:s.piv.length=k
          . subst htk
            go_region
            all_goals
             obtain ⟨bs',hsw⟩:=HSW.out
             have HX:=Lib.hid (hsw.grow (Below.refl _ _).drew)
             clear hsw yk yt ft fk
             go_wp2_with fail
             go_meet
             exact ⟨rfl,bs',HX.out⟩
          . have hkt : k ≠ s.piv.length := fun e => htk e.symm
            go_region
            all_goals
             obtain ⟨bs',hsw⟩:=HSW.out
             have HX:=Lib.hid (hsw.grow (Below.refl _ _).drew)
             clear hsw yk yt ft fk
             go_wp2_with fail
             go_meet
             exact ⟨rfl,bs',HX.out⟩
         case rest =>
          obtain ⟨rfl,bs1,hes1⟩:=hcut
          clear yk yt ft fk k0 k1 hkb HSW HE
          generalize swapRows s.rows s.piv.length k=rows1 at *
          have HE1:=Lib.hid hes1
          have yt:=hes1.hd G1.out hpn
          have ye:=hes1.en G1.out hpn hlt
          have hx:=G1.out.at_ hpn hlt
          have HV1:=Lib.hid (G1.out.row hpn)
          have hinvq:=(HES.out.inv _ hx E1.out).2
          clear hes1
          generalize at2 rows1 s.piv.length c=x at *
          have HXN:=Lib.hid E1.out
          have c0:(0:Int)<=(c:Int):=by omega
          have c1:(c:Int)<(cols:Int):=by omega
          go_upto_if 69 with fail
          go_cut [10] (fun v10 wx=>RelES w p m A n cA R cR rows2 rows.length (.slice VA s.piv.length Vk) s.piv v10 wx)
          case first =>
           by_cases hx1:x=1
           . have hxb : ((x : Int) != 1) = false := by rw [hx1];rfl
             have HN:=Lib.hid (HN1.out hx1)
             clear hx1 yt ye
             go_wp2_with fail
             go_meet
             exact ⟨rfl,bs1,by rw [HN.out];exact HE1.out⟩
           . have hxb : ((x : Int) != 1) = true := by rw [bne_iff_ne];omega
             have HN:=Lib.hid (HN2.out hx1)
             clear hx1
             have z0:=HE1.out.1.c0
             have z1:=HE1.out.1.c1
             have z2:=HE1.out.1.c2
             have ft:=HE1.out.2.1.frozen s.piv.length
             have l0:w.heap.size<wc.heap.size:=HE1.out.1.2.1
             have lR:R<wc.heap.size:=HE1.out.2.1.lt.2
             have HINV:Hid (∀ W,LS wc W->Calls Tryz.prog 149 #[.agg #[.int .i64 p,.int .i64 m,.slice A n cA],.int .i64 x] W fun e w'=>e=.returned (.int .i64 ((O.inv x:Nat):Int))/\LS wc w'):=fun W hW=>by
              have hWb:Below w.heap.size w W:=HE1.out.1.bl.trans (Below.mono hW (Nat.le_of_lt l0))
              have:=(HRF.out W hWb).inv hx cA
              rw [HO.out] at this
              exact this.mono fun e w' ⟨he,hb⟩=>⟨he,Below.trans hW (hb.mono (Below.size hW))⟩
             have HRNG:Hid (∀ W,LS wc W->W.rangeAt w.heap.size 0 [.int .i64 (p:Int),.int .i64 (m:Int),.slice A n cA]):=fun W hW=>(HE1.out.1.grow hW).range
             have hsl:(scaleRow O (O.inv x) (rows1.getD s.piv.length [])).length=cols:=by unfold scaleRow;rw [List.length_map,HV1.out.1]
             have HSC:Hid (∀ W,Below wc.heap.size wc W->Calls Tryz.prog 148 #[.agg #[.int .i64 p,.int .i64 m,.slice A n cA],.int .i64 ((O.inv x:Nat):Int),.slice (some ⟨bk bs1 s.piv.length,0,none⟩) cols (cp bs1 s.piv.length)] W fun e w'=>(∃ g,e=.returned (.slice (some ⟨g,0,none⟩) cols cols)/\Row w' W.heap.size g cols (nz (scaleRow O (O.inv x) (rows1.getD s.piv.length []))))/\Below W.heap.size W w'):=fun W hW=>by
              have hWb:=HE1.out.1.bl.trans (hW.mono (Nat.le_of_lt l0))
              have:=rscale_c p m md A n cA (O.inv x) (rows1.getD s.piv.length []) (some ⟨bk bs1 s.piv.length,0,none⟩) (cp bs1 s.piv.length) W (HRF.out W hWb) hinvq HV1.out.2 ((HE1.out.ints hpn).keep hW |>.more hW.size) (by rw [HV1.out.1];omega)
              rw [HV1.out.1,HO.out] at this
              exact this
             have HFIN:Hid (∀ (W:World) (g:Nat),Below wc.heap.size wc W->Row W wc.heap.size g cols (nz (scaleRow O (O.inv x) (rows1.getD s.piv.length [])))->∃ bs',ES w p m A n cA R cR rows2 rows.length (.slice VA s.piv.length Vk) s.piv bs' (W.setCell ⟨R,s.piv.length,none⟩ (.slice (some ⟨g,0,none⟩) cols cols))):=fun W g hW hr=>by
              have:=HE1.out.put hW hpn hr
              rw [hsl,<- HN.out] at this
              exact ⟨_,this⟩
             clear hsl hinvq hx HN HN1 HN2
             generalize O.inv x=iv at *
             generalize scaleRow O iv (rows1.getD s.piv.length [])=sr at *
             go_upto_region 13 with fail
             have HCV:Hid (∀ W,LS wc W->W.cell? ⟨w.heap.size,0,none⟩=some (.int .i64 (p:Int))/\W.cell? ⟨w.heap.size,1,none⟩=some (.int .i64 (m:Int))/\W.cell? ⟨w.heap.size,2,none⟩=some (.slice A n cA)/\W.cell? ⟨R,s.piv.length,none⟩=some (.slice (some ⟨bk bs1 s.piv.length,0,none⟩) cols (cp bs1 s.piv.length))/\W.cell? ⟨bk bs1 s.piv.length,c,none⟩=some (.int .i64 (x:Int))):=fun W hW =>
              ⟨(Below.cell hW l0).trans z0,(Below.cell hW l0).trans z1,(Below.cell hW l0).trans z2,(Below.cell hW lR).trans yt,(Below.cell hW (World.block_lt_of_cell? _ _ ye)).trans ye⟩
             have HS0:Hid (LS wc wc.drew):=(Below.refl _ _).drew
             clear z0 z1 z2 yt ye
             refine qbL 17 (LS wc) [(true,0),(true,1),(true,2),(true,3),(true,4),(true,5),(true,6),(true,7),(true,8),(true,9),(true,10),(true,12),(true,13),(true,14),(true,15),(false,11),(false,16)] default (by kernel_rfl) (by kernel_rfl) (fun _ _ d _ _ h=>by cases d <;> exact h) HS0.out ?_
             simp only [List.map_cons,List.map_nil,List.getD_cons_zero,List.getD_cons_succ]
             repeat (first
              | (refine qdN rfl 29 (.tmp 3) rfl w.heap.size 0 rfl [.int .i64 (p : Int),.int .i64 (m : Int),.slice A n cA] _ HRNG.out Tryz.underlying29 rfl fieldSize ?_
                 go_simp)
              | (apply qdA rfl
                 . intro W hW
                   obtain ⟨z0,z1,z2,yt,ye⟩:=HCV.out W hW
                   go_simp
                   rfl
                 go_simp))
             apply qdB rfl
             . go_simp
               exact ⟨rfl,rfl⟩
             refine (HINV.out _ HS0.out).mono ?_
             rintro e w1 ⟨rfl,hb1'⟩
             refine ⟨_,rfl,hb1',?_⟩
             go_simp
             apply qdB rfl
             . go_simp
               exact ⟨rfl,rfl⟩
             refine (HSC.out w1 hb1').mono ?_
             rintro e w2 ⟨⟨g,rfl,hr2⟩,hb2⟩
             have hb1s:wc.heap.size<=w1.heap.size:=Below.size hb1'
             have hb2':Below wc.heap.size wc w2:=Below.trans hb1' (hb2.mono hb1s)
             refine ⟨_,rfl,hb2',?_⟩
             go_simp
             refine qeU ?_
             try simp only [List.drop_succ_cons,List.drop_zero]
             have yt2:=(HCV.out w2 hb2').2.2.2.1
             have ft2:=(hb2'.frozen (p:=⟨R,s.piv.length,none⟩) lR).trans ft
             have HY:=Lib.hid (HFIN.out w2 g hb2' (hr2.base (by have:=hr2.lt.1;omega)))
             clear ft hb2' hb2 hr2
             go_wp2_with fail
             go_meet
             exact ⟨rfl,HY.out⟩
          case rest =>
           obtain ⟨rfl,bs2,hes2⟩:=hcut
           have HL0:Hid (RelRC w p m A n cA R cR O c rows2 rows.length (.slice VA s.piv.length Vk) s.piv (.int .i64 ((0:Nat):Int)) wc):=⟨0,bs2,Nat.zero_le _,rfl,hes2⟩
           clear hes2 yt ye HE1 HXN hinvq hx HV1 HN1 HN2
           go_wp2_with fail
           go_loopw [13] (fun v13 wr=>RelRC w p m A n cA R cR O c rows2 rows.length (.slice VA s.piv.length Vk) s.piv v13 wr) (fun v13 _=>rows.length-(intOf v13).toNat)
           case atStart=>exact HL0.out
           case round =>
            obtain ⟨i,bs3,hi,rfl,hes3⟩:=hrel
            have HE3:=Lib.hid hes3
            clear HL0
            by_cases hil:i<rows.length
            . have hgi := G3.out i hi
              have yi:=hes3.hd hgi hil
              have yt:=hes3.hd hgi hpn
              have ye:=hes3.en hgi hil hlt
              have hx:=hgi.at_ hil hlt
              have HVI:=Lib.hid (hgi.row hil)
              have HVT:=Lib.hid (hgi.row hpn)
              have hnegq:=(HES.out.neg _ hx).2
              have HSTAY:Hid (i=s.piv.length\/at2 (clearGo O c s.piv.length rows2 i) i c=0->clearGo O c s.piv.length rows2 (i+1)=clearGo O c s.piv.length rows2 i):=clear_stay
              have HTURN:Hid (i≠s.piv.length->at2 (clearGo O c s.piv.length rows2 i) i c≠0->clearGo O c s.piv.length rows2 (i+1)=(clearGo O c s.piv.length rows2 i).set i (addRow O ((clearGo O c s.piv.length rows2 i).getD i []) (O.neg (at2 (clearGo O c s.piv.length rows2 i) i c)) ((clearGo O c s.piv.length rows2 i).getD s.piv.length []))):=clear_turn
              have HRL3:Hid (∀ wx,(∃ bs',ES w p m A n cA R cR (clearGo O c s.piv.length rows2 (i+1)) rows.length (.slice VA s.piv.length Vk) s.piv bs' wx)->RelRC w p m A n cA R cR O c rows2 rows.length (.slice VA s.piv.length Vk) s.piv (.int .i64 ((i:Int)+1)) wx):=fun wx ⟨bs',h⟩=>⟨i+1,bs',by omega,by go_num,h⟩
              clear hes3 hgi
              generalize clearGo O c s.piv.length rows2 i=rowsi at *
              generalize clearGo O c s.piv.length rows2 (i+1)=rowsn at *
              generalize at2 rowsi i c=y at *
              have i0:(0:Int)<=(i:Int):=by omega
              have i1:(i:Int)<(rows.length:Int):=by omega
              by_cases hit:i=s.piv.length
              . have hitb : ((i : Int) != (s.piv.length : Int)) = false := by rw [hit];simp
                have HS2:=Lib.hid (HSTAY.out (.inl hit))
                clear hit yi yt ye
                go_wp2_with fail
                go_roundw
                case rel=>exact HRL3.out _ ⟨bs3,by rw [HS2.out];exact HE3.out⟩
                case measure=>simp [intOf];omega
              . have hitb : ((i : Int) != (s.piv.length : Int)) = true := by rw [bne_iff_ne];omega
                by_cases hy0:y=0
                . have hyb : ((y : Int) != 0) = false := by rw [hy0];rfl
                  have HS2:=Lib.hid (HSTAY.out (.inr hy0))
                  clear hy0
                  go_wp2_with fail
                  go_roundw
                  case rel=>exact HRL3.out _ ⟨bs3,by rw [HS2.out];exact HE3.out⟩
                  case measure=>simp [intOf];omega
                . have hyb : ((y : Int) != 0) = true := by rw [bne_iff_ne];omega
                  have HS2:=Lib.hid (HTURN.out hit hy0)
                  have z0:=HE3.out.1.c0
                  have z1:=HE3.out.1.c1
                  have z2:=HE3.out.1.c2
                  have fi:=HE3.out.2.1.frozen i
                  have l0:w.heap.size<wr.heap.size:=HE3.out.1.2.1
                  have lR:R<wr.heap.size:=HE3.out.2.1.lt.2
                  have hRw:w.heap.size+1<=R:=HE3.out.2.1.lt.1
                  have HNEG:Hid (∀ W,LS wr W->Calls Tryz.prog 150 #[.agg #[.int .i64 p,.int .i64 m,.slice A n cA],.int .i64 y] W fun e w'=>e=.returned (.int .i64 ((O.neg y:Nat):Int))/\LS wr w'):=fun W hW=>by
                   have hWb:Below w.heap.size w W:=HE3.out.1.bl.trans (Below.mono hW (Nat.le_of_lt l0))
                   have:=(HRF.out W hWb).neg hx cA
                   rw [HO.out] at this
                   exact this.mono fun e w' ⟨he,hb⟩=>⟨he,Below.trans hW (hb.mono (Below.size hW))⟩
                  have HRNG:Hid (∀ W,LS wr W->W.rangeAt w.heap.size 0 [.int .i64 (p:Int),.int .i64 (m:Int),.slice A n cA]):=fun W hW=>(HE3.out.1.grow hW).range
                  have hsl:(addRow O (rowsi.getD i []) (O.neg y) (rowsi.getD s.piv.length [])).length=cols:=by rw [qcR _ _ _ _ (by rw [HVI.out.1,HVT.out.1]),HVI.out.1]
                  have HADD:Hid (∀ W,Below wr.heap.size wr W->Calls Tryz.prog 42 #[.agg #[.int .i64 p,.int .i64 m,.slice A n cA],.slice (some ⟨bk bs3 i,0,none⟩) cols (cp bs3 i),.int .i64 ((O.neg y:Nat):Int),.slice (some ⟨bk bs3 s.piv.length,0,none⟩) cols (cp bs3 s.piv.length)] W fun e w'=>(∃ g,e=.returned (.slice (some ⟨g,0,none⟩) cols cols)/\Row w' W.heap.size g cols (nz (addRow O (rowsi.getD i []) (O.neg y) (rowsi.getD s.piv.length []))))/\Below W.heap.size W w'):=fun W hW=>by
                   have hWb:=HE3.out.1.bl.trans (hW.mono (Nat.le_of_lt l0))
                   have:=raddto_c p m md A n cA (O.neg y) (rowsi.getD i []) (rowsi.getD s.piv.length []) (some ⟨bk bs3 i,0,none⟩) (some ⟨bk bs3 s.piv.length,0,none⟩) (cp bs3 i) (cp bs3 s.piv.length) W (HRF.out W hWb) hnegq HVI.out.2 HVT.out.2 (by rw [HVI.out.1,HVT.out.1]) ((HE3.out.ints hil).keep hW |>.more hW.size) ((HE3.out.ints hpn).keep hW |>.more hW.size) (by rw [HVI.out.1];omega)
                   rw [HVI.out.1,HO.out] at this
                   exact this
                  have HFIN:Hid (∀ (W:World) (g:Nat),Below wr.heap.size wr W->Row W wr.heap.size g cols (nz (addRow O (rowsi.getD i []) (O.neg y) (rowsi.getD s.piv.length [])))->∃ bs',ES w p m A n cA R cR rowsn rows.length (.slice VA s.piv.length Vk) s.piv bs' (W.setCell ⟨R,i,none⟩ (.slice (some ⟨g,0,none⟩) cols cols))):=fun W g hW hr=>by
                   have:=HE3.out.put hW hil hr
                   rw [hsl,<- HS2.out] at this
                   exact ⟨_,this⟩
                  clear hsl hnegq hx HS2 HSTAY HTURN HVI HVT hy0
                  generalize O.neg y=ny at *
                  generalize addRow O (rowsi.getD i []) ny (rowsi.getD s.piv.length [])=ar at *
                  go_upto_region 18 with fail
                  have HCV:Hid (∀ W,LS wr W->W.cell? ⟨w.heap.size,0,none⟩=some (.int .i64 (p:Int))/\W.cell? ⟨w.heap.size,1,none⟩=some (.int .i64 (m:Int))/\W.cell? ⟨w.heap.size,2,none⟩=some (.slice A n cA)/\W.cell? ⟨R,i,none⟩=some (.slice (some ⟨bk bs3 i,0,none⟩) cols (cp bs3 i))/\W.cell? ⟨R,s.piv.length,none⟩=some (.slice (some ⟨bk bs3 s.piv.length,0,none⟩) cols (cp bs3 s.piv.length))/\W.cell? ⟨bk bs3 i,c,none⟩=some (.int .i64 (y:Int))):=fun W hW =>
                   ⟨(Below.cell hW l0).trans z0,(Below.cell hW l0).trans z1,(Below.cell hW l0).trans z2,(Below.cell hW lR).trans yi,(Below.cell hW lR).trans yt,(Below.cell hW (World.block_lt_of_cell? _ _ ye)).trans ye⟩
                  have HS0:Hid (LS wr wr.drew):=(Below.refl _ _).drew
                  clear z0 z1 z2 yi yt ye
                  refine qbL 21 (LS wr) [(true,0),(true,1),(true,2),(true,3),(true,4),(true,5),(true,6),(true,7),(true,8),(true,9),(true,10),(true,11),(true,12),(true,13),(true,14),(true,16),(true,17),(true,18),(true,19),(false,15),(false,20)] default (by kernel_rfl) (by kernel_rfl) (fun _ _ d _ _ h=>by cases d <;> exact h) HS0.out ?_
                  simp only [List.map_cons,List.map_nil,List.getD_cons_zero,List.getD_cons_succ]
                  repeat (first
                   | (refine qdN rfl 29 (.tmp 3) rfl w.heap.size 0 rfl [.int .i64 (p : Int),.int .i64 (m : Int),.slice A n cA] _ HRNG.out Tryz.underlying29 rfl fieldSize ?_
                      go_simp)
                   | (apply qdA rfl
                      . intro W hW
                        obtain ⟨z0,z1,z2,yi,yt,ye⟩:=HCV.out W hW
                        go_simp
                        rfl
                      go_simp))
                  apply qdB rfl
                  . go_simp
                    exact ⟨rfl,rfl⟩
                  refine (HNEG.out _ HS0.out).mono ?_
                  rintro e w1 ⟨rfl,hb1'⟩
                  refine ⟨_,rfl,hb1',?_⟩
                  go_simp
                  apply qdB rfl
                  . go_simp
                    exact ⟨rfl,rfl⟩
                  refine (HADD.out w1 hb1').mono ?_
                  rintro e w2 ⟨⟨g,rfl,hr2⟩,hb2⟩
                  have hb1s:wr.heap.size<=w1.heap.size:=Below.size hb1'
                  have hb2':Below wr.heap.size wr w2:=Below.trans hb1' (hb2.mono hb1s)
                  refine ⟨_,rfl,hb2',?_⟩
                  go_simp
                  refine qeU ?_
                  try simp only [List.drop_succ_cons,List.drop_zero]
                  have yi2:=(HCV.out w2 hb2').2.2.2.1
                  have fi2:=(hb2'.frozen (p:=⟨R,i,none⟩) lR).trans fi
                  have HY:=Lib.hid (HRL3.out _ (HFIN.out w2 g hb2' (hr2.base (by have:=hr2.lt.1;omega))))
                  clear fi hb2' hb2 hr2
                  go_wp2_with fail
                  go_roundw
                  case rel=>exact HY.out
                  case measure=>simp [intOf];omega
            . obtain rfl : i = rows.length := by omega
              have hpl1:=hpl.1
              have hws:w.heap.size+1<=wr.heap.size:=hes3.1.2.1
              have HNF:Hid (∀ (W:World) (v':Value),w.heap.size+1<=W.heap.size->W.ownsRow (w.heap.size+1) 3 1 v' (s.piv.length+1) ((nz s.piv).map (Value.int .i64)++[.int .i64 (c:Int)])->(wr.alloc (.cells #[.int .i64 (c:Int)] 3)).grownBy W (Value.slice VA s.piv.length Vk).ownBlock->(v'.ownBlock=(Value.slice VA s.piv.length Vk).ownBlock\/v'.ownBlock=some (wr.heap.size+1))->∃ (VA':Option Addr) (Vk':Nat),v'=.slice VA' (s.piv++[c]).length Vk'/\ES w p m A n cA R cR (clearGo O c s.piv.length rows2 rows.length) rows.length (.slice VA' (s.piv++[c]).length Vk') (s.piv++[c]) bs3 W):=fun W v' _ h1 h2 h3=>HE3.out.push h1 h2 h3
              have hpv:=hes3.2.2.1.1
              clear hes3
              have HPV:=Lib.hid hpv
              clear hpv
              go_wp2_with (at_builtin;refine wpList_append_own_at _ rfl (.tmp 129) (.tmp 131) 23 rfl (w.heap.size+1) 3 i00 _ 1 8 Tryz.underlying23 HI.out HZ0.out HZ1.out HZ2.out rfl (by decide) (.slice VA s.piv.length Vk) s.piv.length ((nz s.piv).map (Value.int .i64)) rfl (World.ownsRow.alloc HPV.out _) ⟨wr.heap.size,0,none⟩ 1 1 [.int .i64 (c:Int)] rfl rfl ?d1 ?d2 ?d3 ?d4 ?d5 ?_)
              case d1=>exact World.news_of_block (cs:=#[.int .i64 (c:Int)]) (t:=3) (fr:=(0,0)) (heap_alloc_new wr _)
              case d2=>intro u hu;simp at hu;subst hu;rfl
              case d3=>unfold maxLen;omega
              case d4=>omega
              case d5=>simp;omega
              intro v' w3 hown' hgw3 _ hat
              obtain ⟨VA',Vk',rfl,hes4⟩:=HNF.out w3 v' (by have:=hgw3.size;simp at this;omega) hown' hgw3 (by simpa using hat)
              have HE4:=Lib.hid hes4
              clear hes4 hown' hgw3 hat HNF HPV
              go_wp2_with fail
              go_roundg (cols-(c+1))
              case measure=>omega
              case rel=>exact ⟨c+1,bs3,VA',Vk',by omega,by go_num,by rw [HEL.out,List.length_append];go_num,by rw [HEL.out],by rw [HEL.out];exact HE4.out⟩
    . have HE2 : Hid (elGo O rows cols = s) := HFULL.out (by omega)
      go_wp2_with fail
      go_ret2
      exact ⟨⟨R,cR,VA,Vk,bs,by rw [HE2.out];rfl,by rw [HE2.out];exact HE.out.2.1,by rw [HE2.out];exact ints_own HE.out.2.2.1.1 rfl⟩,HE.out.1.bl⟩
  . have hce : c = cols := by omega
    have HE2:Hid (elGo O rows cols=s):=by rw [<- hce];exact hse
    go_wp2_with fail
    go_ret2
    exact ⟨⟨R,cR,VA,Vk,bs,by rw [HE2.out];rfl,by rw [HE2.out];exact HE.out.2.1,by rw [HE2.out];exact ints_own HE.out.2.2.1.1 rfl⟩,HE.out.1.bl⟩
end Go.Proofs.YtlmglaonldlanaaGreat
