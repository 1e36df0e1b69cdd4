/-
 matrix.canon. matrix.entries.
-/
import Derived.Test.YtlmglaonldlanaaGreatQ12
import Derived.Test.YtlmglaonldlanaaGreatQ11
namespace Go.Proofs.YtlmglaonldlanaaGreat
open Go.RowKit Pln
theorem qbH (O:Ops) (rows:List (List Nat)) (cols:Nat):(canonM O rows cols).length=(elGo O rows cols).piv.length:=by
 unfold canonM
 rw [List.length_take,qcW]
 have:=(qbW (O:=O) rows cols).2
 omega
theorem qcN (O:Ops) (rows:List (List Nat)) (cols i:Nat) (hi:i<(elGo O rows cols).piv.length):(canonM O rows cols).getD i []=(elGo O rows cols).rows.getD i []:=by
 unfold canonM
 simp only [List.getD]
 rw [List.getElem?_take_of_lt hi]
theorem own_slice {w:World} {base n:Nat} {v:Value} {xs:List Value} (h:w.ownsRow base 3 1 v n xs):∃ VA ck,v=.slice VA n ck:=by
 rcases h.2 with ⟨h1,h2⟩ | ⟨g,cap,cur,hv,_⟩
 . subst h2
   exact ⟨_,_,h1⟩
 . exact ⟨_,_,hv⟩
def RowsUp (w:World) (lo:Nat) (A:Option Addr) (zs:List (List Int)):Prop :=
 0<zs.length->∃ b o,A=some ⟨b,o,none⟩/\lo<=b/\b<w.heap.size/\∀ i,i<zs.length->∃ (bi oi ci:Nat),w.cell? ⟨b,o+i,none⟩=some (.slice (some ⟨bi,oi,none⟩) (zs.getD i []).length ci)/\lo<=bi/\bi<w.heap.size/\∀ j,j<(zs.getD i []).length->w.cell? ⟨bi,oi+j,none⟩=some (.int .i64 ((zs.getD i []).getD j 0))
theorem RowsUp.rowsAt {w:World} {lo:Nat} {A:Option Addr} {zs:List (List Int)} (h:RowsUp w lo A zs):RowsAt w w.heap.size A zs:=fun hz=>by
 obtain ⟨b,o,e,_,hlt,hc⟩:=h hz
 refine ⟨b,o,e,hlt,fun i hi=>?_⟩
 obtain ⟨bi,oi,ci,h1,_,h3,h4⟩:=hc i hi
 exact ⟨_,ci,h1,fun _=>⟨bi,oi,rfl,h3,h4⟩⟩
theorem RowsUp.of_blocks {w w':World} {lo:Nat} {A:Option Addr} {zs:List (List Int)} (h:RowsUp w lo A zs) (hs:w.heap.size<=w'.heap.size) (hb:∀ k,lo<=k->k<w.heap.size->w'.heap[k]?=w.heap[k]?):RowsUp w' lo A zs:=fun hz=>by
 have hcell:∀ b o,lo<=b->b<w.heap.size->w'.cell? ⟨b,o,none⟩=w.cell? ⟨b,o,none⟩:=fun b o h1 h2=>by
  unfold World.cell?
  rw [hb b h1 h2]
 obtain ⟨b,o,e,hlo,hlt,hc⟩:=h hz
 refine ⟨b,o,e,hlo,by omega,fun i hi=>?_⟩
 obtain ⟨bi,oi,ci,h1,h2,h3,h4⟩:=hc i hi
 exact ⟨bi,oi,ci,(hcell b _ hlo hlt).trans h1,h2,by omega,fun j hj=>(hcell bi _ h2 h3).trans (h4 j hj)⟩
theorem RowsUp.setRow {w:World} {lo:Nat} {A:Option Addr} {zs:List (List Int)} (h:RowsUp w lo A zs) {g:Nat} (hg:g<lo) (cs:Array Value):RowsUp (w.setRow g cs) lo A zs :=
 h.of_blocks (by simp) fun k hk _=>setRow_other w g k cs (by omega)
theorem GridAt.rowsAt {w:World} {B R cR:Nat} {rows:List (List Nat)} {bs:List (Nat × Nat)} (h:GridAt w B R cR rows bs) (zs:List (List Nat)) (hz:zs.length<=rows.length) (he:∀ i,i<zs.length->zs.getD i []=rows.getD i []):RowsUp w B (some ⟨R,0,none⟩) (nzs zs):=by
 intro _
 refine ⟨R,0,rfl,h.lt.1,h.lt.2,fun i hi=>?_⟩
 rw [qbC] at hi
 have hr:=h.row i (by omega)
 refine ⟨bk bs i,0,cp bs i,?_,hr.lt.1,hr.lt.2,fun j hj=>?_⟩
 . rw [Nat.zero_add,qcM,qaB,he i hi]
   exact h.cell (by omega)
 . rw [qcM,he i hi] at hj ⊢
   rw [Nat.zero_add]
   exact hr.cell hj
set_option maxHeartbeats 1000000 in
set_option maxRecDepth 100000 in
theorem canon_c (gb Bg p m cols:Nat) (md l:List Nat) (rows:List (List Nat)) (A:Option Addr) (c:Nat) (w:World) (hF:FT p m md l) (hG:GFAt w Bg gb p m l (logL l (p ^ m))) (hBg:Bg<=w.heap.size) (hA:RowsAt w w.heap.size A (nzs rows))
 (hgr:Grid (p ^ m) rows.length cols rows) (h1:1<=cols) (hc:cols<=256) (hn:rows.length<=256) :
 Calls Tryz.prog 194 #[.pointer (some ⟨gb,0,none⟩),.slice A rows.length c,.int .i64 cols] w fun e w'=>(∃ (R:Nat) (VA:Option Addr) (n ck:Nat),e=.returned (.tuple #[.slice (some ⟨R,0,none⟩) (canonM (opsT p m l) rows cols).length (canonM (opsT p m l) rows cols).length,.slice VA n ck])/\RowsUp w' w.heap.size (some ⟨R,0,none⟩) (nzs (canonM (opsT p m l) rows cols)))/\Below w.heap.size w w':=by
 have HC1:=Lib.hid (clone_c rows A c w hA (fun r hr=>by have:=(hgr.2 r hr).1;omega) (by omega))
 have HC2:Hid (∀ (bs:List (Nat × Nat)) (w1:World),Below w.heap.size w w1->GridAt w1 w.heap.size w.heap.size rows.length rows bs->Calls Tryz.prog 232 #[.pointer (some ⟨gb,0,none⟩),.slice (some ⟨w.heap.size,0,none⟩) rows.length rows.length,.int .i64 cols,.slice none 0 0] w1 (ElPost w1 w.heap.size w.heap.size rows.length p m l rows cols)) :=
  fun bs w1 hb hg=>eliminate_c w.heap.size w.heap.size rows.length gb Bg p m cols md l rows bs w1 hF (hG.keep (hb.mono hBg)) hBg hb.size hg hgr hn hc
 have HK:=Lib.hid (qbH (opsT p m l) rows cols)
 have HK2:=Lib.hid (qbW (O:=opsT p m l) rows cols)
 have HRL:=Lib.hid (qcW (O:=opsT p m l) rows cols)
 have HGD:=Lib.hid (qcN (opsT p m l) rows cols)
 clear hF hG hA hgr
 generalize canonM (opsT p m l) rows cols=cm at *
 go_enter Tryz.func194,Tryz.ntmps194
 go_wp2_with fail
 (with_reducible refine HC1.out.mono ?_)
 rintro e w1 ⟨rfl,⟨bs,hg⟩,hb⟩
 have HG:=Lib.hid hg
 have HB:=Lib.hid hb
 clear hg hb
 go_wp2_with fail
 (with_reducible refine (HC2.out bs w1 HB.out HG.out).mono ?_)
 rintro e w2 ⟨⟨vp,d,bs2,rfl,hown,hgrid⟩,hb2⟩
 obtain ⟨VA,ck,rfl⟩:=own_slice hown
 have HGR:=Lib.hid hgrid
 have HB2:=Lib.hid (HB.out.trans hb2)
 clear hown hgrid hb2
 have HX:Hid (RowsUp w2 w.heap.size (some ⟨w.heap.size,0,none⟩) (nzs cm)):=HGR.out.rowsAt cm (by rw [HK.out,HRL.out];exact HK2.out.2) (fun i hi=>HGD.out i (by rw [<- HK.out];exact hi))
 have hk1:(elGo (opsT p m l) rows cols).piv.length<=rows.length:=HK2.out.2
 rw [<- HK.out] at hk1
 have HK3:=Lib.hid HK.out.symm
 clear HK HK2 HRL HGD HC1 HC2 HGR
 rw [HK3.out]
 go_wp2_with fail
 go_ret2
 exact ⟨⟨_,_,_,_,rfl,HX.out⟩,HB2.out⟩
end Go.Proofs.YtlmglaonldlanaaGreat
namespace Go.Proofs.YtlmglaonldlanaaGreat
open Go.RowKit Pln
def elemsB (q:Nat) (zs:List Int):Bool:=zs.all (inB q)
def errE (b:Bool):Int:=if b=true then 0 else 2
set_option maxHeartbeats 1000000 in
theorem entries_c (gb p m B:Nat) (l lg:List Nat) (zs:List Int) (A:Option Addr) (c:Nat) (w:World) (hG:GFAt w B gb p m l lg) (hA:IntsAt w w.heap.size A zs) (hl:zs.length<=9223372036854775807) :
 Calls Tryz.prog 197 #[.pointer (some ⟨gb,0,none⟩),.slice A zs.length c] w fun e w'=>e=.returned (.int .i64 (errE (elemsB (p ^ m) zs)))/\w=w':=by
 have HA:=Lib.hid hA
 have HC:Hid (∀ x:Int,Calls Tryz.prog 196 #[.pointer (some ⟨gb,0,none⟩),.int .i64 x] w fun e w'=>e=.returned (.bool (inB ((p ^ m:Nat):Int) x))/\w=w'):=fun x=>is_c x gb p m B l lg w hG
 clear hA hG
 generalize p ^ m=q at *
 go_enter Tryz.func197,Tryz.ntmps197
 go_wp2_with fail
 go_loop [9] (fun v9=>∃ k:Nat,k<=zs.length/\v9=.int .i64 k/\(zs.take k).all (inB q)=true) (fun v9=>zs.length-(intOf v9).toNat)
 case atStart=>exact ⟨0,by omega,rfl,by simp⟩
 case round =>
  obtain ⟨k,hk,rfl,hall⟩:=hrel
  have HALL:=Lib.hid hall
  clear hall
  by_cases hlt:k<zs.length
  . obtain ⟨b,o,rfl,hb,hc⟩ := HA.out.at_ hlt
    have HTK:Hid ((zs.take (k+1)).all (inB q)=((zs.take k).all (inB q) && inB q (zs.getD k 0))):=by
     show _=_
     rw [List.take_succ_eq_append_getElem hlt,List.all_append]
     simp [List.getD,hlt]
    have HMEM:Hid (inB q (zs.getD k 0)=false->elemsB q zs=false):=fun h=>by
     unfold elemsB
     rw [List.all_eq_false]
     exact ⟨zs.getD k 0,by rw [List.getD_eq_getElem?_getD,List.getElem?_eq_getElem hlt];exact List.getElem_mem hlt,by rw [h];simp⟩
    generalize zs.getD k 0=z at *
    by_cases hz:inB q z=true
    . have HCZ : Hid (Calls Tryz.prog 196 #[.pointer (some ⟨gb,0,none⟩),.int .i64 z] w fun e w' => e = .returned (.bool true) /\ w = w') := by
       have:=HC.out z
       rw [hz] at this
       exact this
      have HZ:=Lib.hid hz
      clear hz
      go_wp2_with (go_at_call 196;(with_reducible refine HCZ.out.mono ?_);rintro e w' ⟨rfl,rfl⟩)
      go_round
      case rel=>exact ⟨k+1,by omega,by go_num,by rw [HTK.out,HALL.out,HZ.out];rfl⟩
      case measure=>simp [intOf];omega
    . have hz' : inB q z = false := by simpa using hz
      have HCZ:Hid (Calls Tryz.prog 196 #[.pointer (some ⟨gb,0,none⟩),.int .i64 z] w fun e w'=>e=.returned (.bool false)/\w=w'):=by
       have:=HC.out z
       rw [hz'] at this
       exact this
      have HE:Hid (errE (elemsB q zs)=2):=by show _=_;rw [HMEM.out hz'];rfl
      clear hz hz'
      go_wp2_with (go_at_call 196;(with_reducible refine HCZ.out.mono ?_);rintro e w' ⟨rfl,rfl⟩)
      go_ret
      exact ⟨qaD HE.out.symm,rfl⟩
  . have HE : Hid (errE (elemsB q zs) = 0) := by
     show _=_
     have:=HALL.out
     rw [List.take_of_length_le (by omega)] at this
     unfold elemsB
     rw [this]
     rfl
    go_wp2_with fail
    go_ret
    exact ⟨qaD HE.out.symm,rfl⟩
end Go.Proofs.YtlmglaonldlanaaGreat
namespace Go.Proofs.YtlmglaonldlanaaGreat
open Go.RowKit Pln
def checkZ (q:Nat) (cols:Int) (zs:List (List Int)):Int :=
 if cols<0\/256<cols\/256<zs.length then 3 else if zs.all (fun r=>decide ((r.length:Int)=cols))=false then 3 else if zs.all (elemsB q)=false then 2 else 0
theorem qfD {q:Nat} {cols:Int} {zs:List (List Int)} (h:cols<0\/256<cols\/256<zs.length):checkZ q cols zs=3:=by unfold checkZ;rw [if_pos h]
set_option maxHeartbeats 1000000 in
set_option maxRecDepth 100000 in
theorem check_big (gb:Nat) (q:Nat) (cols:Int) (zs:List (List Int)) (A:Option Addr) (c:Nat) (w:World) (hl:zs.length<=9223372036854775807) (h:cols<0\/256<cols\/256<zs.length) :
 Calls Tryz.prog 230 #[.pointer (some ⟨gb,0,none⟩),.agg #[.int .i64 cols,.slice A zs.length c]] w fun e w'=>e=.returned (.int .i64 (checkZ q cols zs))/\Below w.heap.size w w':=by
 have HE:=Lib.hid (qfD (q:=q) h)
 have HB:Hid (Below w.heap.size w (w.alloc (.cells #[.int .i64 cols,.slice A zs.length c] 54))):=(Below.refl _ _).alloc (Nat.le_refl _) _
 by_cases h1:cols<0
 . go_enter Tryz.func230,Tryz.ntmps230
   go_wp2_with fail
   go_ret
   exact ⟨qaD HE.out.symm,HB.out⟩
 . by_cases h2 : 256 < cols
   . go_enter Tryz.func230,Tryz.ntmps230
     go_wp2_with fail
     go_ret
     exact ⟨qaD HE.out.symm,HB.out⟩
   . have h3 : 256 < zs.length := by omega
     clear h
     go_enter Tryz.func230,Tryz.ntmps230
     go_wp2_with fail
     go_ret
     exact ⟨qaD HE.out.symm,HB.out⟩
end Go.Proofs.YtlmglaonldlanaaGreat
namespace Go.Proofs.YtlmglaonldlanaaGreat
open Go.RowKit Pln
theorem qbT {α:Type} (f:α->Bool) (l:List α) (d:α) (k:Nat) (hk:k<l.length):(l.take (k+1)).all f=((l.take k).all f && f (l.getD k d)):=by
 rw [List.take_succ_eq_append_getElem hk,List.all_append]
 simp [List.getD,hk]
theorem qbR {α:Type} (f:α->Bool) (l:List α) (d:α) (k:Nat) (hk:k<l.length) (h:f (l.getD k d)=false):l.all f=false:=by
 rw [List.all_eq_false]
 exact ⟨l.getD k d,by rw [List.getD_eq_getElem?_getD,List.getElem?_eq_getElem hk];exact List.getElem_mem hk,by rw [h];simp⟩
theorem all_at {α:Type} (f:α->Bool) (l:List α) (d:α) (k:Nat) (hk:k<l.length) (h:l.all f=true):f (l.getD k d)=true:=by
 cases hf:f (l.getD k d)
 . rw [qbR f l d k hk hf] at h;cases h
 . rfl
set_option maxHeartbeats 1000000 in
set_option maxRecDepth 100000 in
theorem check_c (gb p m B:Nat) (l lg:List Nat) (cols:Int) (zs:List (List Int)) (A:Option Addr) (c:Nat) (w:World) (hG:GFAt w B gb p m l lg) (hB:B<=w.heap.size) (hA:RowsAt w w.heap.size A zs) (hl:zs.length<=9223372036854775807) :
 Calls Tryz.prog 230 #[.pointer (some ⟨gb,0,none⟩),.agg #[.int .i64 cols,.slice A zs.length c]] w fun e w'=>e=.returned (.int .i64 (checkZ (p ^ m) cols zs))/\Below w.heap.size w w':=by
 by_cases hbig:cols<0\/256<cols\/256<zs.length
 . exact check_big gb (p ^ m) cols zs A c w hl hbig
 . have HZ1 : Hid (zs.all (fun r => decide ((r.length : Int) = cols)) = false -> checkZ (p ^ m) cols zs = 3) := fun h => by unfold checkZ;rw [if_neg hbig,if_pos h]
   have HZ2:Hid (zs.all (fun r=>decide ((r.length:Int)=cols))=true->zs.all (elemsB (p ^ m))=false->checkZ (p ^ m) cols zs=2):=fun h h'=>by unfold checkZ;rw [if_neg hbig,if_neg (by simp [h]),if_pos h']
   have HZ3:Hid (zs.all (fun r=>decide ((r.length:Int)=cols))=true->zs.all (elemsB (p ^ m))=true->checkZ (p ^ m) cols zs=0):=fun h h'=>by unfold checkZ;rw [if_neg hbig,if_neg (by simp [h]),if_neg (by simp [h'])]
   have hb0:¬ cols<0:=by omega
   have hb1:¬ 256<cols:=by omega
   have hb2:¬ 256<(zs.length:Int):=by omega
   have HB0:Hid (Below w.heap.size w (w.alloc (.cells #[.int .i64 cols,.slice A zs.length c] 54))):=(Below.refl _ _).alloc (Nat.le_refl _) _
   have HBX:Hid ((w.alloc (.cells #[.int .i64 cols,.slice A zs.length c] 54)).heap[w.heap.size]?=some (.cells #[.int .i64 cols,.slice A zs.length c] 54 (0,0))):=heap_alloc_new _ _
   have HA:=Lib.hid ((hA.keep HB0.out).more (B':=(w.alloc (.cells #[.int .i64 cols,.slice A zs.length c] 54)).heap.size) (by simp))
   have HGF:=Lib.hid (hG.keep (HB0.out.mono hB))
   clear hA hG hbig
   go_enter Tryz.func230,Tryz.ntmps230
   go_wp2_with fail
   generalize w.alloc (.cells #[.int .i64 cols,.slice A zs.length c] 54)=W0 at *
   have b0:W0.cell? ⟨w.heap.size,0,none⟩=some (.int .i64 cols):=cell_of_row _ _ 0 _ _ _ HBX.out
   have b1:W0.cell? ⟨w.heap.size,1,none⟩=some (.slice A zs.length c):=cell_of_row _ _ 1 _ _ _ HBX.out
   go_loop [27] (fun v27=>∃ k:Nat,k<=zs.length/\v27=.int .i64 k/\(zs.take k).all (fun r=>decide ((r.length:Int)=cols))=true) (fun v27=>zs.length-(intOf v27).toNat)
   case atStart=>exact ⟨0,by omega,rfl,by simp⟩
   case round =>
    obtain ⟨k,hk,rfl,hall⟩:=hrel
    have HALL:=Lib.hid hall
    clear hall
    by_cases hlt:k<zs.length
    . obtain ⟨b,o,Ai,ci,rfl,hb,hc,hi⟩ := HA.out.at_ hlt
      have HTK:=Lib.hid (qbT (fun r:List Int=>decide ((r.length:Int)=cols)) zs [] k hlt)
      have HFL:=Lib.hid (qbR (fun r:List Int=>decide ((r.length:Int)=cols)) zs [] k hlt)
      clear hi
      generalize (zs.getD k []).length=n at *
      by_cases hz:(n:Int)=cols
      . have hzb : ((n : Int) != cols) = false := by simp [hz]
        have HN:Hid ((zs.take (k+1)).all (fun r=>decide ((r.length:Int)=cols))=true):=by show _=_;rw [HTK.out,HALL.out,hz];simp
        clear hz
        go_wp2_with fail
        go_round
        case rel=>exact ⟨k+1,by omega,by go_num,HN.out⟩
        case measure=>simp [intOf];omega
      . have hzb : ((n : Int) != cols) = true := by simp [hz]
        have HN:Hid (checkZ (p ^ m) cols zs=3):=HZ1.out (HFL.out (by simp [hz]))
        clear hz
        go_wp2_with fail
        go_ret
        exact ⟨qaD HN.out.symm,HB0.out⟩
    . obtain rfl : k = zs.length := by omega
      have HLEN:Hid (zs.all (fun r=>decide ((r.length:Int)=cols))=true):=by
       have:=HALL.out
       rw [List.take_length] at this
       exact this
      have HEC:Hid (∀ (r:List Int) (Ai:Option Addr) (ci:Nat),IntsAt W0 W0.heap.size Ai r->r.length<=9223372036854775807->Calls Tryz.prog 197 #[.pointer (some ⟨gb,0,none⟩),.slice Ai r.length ci] W0 fun e w'=>e=.returned (.int .i64 (errE (elemsB (p ^ m) r)))/\W0=w') :=
       fun r Ai ci h1 h2=>entries_c gb p m B l lg r Ai ci W0 HGF.out h1 h2
      clear HALL HZ1
      go_wp2_with fail
      go_loop [40] (fun v40=>∃ k:Nat,k<=zs.length/\v40=.int .i64 k/\(zs.take k).all (elemsB (p ^ m))=true) (fun v40=>zs.length-(intOf v40).toNat)
      case atStart=>exact ⟨0,by omega,rfl,by simp⟩
      case round =>
       obtain ⟨k,hk,rfl,hall⟩:=hrel
       have HALL:=Lib.hid hall
       clear hall
       by_cases hlt:k<zs.length
       . obtain ⟨b,o,Ai,ci,rfl,hb,hc,hi⟩ := HA.out.at_ hlt
         have HTK:=Lib.hid (qbT (elemsB (p ^ m)) zs [] k hlt)
         have HFL:=Lib.hid (qbR (elemsB (p ^ m)) zs [] k hlt)
         have hzl:((zs.getD k []).length:Int)=cols:=by simpa using all_at _ zs [] k hlt HLEN.out
         have HC:=Lib.hid (HEC.out (zs.getD k []) Ai ci hi (by omega))
         clear hi hzl
         generalize zs.getD k []=r at *
         by_cases hz:elemsB (p ^ m) r=true
         . rw [hz] at HC
           have HC2:Hid (Calls Tryz.prog 197 #[.pointer (some ⟨gb,0,none⟩),.slice Ai r.length ci] W0 fun e w'=>e=.returned (.int .i64 0)/\W0=w'):=HC.out
           have HN:Hid ((zs.take (k+1)).all (elemsB (p ^ m))=true):=by show _=_;rw [HTK.out,HALL.out,hz];rfl
           clear hz HC HTK HFL HLEN HEC
           go_wp2_with (go_at_call 197;(with_reducible refine HC2.out.mono ?_);rintro e w' ⟨rfl,rfl⟩)
           go_round
           case rel=>exact ⟨k+1,by omega,by go_num,HN.out⟩
           case measure=>simp [intOf];omega
         . have hz' : elemsB (p ^ m) r = false := by simpa using hz
           rw [hz'] at HC
           have HC2:Hid (Calls Tryz.prog 197 #[.pointer (some ⟨gb,0,none⟩),.slice Ai r.length ci] W0 fun e w'=>e=.returned (.int .i64 2)/\W0=w'):=HC.out
           have HN:Hid (checkZ (p ^ m) cols zs=2):=HZ2.out HLEN.out (HFL.out hz')
           clear hz hz' HC HTK HFL HLEN HEC
           go_wp2_with (go_at_call 197;(with_reducible refine HC2.out.mono ?_);rintro e w' ⟨rfl,rfl⟩)
           go_ret
           exact ⟨qaD HN.out.symm,HB0.out⟩
       . have HN : Hid (checkZ (p ^ m) cols zs = 0) := HZ3.out HLEN.out (by have := HALL.out;rw [List.take_of_length_le (by omega)] at this;exact this)
         go_wp2_with fail
         go_ret
         exact ⟨qaD HN.out.symm,HB0.out⟩
end Go.Proofs.YtlmglaonldlanaaGreat
namespace Go.Proofs.YtlmglaonldlanaaGreat
open Go.RowKit Pln
theorem qdQ {α:Type} {l l':List α} (d:α) {k:Nat} (hk:k<l.length) (hk':k<l'.length) (h:l.take k=l'.take k) (he:l.getD k d=l'.getD k d):l.take (k+1)=l'.take (k+1):=by
 rw [List.take_succ_eq_append_getElem hk,List.take_succ_eq_append_getElem hk',h]
 have e1:l.getD k d=l[k]:=by simp [List.getD,hk]
 have e2:l'.getD k d=l'[k]:=by simp [List.getD,hk']
 rw [<- e1,<- e2,he]
def RelEq {α:Type} (l l':List α) (w:World) (v:Value) (wr:World):Prop:=∃ k n:Nat,k<=l.length/\v=.int .i64 k/\l.take k=l'.take k/\wr=w.drewN n
set_option maxHeartbeats 1000000 in
set_option maxRecDepth 100000 in
theorem sequal_c (zs ys:List Int) (A A':Option Addr) (c c':Nat) (w:World) (hA:IntsAt w w.heap.size A zs) (hA':IntsAt w w.heap.size A' ys) (hl:zs.length<=9223372036854775807) :
 Calls Tryz.prog 83 #[.slice A zs.length c,.slice A' ys.length c'] w (Quiet (.bool (decide (zs=ys))) w):=by
 have HA:=Lib.hid hA
 have HA':=Lib.hid hA'
 clear hA hA'
 by_cases hle:zs.length=ys.length
 . have HNE : Hid (∀ k,k < zs.length -> zs.getD k 0 ≠ ys.getD k 0 -> decide (zs = ys) = false) := fun k hk h => decide_eq_false (fun e => h (by rw [e]))
   have HEND:Hid (zs.take zs.length=ys.take zs.length->decide (zs=ys)=true):=fun h=>decide_eq_true (by rw [List.take_length,hle,List.take_length] at h;exact h)
   have HST:Hid (∀ k,k<zs.length->zs.take k=ys.take k->zs.getD k 0=ys.getD k 0->zs.take (k+1)=ys.take (k+1)):=fun k hk h he=>qdQ 0 hk (by omega) h he
   have hlb:((zs.length:Int) != (ys.length:Int))=false:=by simp;omega
   have hyl:ys.length<=zs.length:=by omega
   have hyl2:zs.length<=ys.length:=by omega
   clear hle
   go_enter Tryz.func83,Tryz.ntmps83
   go_wp2_with fail
   go_loopw [13] (fun v13 wr=>RelEq zs ys w v13 wr) (fun v13 _=>zs.length-(intOf v13).toNat)
   case atStart=>exact ⟨0,0,by omega,rfl,by simp,rfl⟩
   case round =>
    obtain ⟨k,n,hk,rfl,htk,rfl⟩:=hrel
    have HTK:=Lib.hid htk
    clear htk
    by_cases hlt:k<zs.length
    . obtain ⟨b,o,rfl,hb,hc⟩ := HA.out.at_ hlt
      obtain ⟨b',o',rfl,hb',hc'⟩:=HA'.out.at_ (k:=k) (by omega)
      have HN:=Lib.hid (HNE.out k hlt)
      have HS:=Lib.hid (HST.out k hlt HTK.out)
      generalize zs.getD k 0=z at *
      generalize ys.getD k 0=y at *
      have k0:(0:Int)<=(k:Int):=by omega
      have k1:(k:Int)<(zs.length:Int):=by omega
      have k2:(k:Int)<(ys.length:Int):=by omega
      by_cases hz:z=y
      . have hzb : (z != y) = false := by simp [hz]
        have HS2:=Lib.hid (HS.out hz)
        clear hz
        go_upto_region 6 with fail
        go_quiet (fail)
        go_wp2_with fail
        go_roundw
        case rel=>exact ⟨k+1,n+nq,by omega,by go_num,HS2.out,rfl⟩
        case measure=>simp [intOf];omega
      . have hzb : (z != y) = true := by simp [hz]
        have HN2:=Lib.hid (HN.out hz)
        clear hz
        go_upto_region 6 with fail
        go_quiet (fail)
        go_wp2_with fail
        go_ret
        exact ⟨qaO HN2.out.symm,n+nq,by first | rfl | rw [World.drewN_drewN]⟩
    . obtain rfl : k = zs.length := by omega
      have HE:=Lib.hid (HEND.out HTK.out)
      go_wp2_with fail
      go_ret
      exact ⟨qaO HE.out.symm,n,rfl⟩
 . have hlb : ((zs.length : Int) != (ys.length : Int)) = true := by simp;omega
   have HE:Hid (decide (zs=ys)=false):=decide_eq_false (fun e=>hle (by rw [e]))
   clear hle
   go_enter Tryz.func83,Tryz.ntmps83
   go_wp2_with fail
   go_ret
   exact ⟨qaO HE.out.symm,0,rfl⟩
set_option maxHeartbeats 1000000 in
set_option maxRecDepth 100000 in
theorem sequalf_c (zs ys:List (List Int)) (A A':Option Addr) (c c':Nat) (w:World) (hA:RowsAt w w.heap.size A zs) (hA':RowsAt w w.heap.size A' ys) (hl:zs.length<=9223372036854775807) (hr:∀ k,k<zs.length->(zs.getD k []).length<=9223372036854775807) :
 Calls Tryz.prog 82 #[.slice A zs.length c,.slice A' ys.length c',.func (.func 83) #[] #[]] w (Quiet (.bool (decide (zs=ys))) w):=by
 have HA:=Lib.hid hA
 have HA':=Lib.hid hA'
 have HR:=Lib.hid hr
 clear hA hA' hr
 by_cases hle:zs.length=ys.length
 . have HNE : Hid (∀ k,k < zs.length -> zs.getD k [] ≠ ys.getD k [] -> decide (zs = ys) = false) := fun k hk h => decide_eq_false (fun e => h (by rw [e]))
   have HEND:Hid (zs.take zs.length=ys.take zs.length->decide (zs=ys)=true):=fun h=>decide_eq_true (by rw [List.take_length,hle,List.take_length] at h;exact h)
   have HST:Hid (∀ k,k<zs.length->zs.take k=ys.take k->zs.getD k []=ys.getD k []->zs.take (k+1)=ys.take (k+1)):=fun k hk h he=>qdQ [] hk (by omega) h he
   have hlb:((zs.length:Int) != (ys.length:Int))=false:=by simp;omega
   have hyl:ys.length<=zs.length:=by omega
   have hyl2:zs.length<=ys.length:=by omega
   clear hle
   go_enter Tryz.func82,Tryz.ntmps82
   go_wp2_with fail
   go_loopw [17] (fun v17 wr=>RelEq zs ys w v17 wr) (fun v17 _=>zs.length-(intOf v17).toNat)
   case atStart=>exact ⟨0,0,by omega,rfl,by simp,rfl⟩
   case round =>
    obtain ⟨k,n,hk,rfl,htk,rfl⟩:=hrel
    have HTK:=Lib.hid htk
    clear htk
    by_cases hlt:k<zs.length
    . obtain ⟨b,o,Ai,ci,rfl,hb,hc,hi⟩ := HA.out.at_ hlt
      obtain ⟨b',o',Ai',ci',rfl,hb',hc',hi'⟩:=HA'.out.at_ (i:=k) (by omega)
      have HN:=Lib.hid (HNE.out k hlt)
      have HS:=Lib.hid (HST.out k hlt HTK.out)
      have HC:Hid (Calls Tryz.prog 83 #[.slice Ai (zs.getD k []).length ci,.slice Ai' (ys.getD k []).length ci'] (w.drewN n) (Quiet (.bool (decide (zs.getD k []=ys.getD k []))) (w.drewN n))) :=
       sequal_c (zs.getD k []) (ys.getD k []) Ai Ai' ci ci' (w.drewN n) (hi.keep (qaA (Below.refl _ _) n)) (hi'.keep (qaA (Below.refl _ _) n)) (HR.out k hlt)
      clear hi hi'
      have k0:(0:Int)<=(k:Int):=by omega
      have k1:(k:Int)<(zs.length:Int):=by omega
      have k2:(k:Int)<(ys.length:Int):=by omega
      by_cases hz:zs.getD k []=ys.getD k []
      . have HS2 := Lib.hid (HS.out hz)
        have HC2:Hid (Calls Tryz.prog 83 #[.slice Ai (zs.getD k []).length ci,.slice Ai' (ys.getD k []).length ci'] (w.drewN n) (Quiet (.bool true) (w.drewN n))):=by
         have:=HC.out
         rw [decide_eq_true hz] at this
         exact this
        clear hz HC HN HS
        generalize (zs.getD k []).length=n1 at *
        generalize (ys.getD k []).length=n2 at *
        go_wp2_with fail
        (with_reducible refine HC2.out.mono ?_)
        rintro e w2 ⟨rfl,n3,rfl⟩
        go_wp2_with fail
        go_roundw
        case rel=>exact ⟨k+1,n+n3,by omega,by go_num,HS2.out,by first | rfl | rw [World.drewN_drewN]⟩
        case measure=>simp [intOf];omega
      . have HN2 := Lib.hid (HN.out hz)
        have HC2:Hid (Calls Tryz.prog 83 #[.slice Ai (zs.getD k []).length ci,.slice Ai' (ys.getD k []).length ci'] (w.drewN n) (Quiet (.bool false) (w.drewN n))):=by
         have:=HC.out
         rw [decide_eq_false hz] at this
         exact this
        clear hz HC HN HS
        generalize (zs.getD k []).length=n1 at *
        generalize (ys.getD k []).length=n2 at *
        go_wp2_with fail
        (with_reducible refine HC2.out.mono ?_)
        rintro e w2 ⟨rfl,n3,rfl⟩
        go_wp2_with fail
        go_ret
        exact ⟨qaO HN2.out.symm,n+n3,by first | rfl | rw [World.drewN_drewN]⟩
    . obtain rfl : k = zs.length := by omega
      have HE:=Lib.hid (HEND.out HTK.out)
      go_wp2_with fail
      go_ret
      exact ⟨qaO HE.out.symm,n,rfl⟩
 . have hlb : ((zs.length : Int) != (ys.length : Int)) = true := by simp;omega
   have HE:Hid (decide (zs=ys)=false):=decide_eq_false (fun e=>hle (by rw [e]))
   clear hle
   go_enter Tryz.func82,Tryz.ntmps82
   go_wp2_with fail
   go_ret
   exact ⟨qaO HE.out.symm,0,rfl⟩
end Go.Proofs.YtlmglaonldlanaaGreat
