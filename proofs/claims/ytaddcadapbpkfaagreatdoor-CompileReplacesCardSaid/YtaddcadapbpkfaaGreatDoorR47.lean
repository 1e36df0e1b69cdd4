/-
 compile.Replace: the walk.
-/
import Derived.Test.YtaddcadapbpkfaaGreatDoorR44
import Derived.Test.YtaddcadapbpkfaaGreatDoorR46
namespace Go.Proofs.YtaddcadapbpkfaaGreatDoor
open Go.RowKit Pln Go.MapKept
open Go.ChangeMaps (setBlock)
def ReplPost (w : World) (r : Int × E) (e : Ending) (w' : World) : Prop :=
 (∃ cs : List Value,e = .returned (.tuple #[.agg cs.toArray,.int .i64 r.1]) /\ ExprC w' (fun _ => True) r.2 cs) /\ Below w.heap.size w w'
structure CSr (w : World) (ps : List (List UInt8 × E)) (cx : List Value) (mb : Nat) (M : List (ByteArray × Value)) (n : Nat) (A : Option Addr) (xs : List E) (i : Nat) (wr : World) : Prop where
 st : MSr w ps cx mb M n wr
 args : ArgsAt wr (fun _ => True) A xs
 good : ∀ j y,j < i -> xs[j]? = some y -> checkE y = 0
 pows : Pows wr
theorem CSr.keep {w : World} {ps : List (List UInt8 × E)} {cx : List Value} {mb n i : Nat} {M : List (ByteArray × Value)} {A : Option Addr} {xs : List E} {wr W : World} (h : CSr w ps cx mb M n A xs i wr) (hb : Below wr.heap.size wr W) : CSr w ps cx mb M n A xs i W :=
 ⟨h.st.keep hb,h.args.grow hb,h.good,h.pows.grow hb⟩
theorem CSr.next {w : World} {ps : List (List UInt8 × E)} {cx : List Value} {mb n i : Nat} {M : List (ByteArray × Value)} {A : Option Addr} {xs : List E} {wr : World} (h : CSr w ps cx mb M n A xs i wr) (hi : i < xs.length) (hc : checkE (xs[i]'hi) = 0) : CSr w ps cx mb M n A xs (i + 1) wr :=
 ⟨h.st,h.args,fun j y hj hy => by
   rcases Nat.lt_or_ge j i with h1 | h1
   . exact h.good j y h1 hy
   . obtain rfl : j = i := by omega
     rw [List.getElem?_eq_getElem hi] at hy
     injection hy with hy
     rw [<- hy]
     exact hc,h.pows⟩
def RelRc (w : World) (ps : List (List UInt8 × E)) (cx : List Value) (mb : Nat) (M : List (ByteArray × Value)) (n : Nat) (A : Option Addr) (xs : List E) (v52 : Value) (g : Nat) (wr : World) : Prop :=
 ∃ i : Nat,i + g = xs.length /\ v52 = .int .i64 i /\ CSr w ps cx mb M n A xs i wr
set_option maxHeartbeats 8000000 in
set_option maxRecDepth 100000 in
theorem replaceN_c (x : E) (cx : List Value) (na : Option Addr) (nc : Nat) (va : Option Addr) (vc : Nat) (ns : List (List UInt8)) (vs : List E) (w : World) (hx : ExprC w (· < w.heap.size) x cx) (hn : StrsF w (· < w.heap.size) na ns) (hv : ArgsAt w (· < w.heap.size) va vs) (hp : Pows w) (okx : OkS x) (okv : ∀ y,y ∈ vs -> OkS y) (hnl : ns.length <= 8) (hvl : vs.length <= 8) :
 Calls Tryz.prog 10 #[.agg cx.toArray,.slice na ns.length nc,.slice va vs.length vc] w (ReplPost w (replR x ns vs)) := by
 obtain ⟨k,nm,n,la,ll,lc,aa,al,ac,rfl⟩ := hx.shape
 have HX := Lib.hid hx
 have HNS := Lib.hid hn
 have HV := Lib.hid hv
 have HP := Lib.hid hp
 have HOX := Lib.hid okx
 have HOV := Lib.hid okv
 have HB0 := Lib.hid (bx2 w #[.int .i64 k,.string nm,.int .i64 n,.slice la ll lc,.slice aa al ac] #[.int .i64 0,.string ⟨#[]⟩,.int .i64 0,.slice none 0 0,.slice none 0 0] 25 25)
 have HS0 : Hid (((w.alloc (.cells #[.int .i64 k,.string nm,.int .i64 n,.slice la ll lc,.slice aa al ac] 25)).alloc (.cells #[.int .i64 0,.string ⟨#[]⟩,.int .i64 0,.slice none 0 0,.slice none 0 0] 25)).heap.size = w.heap.size + 2) := by show _ = _;simp
 clear hx hn hv hp okx okv
 go_enter Tryz.func10,Tryz.ntmps10
 go_upto_region 1 with fail
 generalize ((w.alloc (.cells #[.int .i64 k,.string nm,.int .i64 n,.slice la ll lc,.slice aa al ac] 25)).alloc (.cells #[.int .i64 0,.string ⟨#[]⟩,.int .i64 0,.slice none 0 0,.slice none 0 0] 25)) = W0 at *
 by_cases hlen : ns.length = vs.length
 . have hne : ((ns.length : Int) != (vs.length : Int)) = false := by simp [hlen]
   have hmm := @run_makeMap Tryz.prog
   have HM0 : Hid (MSr w (ns.zip vs) [.int .i64 k,.string nm,.int .i64 n,.slice la ll lc,.slice aa al ac] W0.heap.size [] 0 (W0.alloc (.map #[] 0))) := by
    have hb : Below W0.heap.size W0 (W0.alloc (.map #[] 0)) := (Below.refl _ _).alloc (Nat.le_refl _) _
    have hs := HS0.out
    refine ⟨HB0.out.below.trans (hb.mono HB0.out.below.size),(hb.block _ (by omega)).trans (HB0.out.at_ (i := 0) rfl),(hb.block _ (by omega)).trans (HB0.out.at_ (i := 1) rfl),by omega,MapL.new _ _,fun nm => ?_,by simp⟩
    exact rfl
   have HLEN := Lib.hid hlen
   clear hlen
   go_upto_region 5 with fail
   generalize (W0.alloc (.map #[] 0)) = W1 at *
   generalize W0.heap.size = mb at *
   clear hne hmm HB0 HS0
   go_loopg [27] ns.length (fun g v wr => RelRn w (ns.zip vs) [.int .i64 k,.string nm,.int .i64 n,.slice la ll lc,.slice aa al ac] mb ns.length v g wr)
   case atStart => exact ⟨0,_,by omega,rfl,HM0.out⟩
   case round =>
    obtain ⟨i,M,hig,rfl,hst⟩ := hrel
    have HST := Lib.hid hst
    clear hst HM0
    by_cases hi : i < ns.length
    . have hiv : i < vs.length := by rw [<- HLEN.out];exact hi
      have hpi : (ns.zip vs)[i]? = some (ns[i]'hi,vs[i]'hiv) := by
       rw [List.getElem?_eq_getElem (by rw [List.length_zip];omega),List.getElem_zip]
      obtain ⟨nb,no,hna,hnb,hnc⟩ := HNS.out (by omega)
      have hnw : wr.cell? ⟨nb,no + i,none⟩ = some (.string ⟨(ns[i]'hi).toArray⟩) := (HST.out.below.cell (p := ⟨nb,no + i,none⟩) hnb).trans (hnc i _ (List.getElem?_eq_getElem hi))
      obtain ⟨ab,o,k2,nm2,n2,la2,ll2,lc2,ab2,al2,ac2,hva,hrg,hec⟩ := (HV.out.grow HST.out.below).at_ hiv
      obtain ⟨k',nm',n',la',ll',lc',ab',al',ac',hlk,_⟩ := HST.out.mapE.look (ns[i]'hi)
      have HRG := Lib.hid hrg
      have HEC := Lib.hid hec
      have HLK := Lib.hid hlk
      have HPI := Lib.hid hpi
      have HHI := Lib.hid hi
      have HHV := Lib.hid hiv
      have k0 : (0 : Int) <= (i : Int) := by omega
      have k1 : (i : Int) < (ns.length : Int) := by omega
      have k2' : (i : Int) < (vs.length : Int) := by omega
      have hw : IntKind.i64.wrap ((i : Int) + 1) = (i : Int) + 1 := IntWalk.i64_in _ (by omega)
      subst hna
      subst hva
      have HST2 : Hid (MSr w (ns.zip vs) [.int .i64 k,.string nm,.int .i64 n,.slice la ll lc,.slice aa al ac] mb M i (wr.alloc (.cells #[.int .i64 k',.string nm',.int .i64 n',.slice la' ll' lc',.slice ab' al' ac'] 25))) := HST.out.keep ((Below.refl _ _).alloc (Nat.le_refl _) _)
      have hew : ExprC (wr.alloc (.cells #[.int .i64 k',.string nm',.int .i64 n',.slice la' ll' lc',.slice ab' al' ac'] 25)) (· < w.heap.size) (vs[i]'hiv) [.int .i64 k2,.string nm2,.int .i64 n2,.slice la2 ll2 lc2,.slice ab2 al2 ac2] := ExprC.mono (fun q hq hl => ⟨hq,((Below.refl wr.heap.size wr).alloc (Nat.le_refl _) _).block q hl⟩) _ _ hec
      have hrw : (wr.alloc (.cells #[.int .i64 k',.string nm',.int .i64 n',.slice la' ll' lc',.slice ab' al' ac'] 25)).rangeAt ab (o + i * 5) [.int .i64 k2,.string nm2,.int .i64 n2,.slice la2 ll2 lc2,.slice ab2 al2 ac2] := qaJ hrg (((Below.refl wr.heap.size wr).alloc (Nat.le_refl _) _).block _ (qcX hrg (Nat.succ_pos _)))
      have HEW := Lib.hid hew
      have HRW := Lib.hid hrw
      clear hrg hec hlk hpi hnc hew hrw HRG HEC
      cases hdup : (lkP ((ns.zip vs).take i) (ns[i]'hi)).isSome
      . have hlk2 := HLK.out
        rw [hdup] at hlk2
        have hnd : (ns[i]'hi) ∉ ((ns.zip vs).take i).map (·.1) := lkP_none.1 (Option.isNone_iff_eq_none.1 (by simpa using hdup))
        have HND := Lib.hid hnd
        have HLK2 := Lib.hid hlk2
        clear hlk2 HLK hdup hnd
        go_upto_region 11 with (first
         | (refine qdL rfl 63 (.tmp 33) (.tmp 34) rfl (.map (some mb)) (.string ⟨(ns[i]'hi).toArray⟩) _ rfl rfl HLK2.out ?_)
         | (refine qaC rfl 25 (.tmp 11) (.tmp 36) rfl wr _ #[.int .i64 k',.string nm',.int .i64 n',.slice la' ll' lc',.slice ab' al' ac'] rfl rfl exprSize rfl (by simp [Value.oneCell']) ?_)
         | (refine wpList_load_mid rfl 25 (.tmp 44) rfl ab (o + i * 5) rfl [.int .i64 k2,.string nm2,.int .i64 n2,.slice la2 ll2 lc2,.slice ab2 al2 ac2] _ HRW.out Tryz.underlying25 rfl exprSize ?_)
         | (refine qcV rfl 63 9 25 (.tmp 40) (.tmp 41) (.tmp 45) (.inr rfl) Tryz.underlying63 Tryz.underlying9 mb ⟨(ns[i]'hi).toArray⟩ (.agg #[.int .i64 k2,.string nm2,.int .i64 n2,.slice la2 ll2 lc2,.slice ab2 al2 ac2]) M rfl rfl rfl HST2.out.map ?_;intro o' hM'))
        have HP9 := Lib.hid (HST2.out.put HPI.out HND.out HEW.out hM')
        go_simp
        generalize (setBlock (wr.alloc (.cells #[.int .i64 k',.string nm',.int .i64 n',.slice la' ll' lc',.slice ab' al' ac'] 25)) mb o') = W9 at *
        go_wp2_with fail
        go_roundg (ns.length - (i + 1))
        case measure => omega
        case rel => exact ⟨i + 1,_,by omega,by go_num,HP9.out⟩
      . have hlk2 := HLK.out
        rw [hdup] at hlk2
        have HLK2 := Lib.hid hlk2
        have HR : Hid (replR x ns vs = (18,zeroE)) := by
         show _ = _
         have hm : (ns[i]'HHI.out) ∈ ns.take i := by
          have h1 : ¬ lkP ((ns.zip vs).take i) (ns[i]'HHI.out) = none := fun e => by rw [e] at hdup;cases hdup
          rw [lkP_none,zip_fst HLEN.out] at h1
          exact Classical.byContradiction h1
         have : errW x ns vs = 18 := (if_pos HLEN.out).trans (if_neg (dup_not HHI.out hm))
         unfold replR
         rw [this]
         rfl
        clear hlk2 HLK hdup
        go_wp2_with (first
         | (refine qdL rfl 63 (.tmp 33) (.tmp 34) rfl (.map (some mb)) (.string ⟨(ns[i]'hi).toArray⟩) _ rfl rfl HLK2.out ?_)
         | (refine qaC rfl 25 (.tmp 11) (.tmp 36) rfl wr _ #[.int .i64 k',.string nm',.int .i64 n',.slice la' ll' lc',.slice ab' al' ac'] rfl rfl exprSize rfl (by simp [Value.oneCell']) ?_)
         | (refine qaA rfl 25 (.tmp 6) (.tmp 39) rfl _ (w.heap.size + 1) 25 #[.int .i64 0,.string ⟨#[]⟩,.int .i64 0,.slice none 0 0,.slice none 0 0] #[.int .i64 0,.string ⟨#[]⟩,.int .i64 0,.slice none 0 0,.slice none 0 0] rfl rfl HST2.out.zero exprSize rfl (by simp [Value.oneCell']) ?_))
        refine bodyPost_ret (qaE (P := Tryz.prog) rfl _ _ (w.heap.size + 1) 25 #[.int .i64 0,.string ⟨#[]⟩,.int .i64 0,.slice none 0 0,.slice none 0 0] (0,0) _ _ rfl rfl (qaF _ (w.heap.size + 1) _ _ _ HST2.out.zero) Tryz.underlying25 rfl exprSize) rfl ?_
        rw [HR.out]
        exact ⟨⟨[.int .i64 0,.string ⟨#[]⟩,.int .i64 0,.slice none 0 0,.slice none 0 0],rfl,qdB _ _⟩,qaD HST2.out.below (by omega) _⟩
    . have hie : i = ns.length := by omega
      subst hie
      obtain ⟨i0,hi0,hz0,hz1,hz2⟩ := info_parts infoExprE
      have HI := Lib.hid hi0
      have HZ0 := Lib.hid hz0
      have HZ1 := Lib.hid hz1
      clear hi0 hz0 hz1 hz2
      have HXR : Hid (wr.rangeAt w.heap.size 0 [.int .i64 k,.string nm,.int .i64 n,.slice la ll lc,.slice aa al ac]) := qaB HST.out.box
      have hba : Below wr.heap.size wr (wr.alloc (.cells #[.int .i64 k,.string nm,.int .i64 n,.slice la ll lc,.slice aa al ac] 25)) := (Below.refl _ _).alloc (Nat.le_refl _) _
      have HSA := Lib.hid (HST.out.keep hba)
      obtain ⟨A',c',w2,happ,hb2,hargs⟩ := append_exprs x vs [.int .i64 k,.string nm,.int .i64 n,.slice la ll lc,.slice aa al ac] va vc wr.heap.size (· < w.heap.size) (wr.alloc (.cells #[.int .i64 k,.string nm,.int .i64 n,.slice la ll lc,.slice aa al ac] 25))
       (ExprC.mono (fun q hq hl => ⟨hq,HSA.out.below.block q hl⟩) _ _ HX.out) (heap_alloc_new _ _) (HV.out.mono fun q hq hl => ⟨hq,HSA.out.below.block q hl⟩) (by omega)
      have HAPP := Lib.hid happ
      have HS2 := Lib.hid (HSA.out.keep hb2)
      have HARG := Lib.hid hargs
      clear happ hb2 hargs hba
      go_upto_region 13 with (first
       | (refine wpList_load_mid rfl 25 (.tmp 3) rfl w.heap.size 0 rfl [.int .i64 k,.string nm,.int .i64 n,.slice la ll lc,.slice aa al ac] _ HXR.out Tryz.underlying25 rfl exprSize ?_)
       | (refine wpList_buildSlice rfl 23 25 1 _ rfl #[.int .i64 k,.string nm,.int .i64 n,.slice la ll lc,.slice aa al ac] i0 _ Tryz.underlying23 HI.out HZ0.out (by rw [HZ1.out];decide) (by rw [HZ1.out];decide) (by rw [HZ1.out];rfl) ?_)
       | (at_builtin;refine wpList_app rfl (.tmp 48) (.tmp 49) 23 rfl rfl rfl HAPP.out ?_))
      have HC0 : Hid (CSr w (ns.zip vs) [.int .i64 k,.string nm,.int .i64 n,.slice la ll lc,.slice aa al ac] mb M ns.length A' (x :: vs) 0 w2) := ⟨HS2.out,HARG.out,fun j y hj => by omega,HP.out.grow HS2.out.below⟩
      have HXL : Hid ((x :: vs).length = vs.length + 1) := rfl
      clear HAPP HXR HSA HI HZ0 HZ1 HST HNS HS2 HARG
      go_loopg [52] (x :: vs).length (fun g v wr => RelRc w (ns.zip vs) [.int .i64 k,.string nm,.int .i64 n,.slice la ll lc,.slice aa al ac] mb M ns.length A' (x :: vs) v g wr)
      case atStart => exact ⟨0,by omega,rfl,HC0.out⟩
      case round =>
       obtain ⟨i,hig,rfl,hst⟩ := hrel
       have HST := Lib.hid hst
       clear hst HC0
       by_cases hi : i < (x :: vs).length
       . obtain ⟨b,o,k2,nm2,n2,la2,ll2,lc2,ab2,al2,ac2,haa,hrg,hec⟩ := HST.out.args.at_ hi
         have hba : Below wr.heap.size wr (wr.alloc (.cells #[.int .i64 k2,.string nm2,.int .i64 n2,.slice la2 ll2 lc2,.slice ab2 al2 ac2] 25)) := (Below.refl _ _).alloc (Nat.le_refl _) _
         have HSA := Lib.hid (HST.out.keep hba)
         have hos : OkS ((x :: vs)[i]'hi) := by
          rcases List.mem_cons.1 (List.getElem_mem hi) with e | e
          . rw [e];exact HOX.out
          . exact HOV.out _ e
         have HCK := Lib.hid (check_cL ((x :: vs)[i]'hi) [.int .i64 k2,.string nm2,.int .i64 n2,.slice la2 ll2 lc2,.slice ab2 al2 ac2] _ (wr.alloc (.cells #[.int .i64 k2,.string nm2,.int .i64 n2,.slice la2 ll2 lc2,.slice ab2 al2 ac2] 25)) (hec.grow hba) (Nat.le_trans hos.2 (by decide)) (by have h1 := ent_bnd _ hos.1;have h2 := hos.2;omega) HSA.out.pows)
         have HRG := Lib.hid hrg
         have HXN : Hid ((wr.alloc (.cells #[.int .i64 k2,.string nm2,.int .i64 n2,.slice la2 ll2 lc2,.slice ab2 al2 ac2] 25)).rangeAt wr.heap.size 0 [.int .i64 k2,.string nm2,.int .i64 n2,.slice la2 ll2 lc2,.slice ab2 al2 ac2]) := qaB (heap_alloc_new _ _)
         have HHI := Lib.hid hi
         have hil : i < vs.length + 1 := hi
         have k0 : (0 : Int) <= (i : Int) := by omega
         have k1 : (i : Int) < ((vs.length + 1 : Nat) : Int) := by omega
         have hw : IntKind.i64.wrap ((i : Int) + 1) = (i : Int) + 1 := IntWalk.i64_in _ (by omega)
         subst haa
         clear hrg hec hba
         go_upto_region 15 with (first
          | (refine wpList_load_mid rfl 25 (.tmp 54) rfl b (o + i * 5) rfl [.int .i64 k2,.string nm2,.int .i64 n2,.slice la2 ll2 lc2,.slice ab2 al2 ac2] _ HRG.out Tryz.underlying25 rfl exprSize ?_)
          | (refine qaC rfl 25 (.tmp 14) (.tmp 55) rfl wr _ #[.int .i64 k2,.string nm2,.int .i64 n2,.slice la2 ll2 lc2,.slice ab2 al2 ac2] rfl rfl exprSize rfl (by simp [Value.oneCell']) ?_))
         generalize (wr.alloc (.cells #[.int .i64 k2,.string nm2,.int .i64 n2,.slice la2 ll2 lc2,.slice ab2 al2 ac2] 25)) = Wa at *
         go_wp2_with (refine wpList_load_mid rfl 25 (.tmp 14) rfl wr.heap.size 0 rfl [.int .i64 k2,.string nm2,.int .i64 n2,.slice la2 ll2 lc2,.slice ab2 al2 ac2] _ HXN.out Tryz.underlying25 rfl exprSize ?_)
         refine HCK.out.mono ?_
         rintro e w3 ⟨rfl,hb3⟩
         have HS3 := Lib.hid (HSA.out.keep hb3)
         clear hb3 HCK HXN HRG HSA HST
         by_cases hck : checkE ((x :: vs)[i]'hi) = 0
         . have HN := Lib.hid (HS3.out.next HHI.out hck)
           rw [hck]
           clear hck HS3
           go_wp2_with fail
           go_roundg ((x :: vs).length - (i + 1))
           case measure => have := HXL.out;omega
           case rel => exact ⟨i + 1,by omega,by go_num,HN.out⟩
         . have HR : Hid (replR x ns vs = ((checkE ((x :: vs)[i]'HHI.out) : Int),zeroE)) := by
            show _ = _
            exact replR_at HLEN.out (HS3.out.st.nd HLEN.out) HHI.out HS3.out.good hck
           have hn0 : (((checkE ((x :: vs)[i]'HHI.out) : Nat) : Int) != 0) = true := by simpa using hck
           generalize checkE ((x :: vs)[i]'hi) = ke at *
           go_wp2_with (refine qaA rfl 25 (.tmp 6) (.tmp 60) rfl _ (w.heap.size + 1) 25 #[.int .i64 0,.string ⟨#[]⟩,.int .i64 0,.slice none 0 0,.slice none 0 0] #[.int .i64 0,.string ⟨#[]⟩,.int .i64 0,.slice none 0 0,.slice none 0 0] rfl rfl HS3.out.st.zero exprSize rfl (by simp [Value.oneCell']) ?_)
           refine bodyPost_ret (qaE (P := Tryz.prog) rfl _ _ (w.heap.size + 1) 25 #[.int .i64 0,.string ⟨#[]⟩,.int .i64 0,.slice none 0 0,.slice none 0 0] (0,0) _ _ rfl rfl (qaF _ (w.heap.size + 1) _ _ _ HS3.out.st.zero) Tryz.underlying25 rfl exprSize) rfl ?_
           rw [HR.out]
           exact ⟨⟨[.int .i64 0,.string ⟨#[]⟩,.int .i64 0,.slice none 0 0,.slice none 0 0],rfl,qdB _ _⟩,qaD HS3.out.st.below (by omega) _⟩
       . have hnl : ¬ (i : Int) < ((vs.length + 1 : Nat) : Int) := by have := HXL.out;omega
         have HE0 := Lib.hid (errW_all HLEN.out (HST.out.st.nd HLEN.out) (fun j y hj hy => HST.out.good j y (by omega) hy))
         have HRC := Lib.hid (replace_c wr.heap.size (lkP (ns.zip vs)) (some mb) (fun nm y hy => (lkP_ok HOV.out nm y hy).ok) x [.int .i64 k,.string nm,.int .i64 n,.slice la ll lc,.slice aa al ac] wr (ExprC.mono (fun q hq _ => ⟨Nat.lt_of_lt_of_le hq HST.out.st.below.size,HST.out.st.below.block q hq⟩) _ _ HX.out) HST.out.st.mapZ (Nat.le_refl _) HOX.out.ok)
         have HBD := Lib.hid (rep_bounds (f := lkP (ns.zip vs)) (lkP_ok HOV.out) HOX.out)
         have HR1 := Lib.hid (fun h : checkE (repE (lkP (ns.zip vs)) x) ≠ 0 => replR_last HE0.out h)
         have HR2 := Lib.hid (fun h : checkE (repE (lkP (ns.zip vs)) x) = 0 => replR_ok HE0.out h)
         have HXR : Hid (wr.rangeAt w.heap.size 0 [.int .i64 k,.string nm,.int .i64 n,.slice la ll lc,.slice aa al ac]) := qaB HST.out.st.box
         have hzz : w.heap.size + 1 < wr.heap.size := (Array.getElem?_eq_some_iff.1 HST.out.st.zero).1
         clear HE0 HOV HOX HX HV
         generalize repE (lkP (ns.zip vs)) x = rx at *
         go_wp2_with (refine wpList_load_mid rfl 25 (.tmp 3) rfl w.heap.size 0 rfl [.int .i64 k,.string nm,.int .i64 n,.slice la ll lc,.slice aa al ac] _ HXR.out Tryz.underlying25 rfl exprSize ?_)
         refine HRC.out.mono ?_
         rintro e w3 ⟨⟨cs,rfl,hcs⟩,hb3⟩
         obtain ⟨k3,nm3,n3,la3,ll3,lc3,ab3,al3,ac3,rfl⟩ := hcs.shape
         have hba : Below w3.heap.size w3 (w3.alloc (.cells #[.int .i64 k3,.string nm3,.int .i64 n3,.slice la3 ll3 lc3,.slice ab3 al3 ac3] 25)) := (Below.refl _ _).alloc (Nat.le_refl _) _
         have HS3 := Lib.hid ((HST.out.keep hb3).keep hba)
         have HC3 := Lib.hid (hcs.grow hba)
         have HCK := Lib.hid (check_cL rx [.int .i64 k3,.string nm3,.int .i64 n3,.slice la3 ll3 lc3,.slice ab3 al3 ac3] _ (w3.alloc (.cells #[.int .i64 k3,.string nm3,.int .i64 n3,.slice la3 ll3 lc3,.slice ab3 al3 ac3] 25)) HC3.out HBD.out.1 (by have := HBD.out.2;omega) HS3.out.pows)
         have HXN : Hid ((w3.alloc (.cells #[.int .i64 k3,.string nm3,.int .i64 n3,.slice la3 ll3 lc3,.slice ab3 al3 ac3] 25)).rangeAt w3.heap.size 0 [.int .i64 k3,.string nm3,.int .i64 n3,.slice la3 ll3 lc3,.slice ab3 al3 ac3]) := qaB (heap_alloc_new _ _)
         have hsz : w3.heap.size < (w3.alloc (.cells #[.int .i64 k3,.string nm3,.int .i64 n3,.slice la3 ll3 lc3,.slice ab3 al3 ac3] 25)).heap.size := by simp
         have HSZ := Lib.hid hsz
         clear hcs hb3 hba HRC HST HXR HBD hsz
         go_upto_region 20 with (refine qaC rfl 25 (.tmp 16) (.tmp 65) rfl w3 _ #[.int .i64 k3,.string nm3,.int .i64 n3,.slice la3 ll3 lc3,.slice ab3 al3 ac3] rfl rfl exprSize rfl (by simp [Value.oneCell']) ?_)
         generalize (w3.alloc (.cells #[.int .i64 k3,.string nm3,.int .i64 n3,.slice la3 ll3 lc3,.slice ab3 al3 ac3] 25)) = Wa at *
         go_wp2_with (refine wpList_load_mid rfl 25 (.tmp 16) rfl w3.heap.size 0 rfl [.int .i64 k3,.string nm3,.int .i64 n3,.slice la3 ll3 lc3,.slice ab3 al3 ac3] _ HXN.out Tryz.underlying25 rfl exprSize ?_)
         refine HCK.out.mono ?_
         rintro e w4 ⟨rfl,hb4⟩
         have HS4 := Lib.hid (HS3.out.keep hb4)
         have HC4 := Lib.hid (HC3.out.grow hb4)
         have HX4 := Lib.hid (qaJ HXN.out (hb4.block _ HSZ.out))
         clear hb4 HCK HXN HS3 HC3 HSZ
         by_cases hck : checkE rx = 0
         . have HR := Lib.hid (HR2.out hck)
           rw [hck]
           clear hck HR1 HR2
           go_wp2_with (first
            | (refine wpList_load_mid rfl 25 (.tmp 16) rfl w3.heap.size 0 rfl [.int .i64 k3,.string nm3,.int .i64 n3,.slice la3 ll3 lc3,.slice ab3 al3 ac3] _ HX4.out Tryz.underlying25 rfl exprSize ?_)
            | (refine qaA rfl 25 (.tmp 6) (.tmp 72) rfl _ (w.heap.size + 1) 25 #[.int .i64 0,.string ⟨#[]⟩,.int .i64 0,.slice none 0 0,.slice none 0 0] #[.int .i64 k3,.string nm3,.int .i64 n3,.slice la3 ll3 lc3,.slice ab3 al3 ac3] rfl rfl HS4.out.st.zero exprSize rfl (by simp [Value.oneCell']) ?_))
           refine bodyPost_ret (qaE (P := Tryz.prog) rfl _ _ (w.heap.size + 1) 25 #[.int .i64 k3,.string nm3,.int .i64 n3,.slice la3 ll3 lc3,.slice ab3 al3 ac3] (0,0) _ _ rfl rfl (qaF _ (w.heap.size + 1) _ _ _ HS4.out.st.zero) Tryz.underlying25 rfl exprSize) rfl ?_
           rw [HR.out]
           exact ⟨⟨[.int .i64 k3,.string nm3,.int .i64 n3,.slice la3 ll3 lc3,.slice ab3 al3 ac3],rfl,ExprC.mono (fun b (hb : wr.heap.size <= b) _ => ⟨trivial,setRow_other _ _ _ _ (by omega)⟩) _ _ HC4.out⟩,qaD HS4.out.st.below (by omega) _⟩
         . have HR := Lib.hid (HR1.out hck)
           have hn0 : (((checkE rx : Nat) : Int) != 0) = true := by simpa using hck
           clear HR1 HR2
           generalize checkE rx = ke at *
           go_wp2_with (refine qaA rfl 25 (.tmp 6) (.tmp 70) rfl _ (w.heap.size + 1) 25 #[.int .i64 0,.string ⟨#[]⟩,.int .i64 0,.slice none 0 0,.slice none 0 0] #[.int .i64 0,.string ⟨#[]⟩,.int .i64 0,.slice none 0 0,.slice none 0 0] rfl rfl HS4.out.st.zero exprSize rfl (by simp [Value.oneCell']) ?_)
           refine bodyPost_ret (qaE (P := Tryz.prog) rfl _ _ (w.heap.size + 1) 25 #[.int .i64 0,.string ⟨#[]⟩,.int .i64 0,.slice none 0 0,.slice none 0 0] (0,0) _ _ rfl rfl (qaF _ (w.heap.size + 1) _ _ _ HS4.out.st.zero) Tryz.underlying25 rfl exprSize) rfl ?_
           rw [HR.out]
           exact ⟨⟨[.int .i64 0,.string ⟨#[]⟩,.int .i64 0,.slice none 0 0,.slice none 0 0],rfl,qdB _ _⟩,qaD HS4.out.st.below (by omega) _⟩
 . have hne : ((ns.length : Int) != (vs.length : Int)) = true := by simpa using (fun h => hlen (by omega))
   have HR : Hid (replR x ns vs = (3,zeroE)) := by
    show _ = _
    have : errW x ns vs = 3 := if_neg hlen
    unfold replR
    rw [this]
    rfl
   have HK := Lib.hid (HB0.out.at_ (i := 1) rfl)
   go_wp2_with (refine qaA rfl 25 (.tmp 6) (.tmp 23) rfl _ (w.heap.size + 1) 25 #[.int .i64 0,.string ⟨#[]⟩,.int .i64 0,.slice none 0 0,.slice none 0 0] #[.int .i64 0,.string ⟨#[]⟩,.int .i64 0,.slice none 0 0,.slice none 0 0] rfl rfl HK.out exprSize rfl (by simp [Value.oneCell']) ?_)
   refine bodyPost_ret (qaE (P := Tryz.prog) rfl _ _ (w.heap.size + 1) 25 #[.int .i64 0,.string ⟨#[]⟩,.int .i64 0,.slice none 0 0,.slice none 0 0] (0,0) _ _ rfl rfl (qaF _ (w.heap.size + 1) _ _ _ HK.out) Tryz.underlying25 rfl exprSize) rfl ?_
   rw [HR.out]
   exact ⟨⟨[.int .i64 0,.string ⟨#[]⟩,.int .i64 0,.slice none 0 0,.slice none 0 0],rfl,qdB _ _⟩,qaD HB0.out.below (by omega) _⟩
end Go.Proofs.YtaddcadapbpkfaaGreatDoor
