/- Parts of the proof. -/
import Derived.Test.YtndipkplnkfoeaaGreatR15
set_option maxRecDepth 100000
set_option maxHeartbeats 8000000
namespace Go.Proofs.YtndipkplnkfoeaaGreat
open Go.RowKit Pln
structure BoxK (w:World) (a r:List Value) (W:World):Prop where
 below:Below w.heap.size w W
 size:w.heap.size+1<W.heap.size
 k0:W.heap[w.heap.size]?=some (.cells a.toArray 32 (0,0))
 k1:W.heap[w.heap.size+1]?=some (.cells r.toArray 32 (0,0))
theorem dsameE_c(p m S R:Int)(mod P:List Int)(A U:Option Addr)(c W:Nat)(N Q:Int)(zs T:List (List Int))(G V:Option Addr)(g X:Nat)(w:World)(hA:IntsAt w w.heap.size A mod)(Z:IntsAt w w.heap.size U P)(hl:mod.length<=9223372036854775807)(hG:RowsAt w w.heap.size G zs)(aa:RowsAt w w.heap.size V T)(ab:zs.length<=9223372036854775807)(hr:∀ k,k<zs.length->(zs.getD k []).length<=9223372036854775807):
 zC 32 #[Ck p m A mod.length c N G zs.length g,Ck S R U P.length W Q V T.length X] w fun e w'=>e=.returned (.bool (decide (p=S/\m=R/\mod=P) && ((N==Q) && decide (zs=T))))/\Below w.heap.size w w':=by
 have d:=zH (tb_new w (Ca p m A mod.length c N G zs.length g) (Ca S R U P.length W Q V T.length X) 32);have C:=zH hA;have s:=zH Z;have D:=zH hG;have v:=zH aa;have E:=zH hr;clear hA Z hG aa hr;go_enter Tryz.func32,Tryz.ntmps32;go_upto_region 1 with fail;generalize (w.alloc (Cf p m A mod.length c N G zs.length g)).alloc (Cf S R U P.length W Q V T.length X)=x at *;have n:Hid (x.rangeAt w.heap.size 0 (Ci p m A mod.length c)):=d.out.sub 0 _ (fun j hj=>by rcases j with _|_|_|j<;>first|rfl|(simp at hj;omega));have o:Hid (x.rangeAt (w.heap.size+1) 0 (Ci S R U P.length W)):=d.out.sub1 0 _ (fun j hj=>by rcases j with _|_|_|j<;>first|rfl|(simp at hj;omega));have B:=zH (psame_c p m S R mod P A U c W x ((C.out.keep d.out.below).more d.out.below.size) ((s.out.keep d.out.below).more d.out.below.size) hl);generalize q:decide (p=S/\m=R/\mod=P)=J at *;have f:=zH q;clear q
 go_wp2_with (first
  |(refine wpList_load_mid rfl 29 (.tmp 5) rfl w.heap.size 0 rfl (Ci p m A mod.length c) _ n.out Tryz.underlying29 rfl fieldSize ?_)
  |(refine wpList_load_mid rfl 29 (.tmp 7) rfl (w.heap.size+1) 0 rfl (Ci S R U P.length W) _ o.out Tryz.underlying29 rfl fieldSize ?_))
 refine B.out.mono ?_;rintro e i ⟨rfl,hb1⟩;have b:=zH (d.out.grow hb1);clear hb1 B d n o;have H:i.cell? (zA w.heap.size 3)=some (Y N):=b.out.cell rfl;have I:i.cell? (zA w.heap.size 4)=some (zL G zs.length g):=b.out.cell rfl;have K:i.cell? (zA (w.heap.size+1) 3)=some (Y Q):=b.out.cell1 rfl;have L:i.cell? (zA (w.heap.size+1) 4)=some (zL V T.length X):=b.out.cell1 rfl;cases J
 . go_wp2_with fail;go_ret;exact⟨by rw[f.out];rfl,b.out.below⟩
 . by_cases z : N = Q
   . have y:(N==Q)=true:=beq_iff_eq.2 z;have l:=zH (sequalf_c zs T G V g X i ((D.out.keep b.out.below).more b.out.below.size) ((v.out.keep b.out.below).more b.out.below.size) ab E.out);have h:=zH y;clear z;generalize r:decide (zs=T)=M at *;have u:=zH r;clear r;go_wp2_with fail;refine l.out.mono ?_;rintro e O ⟨rfl,nq,rfl⟩;have t:=zH (b.out.below.trans ((qaB (Below.refl i.heap.size i) nq).mono b.out.below.size));clear l H I K L;go_wp2_with fail;go_ret;exact⟨by rw[f.out,h.out,u.out];rfl,t.out⟩
   . have y:(N==Q)=false:=beq_false_of_ne z;have h:=zH y;go_wp2_with fail;go_ret;exact⟨by rw[f.out,h.out];rfl,b.out.below⟩
end Go.Proofs.YtndipkplnkfoeaaGreat
