/- Parts of the proof. -/
import Derived.Test.YtkcdlealipfnbaaGreatR31
set_option maxRecDepth 100000
set_option maxHeartbeats 8000000
namespace Go.Proofs.YtkcdlealipfnbaaGreat
open Go.RowKit Pln Go.Proofs.Tryz
theorem StsAt.more'{w:Wo}{B B':Nat}{A:OA}{l:List StD}(h:StsAt w B A l)(m:B<=B'):StsAt w B' A l:=fun hz=>by
 obtain⟨b,o,e,k,j⟩:=h hz
 refine⟨b,o,e,U0,fun i d hd=>?_⟩
 obtain⟨c,f,g⟩:=j i d hd
 exact⟨c,f,g.more m⟩
def RelFw(w:Wo)(n:Nat)(v3:Value)(wr:Wo):Prop:=∃k:Nat,k<=n/\v3=Y k/\zB w wr
def FewPost(w:Wo)(n:Nat)(e:Ending)(w':Wo):Prop:=∃b,e=.returned (.bool b)/\zB w w'/\(b=true->n<=12)
theorem rfewD_c(ds:List StD)(A:OA)(c:Nat)(w:Wo)(hA:StsAt w w.heap.size A ds)(hk:∀ d∈ds,d.ok):
 zC 14 #[zL A ds.length c] w (FewPost w ds.length):=by
 have HA:=zH hA;have HK:=zH hk;clear hA hk;go_enter func14,ntmps14;by_cases a9:(12:Int)<(ds.length:Int)
 . go_wp2;go_ret;exact⟨_,rfl,Below.refl _ _,fun h=>by cases h⟩
 have j:zK (ds.length<=12):=U5;go_wp2;go_loopw [3] (fun v3 wr=>RelFw w ds.length v3 wr) (fun v3 _=>ds.length-(intOf v3).toNat);case atStart=>exact⟨0,Nat.zero_le _,rfl,Below.refl _ _⟩
 case round =>
  obtain⟨k,bc,rfl,hb⟩:=hrel;have i:=zH hb;clear hb;by_cases ab:k<ds.length
  . (have k0 : (0 : Int) <= (k : Int) := by omega);have k1:(k:Int)<(ds.length:Int):=U0;have bd:IntKind.i64.wrap ((k:Int)+1)=(k:Int)+1:=IntWalk.i64_in _ U0;obtain ⟨b,o,a7,rfl,ba,an,ao⟩:=(HA.o.keep i.o).at_ ab;have a4:=HK.o _ (List.getElem_mem ab);generalize ds[k]'ab=s at *;have av:=zH (ao.more i.o.size);obtain ⟨C,B,Af,Aa,Ab,Ap,Aq,Ar,As,At,H,E,cf,ca,cb,cp,cq,cr,y,S,rfl,ay,h1,h2,h3,h4,h5⟩:=ao;have HM:=zH (h1.more i.o.size);have HG:=zH (h2.more i.o.size);have HT:=zH (h5.more i.o.size);have ak:=zH an;obtain ⟨s1,s2,_⟩:=a4;have aw:maxLen=9223372036854775807:=rfl;rw [aw] at s1 s2;have t:=zH (sb_new wr (stCells s C B Af Aa Ab Ap Aq Ar As At H E cf ca cb cp cq cr y S));(have Q:zK ((stCells s C B Af Aa Ab Ap Aq Ar As At H E cf ca cb cp cq cr y S).toArray.all (·.oneCell')=true):=by show _=_;simp [stCells,Value.oneCell']);clear ay h1 h2 h3 h4 h5 an av
    go_upto_region 7 with(first
     |(refine wpList_load_mid rfl 40 (.tmp 18) rfl b (o+k*23) rfl (stCells s C B Af Aa Ab Ap Aq Ar As At H E cf ca cb cp cq cr y S) _ ak.o underlying40 rfl stepSize ?_)
     |(refine qaH rfl 40 (.tmp 4) (.tmp 19) rfl wr _ (stCells s C B Af Aa Ab Ap Aq Ar As At H E cf ca cb cp cq cr y S).toArray rfl rfl stepSize rfl Q.o ?_))
    generalize wr.alloc (.cells (stCells s C B Af Aa Ab Ap Aq Ar As At H E cf ca cb cp cq cr y S).toArray 40)=D at *;clear ak Q;have T:D.cell? (zA wr.heap.size 1)=some (Y s.p):=t.o.cell rfl;have U:D.cell? (zA wr.heap.size 2)=some (Y s.m):=t.o.cell rfl;have V:D.cell? (zA wr.heap.size 3)=some (zL C s.mod.length H):=t.o.cell rfl;have X:D.cell? (zA wr.heap.size 4)=some (Y s.n):=t.o.cell rfl;have Z:D.cell? (zA wr.heap.size 5)=some (zL B s.gen.length E):=t.o.cell rfl;have y7:D.cell? (zA wr.heap.size 7)=some (zL Af s.frm.length cf):=t.o.cell rfl;have y8:D.cell? (zA wr.heap.size 8)=some (zL Aa s.at_.length ca):=t.o.cell rfl;have ac:D.cell? (zA wr.heap.size 17)=some (zL Ap s.points cp):=t.o.cell rfl;have ad:D.cell? (zA wr.heap.size 18)=some (zL Aq s.mults cq):=t.o.cell rfl;have ae:D.cell? (zA wr.heap.size 19)=some (zL Ar s.perm cr):=t.o.cell rfl;have af:D.cell? (zA wr.heap.size 20)=some (zL As s.scale y):=t.o.cell rfl;have ag:D.cell? (zA wr.heap.size 22)=some (zL At s.sets.length S):=t.o.cell rfl;by_cases bf:(24:Int)<s.n
    . go_wp2;go_ret;exact⟨_,rfl,i.o.trans (t.o.2.1.mono i.o.size),fun _=>j.o⟩
    by_cases a8:(24:Int)<(s.gen.length:Int)
    . go_wp2;go_ret;exact⟨_,rfl,i.o.trans (t.o.2.1.mono i.o.size),fun _=>j.o⟩
    have HF:=zH (fewN_c 700 (Y s.p) (Y s.m) (zL C s.mod.length H) (Y s.n) s.gen B E D ((HG.o.keep t.o.2.1).more t.o.2.1.size) dc dc);go_wp2_with fail;go_fit HF.o;rintro e I ⟨b1,rfl,hb1⟩;have f:=zH (t.o.grow hb1);clear hb1 HF t;clear T U V X Z y7 y8 ac ad ae af ag;have T:I.cell? (zA wr.heap.size 1)=some (Y s.p):=f.o.cell rfl;have U:I.cell? (zA wr.heap.size 2)=some (Y s.m):=f.o.cell rfl;have V:I.cell? (zA wr.heap.size 3)=some (zL C s.mod.length H):=f.o.cell rfl;have X:I.cell? (zA wr.heap.size 4)=some (Y s.n):=f.o.cell rfl;have Z:I.cell? (zA wr.heap.size 5)=some (zL B s.gen.length E):=f.o.cell rfl;have y7:I.cell? (zA wr.heap.size 7)=some (zL Af s.frm.length cf):=f.o.cell rfl;have y8:I.cell? (zA wr.heap.size 8)=some (zL Aa s.at_.length ca):=f.o.cell rfl;have ac:I.cell? (zA wr.heap.size 17)=some (zL Ap s.points cp):=f.o.cell rfl;have ad:I.cell? (zA wr.heap.size 18)=some (zL Aq s.mults cq):=f.o.cell rfl;have ae:I.cell? (zA wr.heap.size 19)=some (zL Ar s.perm cr):=f.o.cell rfl;have af:I.cell? (zA wr.heap.size 20)=some (zL As s.scale y):=f.o.cell rfl;have ag:I.cell? (zA wr.heap.size 22)=some (zL At s.sets.length S):=f.o.cell rfl;clear D;cases b1
    . go_wp2;go_ret;exact⟨_,rfl,i.o.trans (f.o.2.1.mono i.o.size),fun _=>j.o⟩
    obtain⟨e1,az⟩:∃e1,IntKind.i64.wrap ((s.at_.length:Int)+(s.points:Int))=e1:=⟨_,rfl⟩;obtain⟨e2,a0⟩:∃e2,IntKind.i64.wrap (e1+(s.mults:Int))=e2:=⟨_,rfl⟩;obtain⟨e3,a1⟩:∃e3,IntKind.i64.wrap (e2+(s.perm:Int))=e3:=⟨_,rfl⟩;obtain⟨e4,a2⟩:∃e4,IntKind.i64.wrap (e3+(s.scale:Int))=e4:=⟨_,rfl⟩;obtain⟨e5,a3⟩:∃e5,IntKind.i64.wrap (e4+(s.frm.length:Int))=e5:=⟨_,rfl⟩;by_cases hs:(200:Int)<e5
    . go_wp2;go_ret;exact⟨_,rfl,i.o.trans (f.o.2.1.mono i.o.size),fun _=>j.o⟩
    have HF:=zH (xfew_c s.sets At S I ((HT.o.keep f.o.2.1).more f.o.2.1.size));go_wp2_with fail;go_fit HF.o;rintro e w2 ⟨b2,rfl,hb2⟩;have u:=zH (f.o.grow hb2);clear hb2 HF f az a0 a1 a2 a3;clear T U V X Z y7 y8 ac ad ae af ag;clear I;cases b2
    . go_wp2;go_ret;exact⟨_,rfl,i.o.trans (u.o.2.1.mono i.o.size),fun _=>j.o⟩
    (have N:=zH<|u.o.code);have ai:=zH (rcodecheck_c s.p s.m s.mod C H s.n s.gen B E w2 ((HM.o.keep u.o.2.1).more u.o.2.1.size) s1 ((HG.o.keep u.o.2.1).more u.o.2.1.size) s2);go_wp2_with (refine wpList_load_mid rfl 32 (.tmp 71) rfl wr.heap.size 1 rfl (C2 s.p s.m C s.mod.length H s.n B s.gen.length E) _ N.o underlying32 rfl codeSize ?_);go_fit ai.o;rintro e w3 ⟨rfl,hb3⟩;have v:=zH (u.o.grow hb3);clear hb3 ai u N;clear w2;have ah:=zH (i.o.trans (v.o.2.1.mono i.o.size));by_cases hz:codeZ s.p s.m s.mod s.n s.gen=0
    . (have N := zH<|v.o.code);have aj:=zH (rdual_c s C H B E w3 hz ((HM.o.keep v.o.2.1).more v.o.2.1.size) ((HG.o.keep v.o.2.1).more v.o.2.1.size));have bb:=(qfR hz).2.2.2.2.2
      have aa:=zH<|fun W hW=>
       count_c s.p s.m s.mod C H s.n s.gen B E 1024 W ((HM.o.keep hW).more hW.size) s1 ((HG.o.keep hW).more hW.size) U0
      rw[hz];clear hz;go_upto_region 10 with fail;go_wp2_with (refine wpList_load_mid rfl 32 (.tmp 76) rfl wr.heap.size 1 rfl (C2 s.p s.m C s.mod.length H s.n B s.gen.length E) _ N.o underlying32 rfl codeSize ?_);go_fit aj.o;rintro e K ⟨⟨B',c',G,R,k',rfl,hi4,hr4,hl4⟩,hb4⟩;have al:=zH (v.o.grow hb4);have J:zB K (K.alloc (C9 s.p s.m B' s.mod.length c' s.n G R.length k')):=zV.alloc zn _;have g:=zH (al.o.grow J);have ar:=zH ((hi4.keep J).more J.size);have au:=zH ((hr4.keep J).more J.size);have M:=zH (heap_alloc_new K (C9 s.p s.m B' s.mod.length c' s.n G R.length k'));(have a6:zK (K.heap.size<(K.alloc (C9 s.p s.m B' s.mod.length c' s.n G R.length k')).heap.size):=by show _ < _;simp);clear hb4 hi4 hr4 aj v N J al ah;go_upto_region 11 with(refine qaH rfl 32 (.tmp 5) (.tmp 79) rfl K _ (Cd s.p s.m B' s.mod.length c' s.n G R.length k') rfl rfl codeSize rfl sc ?_);generalize K.alloc (C9 s.p s.m B' s.mod.length c' s.n G R.length k')=L at *;have aq:=zH (i.o.trans (g.o.2.1.mono i.o.size));have y0:L.cell? (zA wr.heap.size 0)=some (Y s.rule):=g.o.cell rfl;have T:L.cell? (zA wr.heap.size 1)=some (Y s.p):=g.o.cell rfl;have U:L.cell? (zA wr.heap.size 2)=some (Y s.m):=g.o.cell rfl;have V:L.cell? (zA wr.heap.size 3)=some (zL C s.mod.length H):=g.o.cell rfl;have X:L.cell? (zA wr.heap.size 4)=some (Y s.n):=g.o.cell rfl;have Z:L.cell? (zA wr.heap.size 5)=some (zL B s.gen.length E):=g.o.cell rfl;by_cases O:s.rule=15
      . have a5 := beq_iff_eq.2 O;have ap:(s.rule==16)=false:=beq_false_of_ne U0;have l:=zH (aa.o L g.o.2.1);clear O aa;by_cases r:cnV s.p s.m s.mod s.n s.gen 1024=0
        . rw[r] at l;clear r;go_wp2_with fail;go_fit l.o;rintro e w6 ⟨rfl,hb6⟩;have q:=zH (g.o.grow hb6);have x:=zH (i.o.trans (q.o.2.1.mono i.o.size));clear hb6 l g y0 T U V X Z;have y0:w6.cell? (zA wr.heap.size 0)=some (Y s.rule):=q.o.cell rfl;go_wp2;go_ret;exact⟨_,rfl,x.o,fun _=>j.o⟩
        . have ax:=beq_false_of_ne r;generalize cnV s.p s.m s.mod s.n s.gen 1024=cv at *;clear r;go_wp2_with fail;go_fit l.o;rintro e w6 ⟨rfl,hb6⟩;have q:=zH (g.o.grow hb6);have x:=zH (i.o.trans (q.o.2.1.mono i.o.size));clear hb6 l g y0 T U V X Z;have y0:w6.cell? (zA wr.heap.size 0)=some (Y s.rule):=q.o.cell rfl;go_wp2;go_roundw;case rel=>exact⟨k+1,U0,U3,x.o⟩
          case measure=>simp[intOf];omega
      . have a5 := beq_false_of_ne O;clear O aa;by_cases P:s.rule=16
        . have ap := beq_iff_eq.2 P;have l:=zH (count_c s.p s.m s.mod B' c' s.n (nzs R) G k' 1024 L ar.o s1 au.o (by rw [nzs_len];omega));rw [nzs_len] at l;have d0:L.cell? (zA K.heap.size 0)=some (Y s.p):=cell_of_row _ _ 0 _ _ _ M.o;have d1:L.cell? (zA K.heap.size 1)=some (Y s.m):=cell_of_row _ _ 1 _ _ _ M.o;have d2:L.cell? (zA K.heap.size 2)=some (zL B' s.mod.length c'):=cell_of_row _ _ 2 _ _ _ M.o;have d3:L.cell? (zA K.heap.size 3)=some (Y s.n):=cell_of_row _ _ 3 _ _ _ M.o;have d4:L.cell? (zA K.heap.size 4)=some (zL G R.length k'):=cell_of_row _ _ 4 _ _ _ M.o;clear P;by_cases r:cnV s.p s.m s.mod s.n (nzs R) 1024=0
          . rw[r] at l;clear r;go_wp2_with fail;go_fit l.o;rintro e w6 ⟨rfl,hb6⟩;have q:=zH (g.o.grow hb6);have x:=zH (i.o.trans (q.o.2.1.mono i.o.size));clear hb6 l g y0 T U V X Z;go_wp2;go_ret;exact⟨_,rfl,x.o,fun _=>j.o⟩
          . have ax:=beq_false_of_ne r;generalize cnV s.p s.m s.mod s.n (nzs R) 1024=cv at *;clear r;go_wp2_with fail;go_fit l.o;rintro e w6 ⟨rfl,hb6⟩;have q:=zH (g.o.grow hb6);have x:=zH (i.o.trans (q.o.2.1.mono i.o.size));clear hb6 l g y0 T U V X Z;go_wp2;go_roundw;case rel=>exact⟨k+1,U0,U3,x.o⟩
            case measure=>simp[intOf];omega
        . have ap:=beq_false_of_ne P;clear P;go_wp2;go_roundw;case rel=>exact⟨k+1,U0,U3,aq.o⟩
          case measure=>simp[intOf];omega
    . have be:=bne_iff_ne.2 hz;generalize codeZ s.p s.m s.mod s.n s.gen=z at *;go_wp2;go_roundw;case rel=>exact⟨k+1,U0,U3,ah.o⟩
      case measure=>simp[intOf];omega
  . (obtain rfl:k=ds.length:=by omega);go_wp2;go_ret;exact⟨_,rfl,i.o,fun _=>j.o⟩
end Go.Proofs.YtkcdlealipfnbaaGreat
