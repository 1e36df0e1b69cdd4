/- Parts of the proof. -/
import Derived.Test.YtflejelbdlelpaaGreatR05
set_option maxRecDepth 100000
set_option maxHeartbeats 8000000
namespace Go.Proofs.YtflejelbdlelpaaGreat
open Go.RowKit Pln Go.Proofs.Tryz
section
variable {P:Program}
theorem qfH(w:Wo)(base:Nat)(t j e:TypeId)(i:TypeInfo)(size:Nat)(h:P.underlying t=some (.slice e))(f:P.info? e=some i)(v:Value)(n:Nat)(xs:List Value)(d:w.ownsRow base e size v n xs)(A:OA)(c:Nat):(Builtin.append_ #[t,t] j #[v,zL A 0 c]).run P w=.ok v w:=by
 rcases d.2 with⟨rfl,rfl⟩|⟨g,cap,cur,rfl,_,_,b,_⟩
 . cases A<;>simp[Builtin.append_,run_underlying h,sizeOf,typeInfo,f,Builtin.lenOf,Builtin.firstCells,loadCells,loadCellsFrom]
 . cases A<;>simp[Builtin.append_,run_underlying h,sizeOf,typeInfo,f,Builtin.lenOf,Builtin.firstCells,b,storeCells,loadCells,loadCellsFrom]
theorem qfF{ops:Array Oper}{o:Oper}{a:Act}{w:Wo}{K:Act->Wo->Prop}{Q:Exit->Act->Wo->Prop}{E:Prop}(f:o.guard=none)(s x:Operand)(t:TypeId)(l:o.op=.call { callee:=.builtin .append,args:=#[s,x],argTypes:=#[t,t] })(base:Nat)(e:TypeId)(i:TypeInfo)(size:Nat)(p:P.underlying t=some (.slice e))(k:P.info? e=some i)(v:Value)(n:Nat)(xs:List Value)(m:a.eval s=v)(d:w.ownsRow base e size v n xs)(A:OA)(g c:Nat)(j:g=0)(q:a.eval x=zL A g c)(h:K (a.put o.dst v) w):
 if Region.wanted o (yielded ops a.tmps)=true then Oper.wp P o a w K Q else E:=by
 subst j;have b:Region.wanted o (yielded ops a.tmps)=true:=by simp[Region.wanted,f]
 rw[if_pos b];unfold Oper.wp execOp;simp only[l,resolve,invoke,builtin,Sem.run_bind,Sem.run_pure,Result.andThen_ok,List.map_toArray,List.map_cons,List.map_nil,m,q,qfH w base t o.type e i size p k v n xs d A c];exact h
end
theorem IntsAt.news{w:Wo}{B:Nat}{b o:Nat}{zs:LI}(h:IntsAt w B (some (zA b o)) zs):∀(j:Nat)(u:Value),(zs.map (Value.int .i64))[j]?=some u->w.cell? ((⟨b,o,none⟩:Addr).add j)=some u:=by
 intro j u d;have c:j<zs.length:=by simpa using(List.getElem?_eq_some_iff.1 d).1
 obtain⟨g,i,e,_,f⟩:=h U0;injection e with e;injection e with e1 e2;subst e1 e2;rw[Addr.add_mid,f j c,<- d];simp[List.getD,c]
def GFAt(w:Wo)(B gb p m:Nat)(l lg:LN):Prop:=
 gb<B/\∃(A3:OA)(n3 c3 ge ce gl cl:Nat),w.heap[gb]?=some (Ci p m A3 n3 c3 ((p^m:Nat):Int) ge l.length ce gl lg.length cl)/\
  IntsAt w B (zO ge) (nz l)/\IntsAt w B (zO gl) (nz lg)
theorem GFAt.keep{w w':Wo}{B gb p m:Nat}{l s:LN}(h:GFAt w B gb p m l s)(r:Below B w w'):GFAt w' B gb p m l s:=by obtain⟨b,c,q,d,i,f,j,g,k,n,o⟩:=h;exact⟨b,c,q,d,i,f,j,g,(r.block gb b).trans k,n.keep r,o.keep r⟩
theorem GFAt.more{w:Wo}{B B' gb p m:Nat}{l s:LN}(h:GFAt w B gb p m l s)(r:B<=B'):GFAt w B' gb p m l s:=by obtain⟨q,b,o,c,g,d,i,f,j,k,n⟩:=h;exact⟨U0,b,o,c,g,d,i,f,j,k.more r,n.more r⟩
def GFUp(w:Wo)(lo gb p m:Nat)(l lg:LN):Prop:=
 lo<=gb/\gb<w.heap.size/\∃(A3:OA)(n3 c3 ge ce gl cl:Nat),lo<=ge/\ge<w.heap.size/\lo<=gl/\gl<w.heap.size/\w.heap[gb]?=some (Ci p m A3 n3 c3 ((p^m:Nat):Int) ge l.length ce gl lg.length cl)/\
  zI w (zO ge) (nz l)/\zI w (zO gl) (nz lg)
theorem GFUp.at_{w:Wo}{lo gb p m:Nat}{l r:LN}(h:GFUp w lo gb p m l r):GFAt w w.heap.size gb p m l r:=by obtain⟨_,j,b,q,c,g,d,i,f,_,_,_,_,k,n,o⟩:=h;exact⟨j,b,q,c,g,d,i,f,k,n,o⟩
theorem row_zz(W:Wo){b:Array Value}{q B:Nat}(f:b=madeCells (Y 0).cells (q*1))(c:B<=W.heap.size)(d:q<=maxLen):Row (W.alloc (.cells b 3)) B W.heap.size q (nz (List.replicate q 0)):=by subst f;exact Row.of_make (World.ownsRow_lit W _ q c d (size_madeCells _ _))
theorem cell3{w:Wo}{p:Addr}{v:Value}(h:w.cell? p=some v)(d:p.block<w.heap.size)(a b c:Obj):(((w.alloc a).alloc b).alloc c).drew.cell? p=some v:=by show(((w.alloc a).alloc b).alloc c).cell? p=some v;rw[World.cell?_alloc_lt _ _ _ so,World.cell?_alloc_lt _ _ _ so,World.cell?_alloc_lt _ _ _ d];exact h
def FUM(w:Wo)(lo gb p m:Nat)(mod:LI)(l lg:LN):Prop:=
 lo<=gb/\gb<w.heap.size/\∃(A3:OA)(c3 ge ce gl cl:Nat),lo<=ge/\ge<w.heap.size/\lo<=gl/\gl<w.heap.size/\w.heap[gb]?=some (Ci p m A3 mod.length c3 ((p^m:Nat):Int) ge l.length ce gl lg.length cl)/\
  zI w A3 mod/\zI w (zO ge) (nz l)/\zI w (zO gl) (nz lg)
theorem FUM.up{w:Wo}{lo gb p m:Nat}{mod:LI}{l u:LN}(h:FUM w lo gb p m mod l u):GFUp w lo gb p m l u:=by obtain⟨q,r,b,i,n,j,o,k,c,d,f,g,s,_,t⟩:=h;exact⟨q,r,b,_,i,n,j,o,k,c,d,f,g,s,t⟩
def CutM(w:Wo)(p m:Int)(mod:LI)(q:Nat)(ge k ce:Nat)(l:LN)(v6:Value)(wx:Wo):Prop:=
 ∃(gb ga ca gl:Nat),v6=zP gb/\w.heap.size<gb/\gb≠gl/\ge≠gl/\ga≠gl/\
  wx.heap[gb]?=some (Cd p m ga mod.length ca q ge k ce gl q q)/\
  Row wx w.heap.size ge ce (nz l)/\Row wx (w.heap.size+1) gl q (nz (List.replicate q 0))/\Row wx (w.heap.size+1) ga ca mod/\zB w wx
theorem CutM.drew{w:Wo}{p m:Int}{mod:LI}{q y k x:Nat}{l:LN}{v:Value}{z:Wo}(h:CutM w p m mod q y k x l v z):CutM w p m mod q y k x l v z.drew:=by obtain⟨d,c,ca,f,g,i,j,n,o,r,s,t,u,b⟩:=h;exact⟨d,c,ca,f,g,i,j,n,o,r,s,t,u,b.drew⟩
def RelMd(w:Wo)(p m:Int)(mod:LI)(q gb ge gl ce ga ca:Nat)(l:LN)(v39:Value)(wr:Wo):Prop:=
 ∃n:Nat,n<=l.length/\v39=Y n/\
  wr.heap[gb]?=some (Cd p m ga mod.length ca q ge l.length ce gl q q)/\
  Row wr w.heap.size ge ce (nz l)/\Row wr (w.heap.size+1) gl q (nz (logGo l (List.replicate q 0) n))/\Row wr (w.heap.size+1) ga ca mod/\zB w wr
theorem cutM_mk{w b:Wo}{p m:Int}{mod:LI}{r q g k h c f ca:Nat}{l:LN}(n:mod.length=r)(t:Row b (w.heap.size+1) f ca mod)(i:f≠c)(s:Row b w.heap.size g h (nz l))(o:Row b (w.heap.size+1) c q (nz (List.replicate q 0)))(u:zB w b)(j:g≠c)(d:w.heap.size<b.heap.size):
 CutM w p m mod q g k h l (zP b.heap.size) (b.alloc (Cd p m f r ca q g k h c q q)):=
 ⟨_,f,ca,c,rfl,d,by have:=o.lt;omega,j,i,by rw[n];exact heap_alloc_new _ _,s.alloc _,o.alloc _,t.alloc _,u.alloc (Nat.le_of_lt d) _⟩
theorem fnew_fm(p m:Int)(mod:LI)(A:OA)(c:Nat)(w:Wo)(hA:zI w A mod)(c3:fieldOK p m mod=true):
 zC 66 #[C4 p m A mod.length c] w fun e w'=>(∃gb,e=.returned (.tuple (Cm gb))/\
  FUM w' w.heap.size gb p.toNat m.toNat mod (genM (mulM p.toNat m.toNat (mdOf m mod)) (p.toNat^m.toNat)) (logL (genM (mulM p.toNat m.toNat (mdOf m mod)) (p.toNat^m.toNat)) (p.toNat^m.toNat)))/\zB w w':=by
 have bc:shapeM p m mod=true:=by unfold fieldOK at c3;rw[Bool.and_eq_true] at c3;exact c3.1
 have al:genM (mulM p.toNat m.toNat (mdOf m mod)) (p.toNat^m.toNat)≠[]:=by unfold fieldOK at c3;rw[Bool.and_eq_true] at c3;intro h;rw[h] at c3;simp at c3
 have Q:=qeQ bc;have cs:mod.length<=8:=by
  by_cases hm:m=1
  . rw[Q.one hm];simp
  . rw[Q.len hm];exact Q.small.m2
 have cf:=zH Q;have HA:=zH hA;have au:=zH (qaV (p:=p.toNat) (m:=m.toNat) (by have:=Q.small.p1;omega) Q.small.m1 (mdOf m mod));have av:=zH (genM_tab au.o al);have cx:=Q.small.q;have cw:=au.o.q1;have bi:=zH Q.ord
 have bh:zK (∀W,w.heap.size<=W.heap.size->zB w W->zC 89 #[C4 p m A mod.length c] W fun e w'=>e=.returned (.bool true)/\zB W w'):=
  fun W h1 h2=>by
   have:=shape_c p m mod A c W ((hA.keep h2).more h1) U0
   rw[bc] at this
   exact this
 have bf:zK (∀ W,w.heap.size<=W.heap.size->zB w W->zC 90 #[C4 p m A mod.length c,Y ((p.toNat ^ m.toNat:Nat):Int)] W fun e w'=>(∃ g c',e=.returned (zS g (genM (mulM p.toNat m.toNat (mdOf m mod)) (p.toNat ^ m.toNat)).length c')/\Row w' W.heap.size g c' (nz (genM (mulM p.toNat m.toNat (mdOf m mod)) (p.toNat ^ m.toNat))))/\zB W w') :=
  fun W h1 h2=>by
   have:=qfV Q A c W ((hA.keep h2).more h1)
   rw[Q.ord] at this
   refine this.mono fun e w' ⟨⟨v,he,hv⟩,hb⟩=>?_
   rcases hv with⟨h,_⟩|⟨_,g,c',rfl,hr⟩
   . exact absurd h al
   . rw[qaA] at he
     exact⟨⟨g,c',he,hr⟩,hb⟩
 have bg:zK (∀W:Wo,zC 91 #[Y p,Y m] W fun e w'=>e=.returned (Y ((p.toNat^m.toNat:Nat):Int))/\W=w'):=fun W=>by have:=qcX p m W;rw[Q.ord] at this;exact this
 have b9:=zH Q.p0;have b8:=zH Q.m0;clear bc al Q hA c3 cf bi;generalize cl:genM (mulM p.toNat m.toNat (mdOf m mod)) (p.toNat^m.toNat)=l at *;generalize cm:mulM p.toNat m.toNat (mdOf m mod)=mul at *;generalize bz:p.toNat^m.toNat=q at *;have cd:=zH bz;have bw:l.length=q-1:=av.o.len;have b6:=zH bw;clear cl cm bz bw;obtain⟨i0,hi,b1,b2,bd⟩:=qaF infoInt;have HI:=zH hi;have ag:=zH b1;have ah:=zH b2;have ai:=zH bd;have cn:=zH (show i0.bytes*q<=281474976710656 by rw[bd];omega);have aa:=zH (show q<=maxLen by unfold maxLen;omega);clear hi b1 b2 bd;go_enter func66,ntmps66;have af:zK ((w.alloc (C2 p m A mod.length c)).heap.size=w.heap.size+1):=U7;have t:zK ((w.alloc (C2 p m A mod.length c)).heap[w.heap.size]?=some (.cells (C5 p m A mod.length c).toArray 24 (0,0))):=heap_alloc_new _ _;have az:zK (zB w (w.alloc (C2 p m A mod.length c))):=zV.alloc zn _;go_wp2_with fail;generalize w.alloc (C2 p m A mod.length c)=W0 at *;(with_reducible refine(bh.o W0 (by have:=af.o;omega) az.o).mono ?_);rintro e w1 ⟨rfl,hb1⟩;have X:w.heap.size<w1.heap.size:=by have:=af.o;have:=hb1.size;omega
 have a2:=zH (az.o.trans (hb1.mono (by have:=af.o;omega)));have ab:=zH ((hb1.block w.heap.size (by have:=af.o;omega)).trans t.o);clear hb1 az t af;clear W0;have a0:w1.cell? (zA w.heap.size 0)=some (Y p):=cell_of_row _ _ 0 _ _ _ ab.o;have a1:w1.cell? (zA w.heap.size 1)=some (Y m):=cell_of_row _ _ 1 _ _ _ ab.o;have bj:=zH (qeL ab.o);go_wp2_with (first|(go_at_call 91;refine (bg.o _).mono ?_;rintro e w' ⟨rfl,rfl⟩)|(refine wpList_load_mid rfl 24 (.tmp 1) rfl w.heap.size 0 rfl (C5 p m A mod.length c) _ bj.o underlying24 rfl fieldSize ?_));(with_reducible refine (bf.o w1 (Nat.le_of_lt X) a2.o).mono ?_);rintro e d ⟨⟨ge,ce,rfl,hrow⟩,hb2⟩;have b0:w.heap.size<d.heap.size:=Nat.lt_of_lt_of_le X hb2.size;have y:=zH (a2.o.trans (hb2.mono (Nat.le_of_lt X)));have aq:=zH ((hb2.block w.heap.size X).trans ab.o);have ak:=hrow.lt;have R:=zH (hrow.base (B':=w.heap.size) U0);clear hrow hb2 a2 ab bj a0 a1;have cq:zK (w.heap.size<ge):=Nat.lt_of_lt_of_le X ak.1;have ar:zK (ge<d.heap.size):=ak.2;clear ak X;clear w1;have cj:∀ (W:Wo)(a:OA)(n c n' c':Nat),(binOp .eql 22 (zL a n c) (zL none n' c')).run prog W=.ok (.bool a.isNone) W:=fun W a n c n' c'=>Lib.run_eql_slice_nil W 22 3 a n c n' c' underlying22;go_upto_region 7 with fail;clear cj;have z0:d.cell? (zA w.heap.size 0)=some (Y p):=cell_of_row _ _ 0 _ _ _ aq.o;have z1:d.cell? (zA w.heap.size 1)=some (Y m):=cell_of_row _ _ 1 _ _ _ aq.o;have z2:d.cell? (zA w.heap.size 2)=some (zL A mod.length c):=cell_of_row _ _ 2 _ _ _ aq.o;go_cut [6] (fun v6 wx=>CutM w p m mod q ge l.length ce l v6 wx);case first =>
  by_cases bx:mod.length=0
  . have r : w.heap.size < d.heap.size := b0;have K:=zH bx;clear bx;have bp:=zH z0;have bq:=zH z1;have br:=zH z2;obtain ⟨f,L⟩:∃ f,f=madeCells (Y 0).cells (q*1):=⟨_,rfl⟩;have T:=zH L;(have bb:∀ W:Wo,(Instr.makeSlice 22 (Y (q:Int)) (Y (q:Int))).run prog W=.ok (zS W.heap.size q q) (W.alloc (.cells f 3)):=fun W=>by have:=run_make (P:=prog) W 22 3 i0 (Y 0) underlying22 HI.o ag.o .i64 .i64 (q:Int) (q:Int) U0 (Int.le_refl _) (by rw [ai.o];omega) U0;rw [ah.o,Int.toNat_natCast,<- L] at this;exact this);clear L;have ad:zK ((d.alloc (.cells #[] 3)).drew.ownsRow (w.heap.size+1) 3 1 (zS d.heap.size 0 0) 0 []):=World.ownsRow_made d #[] 0 r ml rfl;have M:zK (((d.alloc (.cells #[] 3)).alloc (.cells f 3)).drew.ownsRow (w.heap.size+1) 3 1 (zS d.heap.size 0 0) 0 []):=World.ownsRow.alloc (World.ownsRow_made d #[] 0 r ml rfl) _;(have N:zK (((d.alloc (.cells f 3)).alloc (.cells #[] 3)).drew.ownsRow (w.heap.size+1) 3 1 (zS (d.heap.size+1) 0 0) 0 []):=by have h:=World.ownsRow_made (e:=3) (base:=w.heap.size+1) (size:=1) (d.alloc (.cells f 3)) #[] 0 so ml rfl;rw [show (d.alloc (.cells f 3)).heap.size=d.heap.size+1 by simp] at h;exact h)
    go_region_held3 (fun w'=>w'.cell? (zA w.heap.size 0)=some (Y p)/\w'.cell? (zA w.heap.size 1)=some (Y m)/\w'.cell? (zA w.heap.size 2)=some (zL A mod.length c))
     (first|(with_reducible exact⟨cell3 bp.o r _ _ _,cell3 bq.o r _ _ _,cell3 br.o r _ _ _⟩)|go_keep)
     (first|(refine qfF rfl _ _ _ rfl (w.heap.size+1) 3 i0 1 underlying22 HI.o (zS d.heap.size 0 0) 0 [] (by rfl) ad.o A mod.length c K.o (by rfl) ?_)|(refine qfF rfl _ _ _ rfl (w.heap.size+1) 3 i0 1 underlying22 HI.o (zS d.heap.size 0 0) 0 [] (by rfl) M.o A mod.length c K.o (by rfl) ?_)|(refine qfF rfl _ _ _ rfl (w.heap.size+1) 3 i0 1 underlying22 HI.o (zS (d.heap.size+1) 0 0) 0 [] (by rfl) N.o A mod.length c K.o (by rfl) ?_))
    (all_goals (clear bb z0 z1 z2));(all_goals (have bv:=ar.o))
    all_goals
     have cg:zK (CutM w p m mod q ge l.length ce l (zP (d.heap.size+1+1)) (((d.alloc (.cells #[] 3)).alloc (.cells f 3)).alloc (Cd p m d.heap.size 0 0 q ge l.length ce (d.heap.size+1) q q)).drew):=by
      have hz:=row_zz (d.alloc (.cells #[] 3)) (B:=w.heap.size+1) T.o so aa.o
      rw[show(d.alloc (.cells #[] 3)).heap.size=d.heap.size+1 by simp] at hz
      have h:=cutM_mk (p:=p) (m:=m) (k:=l.length) (ca:=0) K.o (show Row ((d.alloc (.cells #[] 3)).alloc (.cells f 3)) (w.heap.size+1) d.heap.size 0 mod by rw[List.length_eq_zero_iff.1 K.o];exact M.o) U0 ((R.o.alloc (.cells #[] 3)).alloc (.cells f 3)) hz ((y.o.alloc (Nat.le_of_lt r) _).alloc so _) U0 so
      rw[show((d.alloc (.cells #[] 3)).alloc (.cells f 3)).heap.size=d.heap.size+1+1 by simp] at h
      exact h.drew
     have ci:zK (CutM w p m mod q ge l.length ce l (zP (d.heap.size+1+1)) (((d.alloc (.cells f 3)).alloc (.cells #[] 3)).alloc (Cd p m (d.heap.size+1) 0 0 q ge l.length ce d.heap.size q q)).drew):=by
      have hz:=(row_zz d (B:=w.heap.size+1) T.o r aa.o).alloc (.cells #[] 3)
      have h:=cutM_mk (p:=p) (m:=m) (k:=l.length) (ca:=0) K.o (show Row ((d.alloc (.cells f 3)).alloc (.cells #[] 3)) (w.heap.size+1) (d.heap.size+1) 0 mod by rw[List.length_eq_zero_iff.1 K.o];exact N.o) U0 ((R.o.alloc (.cells f 3)).alloc (.cells #[] 3)) hz ((y.o.alloc (Nat.le_of_lt r) _).alloc so _) U0 so
      rw[show((d.alloc (.cells f 3)).alloc (.cells #[] 3)).heap.size=d.heap.size+1+1 by simp] at h
      exact h.drew
     go_wp2
     go_meet
     first
      |exact cg.o
      |exact ci.o
  . obtain ⟨b,o,rfl,cr,bs⟩ := (HA.o.keep y.o) U0;have co:=zH bs;clear bs;have r:w.heap.size<d.heap.size:=b0;obtain ⟨f,L⟩:∃ f,f=madeCells (Y 0).cells (q*1):=⟨_,rfl⟩;have T:=zH L;(have bb:∀ W:Wo,(Instr.makeSlice 22 (Y (q:Int)) (Y (q:Int))).run prog W=.ok (zS W.heap.size q q) (W.alloc (.cells f 3)):=fun W=>by have:=run_make (P:=prog) W 22 3 i0 (Y 0) underlying22 HI.o ag.o .i64 .i64 (q:Int) (q:Int) U0 (Int.le_refl _) (by rw [ai.o];omega) U0;rw [ah.o,Int.toNat_natCast,<- L] at this;exact this);clear L;(have H:zK (w.heap.size+1<=(d.alloc (.cells #[] 3)).drew.heap.size):=by show _<=_;rw [show (d.alloc (.cells #[] 3)).drew.heap.size=d.heap.size+1 by simp];omega);have ad:zK ((d.alloc (.cells #[] 3)).drew.ownsRow (w.heap.size+1) 3 1 (zS d.heap.size 0 0) 0 []):=World.ownsRow_made d #[] 0 r ml rfl;have aw:zK (zB w (d.alloc (.cells #[] 3)).drew):=(y.o.alloc (Nat.le_of_lt r) _).drew;have a7:zK (∀ (j:Nat)(u:Value),(mod.map (Value.int .i64))[j]?=some u->(d.alloc (.cells #[] 3)).drew.cell? ((⟨b,o,none⟩:Addr).add j)=some u):=(HA.o.keep aw.o).news;have a3:zK (Row (d.alloc (.cells #[] 3)).drew w.heap.size ge ce (nz l)):=R.o.alloc _;(have I:zK (w.heap.size+1<=((d.alloc (.cells #[] 3)).alloc (.cells f 3)).drew.heap.size):=by show _<=_;rw [show ((d.alloc (.cells #[] 3)).alloc (.cells f 3)).drew.heap.size=d.heap.size+2 by simp];omega);have M:zK (((d.alloc (.cells #[] 3)).alloc (.cells f 3)).drew.ownsRow (w.heap.size+1) 3 1 (zS d.heap.size 0 0) 0 []):=World.ownsRow.alloc (World.ownsRow_made d #[] 0 r ml rfl) _;have ax:zK (zB w ((d.alloc (.cells #[] 3)).alloc (.cells f 3)).drew):=((y.o.alloc (Nat.le_of_lt r) _).alloc so _).drew;have a8:zK (∀ (j:Nat)(u:Value),(mod.map (Value.int .i64))[j]?=some u->((d.alloc (.cells #[] 3)).alloc (.cells f 3)).drew.cell? ((⟨b,o,none⟩:Addr).add j)=some u):=(HA.o.keep ax.o).news;have a4:zK (Row ((d.alloc (.cells #[] 3)).alloc (.cells f 3)).drew w.heap.size ge ce (nz l)):=(R.o.alloc _).alloc _;(have J:zK (w.heap.size+1<=((d.alloc (.cells f 3)).alloc (.cells #[] 3)).drew.heap.size):=by show _<=_;rw [show ((d.alloc (.cells f 3)).alloc (.cells #[] 3)).drew.heap.size=d.heap.size+2 by simp];omega);(have N:zK (((d.alloc (.cells f 3)).alloc (.cells #[] 3)).drew.ownsRow (w.heap.size+1) 3 1 (zS (d.heap.size+1) 0 0) 0 []):=by have h:=World.ownsRow_made (e:=3) (base:=w.heap.size+1) (size:=1) (d.alloc (.cells f 3)) #[] 0 so ml rfl;rw [show (d.alloc (.cells f 3)).heap.size=d.heap.size+1 by simp] at h;exact h);have ay:zK (zB w ((d.alloc (.cells f 3)).alloc (.cells #[] 3)).drew):=((y.o.alloc (Nat.le_of_lt r) _).alloc so _).drew;have a9:zK (∀ (j:Nat)(u:Value),(mod.map (Value.int .i64))[j]?=some u->((d.alloc (.cells f 3)).alloc (.cells #[] 3)).drew.cell? ((⟨b,o,none⟩:Addr).add j)=some u):=(HA.o.keep ay.o).news;have a5:zK (Row ((d.alloc (.cells f 3)).alloc (.cells #[] 3)).drew w.heap.size ge ce (nz l)):=(R.o.alloc _).alloc _;(have ae:zK (∀ u∈mod.map (Value.int .i64),u.oneCell'=true):=fun u hu=>by obtain ⟨z,_,rfl⟩:=List.mem_map.1 hu;rfl);(have bm:zK (Row ((d.alloc (.cells #[] 3)).alloc (.cells f 3)).drew (w.heap.size+1) (d.heap.size+1) q (nz (List.replicate q 0))):=by have h:=row_zz (d.alloc (.cells #[] 3)) (B:=w.heap.size+1) T.o so aa.o;rw [show (d.alloc (.cells #[] 3)).heap.size=d.heap.size+1 by simp] at h;exact h);have bn:zK (Row ((d.alloc (.cells f 3)).alloc (.cells #[] 3)).drew (w.heap.size+1) d.heap.size q (nz (List.replicate q 0))):=(row_zz d (B:=w.heap.size+1) T.o r aa.o).alloc _;have bv:=ar.o
    go_region_held3 (fun w'=>w'.cell? (zA w.heap.size 0)=some (Y p)/\w'.cell? (zA w.heap.size 1)=some (Y m)/\w'.cell? (zA w.heap.size 2)=some (zL (some (zA b o)) mod.length c))
     (first|go_keep|(go_split_ands;exact⟨(i.cell_far (zA w.heap.size 0) U6 oc).trans am,(i.cell_far (zA w.heap.size 1) U6 oc).trans am,(i.cell_far (zA w.heap.size 2) U6 oc).trans am⟩))
     (first|(refine step_append_lies _ (by rfl) _ _ _ (by rfl) (w.heap.size+1) 3 i0 _ 1 8 underlying22 HI.o ag.o ah.o ai.o rfl U0 (zS d.heap.size 0 0) 0 [] (by rfl) ad.o (zA b o) mod.length c (mod.map (Value.int .i64)) (by rfl) U2 a7.o ae.o U0 ml U0 H.o _ rfl ?_;intro O ca s V i aj U;have Z:w.heap.size<s.heap.size:=Nat.lt_of_lt_of_le H.o i.size;have HE:zK (Row s w.heap.size ge ce (nz l)):=a3.o.grown i V1;have HW:zK (zB w s):=aw.o.grown i (Nat.le_of_lt H.o) (fun k hk=>by simp[Value.ownBlock] at hk;omega);have ac:zK (Row s (w.heap.size+1) O ca mod):=(by show s.ownsRow _ _ _ _ _ _;simpa using V);have C:O<s.heap.size:=U)|(refine step_append_lies _ (by rfl) _ _ _ (by rfl) (w.heap.size+1) 3 i0 _ 1 8 underlying22 HI.o ag.o ah.o ai.o rfl U0 (zS d.heap.size 0 0) 0 [] (by rfl) M.o (zA b o) mod.length c (mod.map (Value.int .i64)) (by rfl) U2 a8.o ae.o U0 ml U0 I.o _ rfl ?_;intro O ca s V i aj U;have Z:w.heap.size<s.heap.size:=Nat.lt_of_lt_of_le I.o i.size;have HE:zK (Row s w.heap.size ge ce (nz l)):=a4.o.grown i V1;have HW:zK (zB w s):=ax.o.grown i (Nat.le_of_lt I.o) (fun k hk=>by simp[Value.ownBlock] at hk;omega);have ba:zK (Row s (w.heap.size+1) (d.heap.size+1) q (nz (List.replicate q 0))):=bm.o.grown i (by simp[Value.ownBlock]);have ac:zK (Row s (w.heap.size+1) O ca mod):=(by show s.ownsRow _ _ _ _ _ _;simpa using V);have C:O≠d.heap.size+1:=(by rcases aj with h|h<;>simp[Value.ownBlock] at h<;>omega))|(refine step_append_lies _ (by rfl) _ _ _ (by rfl) (w.heap.size+1) 3 i0 _ 1 8 underlying22 HI.o ag.o ah.o ai.o rfl U0 (zS (d.heap.size+1) 0 0) 0 [] (by rfl) N.o (zA b o) mod.length c (mod.map (Value.int .i64)) (by rfl) U2 a9.o ae.o U0 ml U0 J.o _ rfl ?_;intro O ca s V i aj U;have Z:w.heap.size<s.heap.size:=Nat.lt_of_lt_of_le J.o i.size;have HE:zK (Row s w.heap.size ge ce (nz l)):=a5.o.grown i V1;have HW:zK (zB w s):=ay.o.grown i (Nat.le_of_lt J.o) (fun k hk=>by simp[Value.ownBlock] at hk;omega);have ba:zK (Row s (w.heap.size+1) d.heap.size q (nz (List.replicate q 0))):=bn.o.grown i (by simp[Value.ownBlock]);have ac:zK (Row s (w.heap.size+1) O ca mod):=(by show s.ownsRow _ _ _ _ _ _;simpa using V);have C:O≠d.heap.size:=(by rcases aj with h|h<;>simp[Value.ownBlock] at h<;>omega)))
    all_goals (clear bb V i aj z0 z1 z2)
    . (have HX:zK (CutM w p m mod q ge l.length ce l (zP (s.heap.size+1)) ((s.alloc (.cells f 3)).alloc (Cd p m O mod.length ca q ge l.length ce s.heap.size q q))):=by have h:=cutM_mk (p:=p) (m:=m) (k:=l.length) (ca:=ca) rfl (ac.o.alloc (.cells f 3)) (show O≠s.heap.size by omega) (HE.o.alloc (.cells f 3)) (row_zz s (B:=w.heap.size+1) T.o Z aa.o) (HW.o.alloc (Nat.le_of_lt Z) _) (by have:=HE.o.lt;omega) so;rw[show(s.alloc (.cells f 3)).heap.size=s.heap.size+1 by simp] at h;exact h);go_wp2;go_meet;exact HX.o
    . have HX:=zH (cutM_mk (p:=p) (m:=m) (k:=l.length) (ca:=ca) rfl ac.o C HE.o ba.o HW.o U0 Z);go_wp2;go_meet;exact HX.o
    . have HX:=zH (cutM_mk (p:=p) (m:=m) (k:=l.length) (ca:=ca) rfl ac.o C HE.o ba.o HW.o U0 Z);go_wp2;go_meet;exact HX.o
 case rest =>
  obtain⟨gb,O,ca,gl,rfl,ck,ak,bu,C,E,ao,ap,an,hb⟩:=hcut;have HS:zK (RelMd w p m mod q gb ge gl ce O ca l (Y ((0:Nat):Int)) wc):=⟨0,Nat.zero_le _,rfl,E,ao,ap,an,hb⟩;have ct:l.length<=256:=by rw[b6.o];omega
  have b7:zK (∀n,n<l.length->l.getD n 0<q):=fun n hn=>by(have e:l.getD n 0=l[n]:=by simp[List.getD,hn]);rw[e];exact av.o.lt _ (List.getElem_mem hn)
  clear E ao ap an hb z0 z1 z2 bh bf bg aq R;go_wp2;go_loopw [39] (fun v39 wr=>RelMd w p m mod q gb ge gl ce O ca l v39 wr) (fun v39 _=>l.length-(intOf v39).toNat);case atStart=>exact HS.o
  case round =>
   obtain⟨n,hn,rfl,E,ao,ap,an,hb⟩:=hrel;have a6:=zH an;have t:=zH E;have S:=zH ao;have D:=zH ap;have be:=zH hb;clear E ao ap an hb HS;(have b3:zK ((logGo l (List.replicate q 0) n).length=q):=by show _=_;rw[qcL,List.length_replicate]);by_cases U:n<l.length
   . have hx := b7.o n U;(have y0:wr.cell? (zA ge n)=some (Y ((l.getD n 0:Nat):Int)):=by rw [<- qaC];exact S.o.cell (by rw [qaA];exact U));have y1:wr.cell? (zA gb 5)=some (zS gl q q):=cell_of_row _ _ 5 _ _ _ t.o;have bo:zK ((logGo l (List.replicate q 0) n).set (l.getD n 0) n=logGo l (List.replicate q 0) (n+1)):=rfl;(have y2:wr.cell? (zA gl (l.getD n 0))=some (Y ((logGo l (List.replicate q 0) n).getD (l.getD n 0) 0:Nat)):=by rw [<- qaC];exact D.o.cell (by rw [qaA,b3.o];exact hx));have f2:=D.o.frozen (l.getD n 0);generalize l.getD n 0=x at *;have cy:(0:Int)<=(x:Int):=U0;have cz:(x:Int)<(q:Int):=U0;go_wp2;go_roundw;case rel =>
      refine⟨n+1,U0,U3,?_,S.o.far (p:=(zA gl x)) bu _,?_,a6.o.far (p:=(zA gl x)) C _,be.o.setCell (p:=(zA gl x)) (by have:=D.o.lt;show w.heap.size<=gl;omega) _⟩
      . exact(Below.heap_setCell wr (zA gl x) _ gb ak).trans t.o
      . rw[<- bo.o,<- qbC];exact D.o.set x n
     case measure=>simp[intOf];omega
   . (obtain rfl : n = l.length := by omega);have bt:gb<wr.heap.size:=by
      rcases Nat.lt_or_ge gb wr.heap.size with h|h
      . exact h
      . have:=t.o;rw[Array.getElem?_eq_none h] at this;cases this
     go_wp2;go_ret2;refine⟨⟨gb,rfl,Nat.le_of_lt ck,bt,some (zA O 0),ca,ge,ce,gl,q,S.o.lt.1,S.o.lt.2,Nat.le_trans (Nat.le_succ _) D.o.lt.1,D.o.lt.2,?_,a6.o.ints a6.o.lt.2,S.o.ints S.o.lt.2,D.o.ints D.o.lt.2⟩,be.o⟩;rw[b9.o,b8.o,cd.o];(have e:(logL l q).length=q:=by unfold logL;rw[qcL,List.length_replicate]);rw[e];exact t.o
theorem fnew_up(p m:Int)(mod:LI)(A:OA)(c:Nat)(w:Wo)(d:zI w A mod)(b:fieldOK p m mod=true):
 zC 66 #[C4 p m A mod.length c] w fun e w'=>(∃gb,e=.returned (.tuple (Cm gb))/\
  GFUp w' w.heap.size gb p.toNat m.toNat (genM (mulM p.toNat m.toNat (mdOf m mod)) (p.toNat^m.toNat)) (logL (genM (mulM p.toNat m.toNat (mdOf m mod)) (p.toNat^m.toNat)) (p.toNat^m.toNat)))/\zB w w':=
 (fnew_fm p m mod A c w d b).mono fun _ _ ⟨⟨gb,he,hg⟩,hb⟩=>⟨⟨gb,he,hg.up⟩,hb⟩
theorem fnew_ok(p m:Int)(mod:LI)(A:OA)(c:Nat)(w:Wo)(d:zI w A mod)(b:fieldOK p m mod=true):
 zC 66 #[C4 p m A mod.length c] w fun e w'=>(∃gb,e=.returned (.tuple (Cm gb))/\w.heap.size<=gb/\
  GFAt w' w'.heap.size gb p.toNat m.toNat (genM (mulM p.toNat m.toNat (mdOf m mod)) (p.toNat^m.toNat)) (logL (genM (mulM p.toNat m.toNat (mdOf m mod)) (p.toNat^m.toNat)) (p.toNat^m.toNat)))/\zB w w':=
 (fnew_up p m mod A c w d b).mono fun _ _ ⟨⟨gb,he,hg⟩,hb⟩=>⟨⟨gb,he,hg.1,hg.at_⟩,hb⟩
theorem fnew_no(p m:Int)(mod:LI)(A:OA)(c:Nat)(w:Wo)(E:zI w A mod)(H:mod.length<=9223372036854775807)(D:fieldOK p m mod=false):
 zC 66 #[C4 p m A mod.length c] w fun e w'=>e=.returned (.tuple #[.pointer none,Y 1])/\zB w w':=by
 have b:zK ((w.alloc (C2 p m A mod.length c)).heap.size=w.heap.size+1):=U7;have i:zK ((w.alloc (C2 p m A mod.length c)).heap[w.heap.size]?=some (.cells (C5 p m A mod.length c).toArray 24 (0,0))):=heap_alloc_new _ _;have d:zK (zB w (w.alloc (C2 p m A mod.length c))):=zV.alloc zn _;cases hsh:shapeM p m mod
 . have k : zK (∀ W,w.heap.size <= W.heap.size -> zB w W -> zC 89 #[C4 p m A mod.length c] W fun e w' => e = .returned (.bool false) /\ zB W w') :=
    fun W h1 h2=>by
     have:=shape_c p m mod A c W ((E.keep h2).more h1) H
     rw[hsh] at this
     exact this
   clear hsh D E;go_enter func66,ntmps66;go_wp2_with fail;generalize w.alloc (C2 p m A mod.length c)=t at *;(with_reducible refine(k.o t (by have:=b.o;omega) d.o).mono ?_);rintro e s ⟨rfl,hb1⟩;have f:=zH (d.o.trans (hb1.mono (by have:=b.o;omega)));clear hb1;go_wp2;go_ret2;exact⟨rfl,f.o⟩
 . have x := qeQ hsh;(have j:genM (mulM p.toNat m.toNat (mdOf m mod)) (p.toNat ^ m.toNat)=[]:=by unfold fieldOK at D;rw [hsh,Bool.true_and,Bool.not_eq_false'] at D;exact List.isEmpty_iff.1 D)
   have k:zK (∀W,w.heap.size<=W.heap.size->zB w W->zC 89 #[C4 p m A mod.length c] W fun e w'=>e=.returned (.bool true)/\zB W w'):=
    fun W h1 h2=>by
     have:=shape_c p m mod A c W ((E.keep h2).more h1) H
     rw[hsh] at this
     exact this
   have u:zK (∀W,w.heap.size<=W.heap.size->zB w W->zC 90 #[C4 p m A mod.length c,Y (orderM p m)] W fun e w'=>e=.returned (zL none 0 0)/\zB W w'):=
    fun W h1 h2=>by
     have:=qfV x A c W ((E.keep h2).more h1)
     refine this.mono fun e w' ⟨⟨v,he,hv⟩,hb⟩=>?_
     rcases hv with⟨_,rfl⟩|⟨h,_⟩
     . exact⟨he,hb⟩
     . exact absurd j h
   clear hsh D E x j;go_enter func66,ntmps66;go_wp2_with fail;generalize w.alloc (C2 p m A mod.length c)=t at *;(with_reducible refine(k.o t (by have:=b.o;omega) d.o).mono ?_);rintro e s ⟨rfl,hb1⟩;(have r:w.heap.size<s.heap.size:=by have:=b.o;have:=hb1.size;omega);have f:=zH (d.o.trans (hb1.mono (by have:=b.o;omega)));have g:=zH ((hb1.block w.heap.size (by have:=b.o;omega)).trans i.o);clear hb1 d i b;clear t;have y:s.cell? (zA w.heap.size 0)=some (Y p):=cell_of_row _ _ 0 _ _ _ g.o;have z:s.cell? (zA w.heap.size 1)=some (Y m):=cell_of_row _ _ 1 _ _ _ g.o;have q:=zH (qeL g.o);go_wp2_with (first|(go_at_call 91;refine(qcX _ _ _).mono ?_;rintro e w' ⟨rfl,rfl⟩)|(refine wpList_load_mid rfl 24 (.tmp 1) rfl w.heap.size 0 rfl (C5 p m A mod.length c) _ q.o underlying24 rfl fieldSize ?_));(with_reducible refine(u.o s (Nat.le_of_lt r) f.o).mono ?_);rintro e C ⟨rfl,hb2⟩;have l:=zH (f.o.trans (hb2.mono (Nat.le_of_lt r)));clear hb2 f g q y z;have B:∀(W:Wo)(a:OA)(n c n' c':Nat),(binOp .eql 22 (zL a n c) (zL none n' c')).run prog W=.ok (.bool a.isNone) W:=fun W a n c n' c'=>Lib.run_eql_slice_nil W 22 3 a n c n' c' underlying22;go_wp2;go_ret2;exact⟨rfl,l.o⟩
end Go.Proofs.YtflejelbdlelpaaGreat
