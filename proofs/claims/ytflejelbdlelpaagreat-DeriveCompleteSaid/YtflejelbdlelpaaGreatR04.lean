/- Parts of the proof. -/
import Derived.StillTailTactics
import Derived.Laws.CopyOwn
import Derived.Deep.RegionHeld3
import Derived.Deep.DeepCutAuto
import Derived.Test.YtflejelbdlelpaaGreatR03
set_option maxRecDepth 100000
set_option maxHeartbeats 8000000
namespace Go.Proofs.YtflejelbdlelpaaGreat
open Go.RowKit Pln Go.Proofs.Tryz
def ModAt(w:Wo)(B m:Nat)(A:OA)(n:Nat)(md:LN):Prop:=(m=1/\md=[0])\/(1<m/\n=m/\md.length=m/\IntsAt w B A (nz md))
theorem ModAt.keep{w w':Wo}{B m:Nat}{A:OA}{n:Nat}{md:LN}(h:ModAt w B m A n md)(b:Below B w w'):ModAt w' B m A n md:=by
 rcases h with h|⟨h1,h2,h3,h4⟩
 . exact .inl h
 . exact .inr ⟨h1,h2,h3,h4.keep b⟩
theorem ModAt.more{w:Wo}{B B' m:Nat}{A:OA}{n:Nat}{md:LN}(h:ModAt w B m A n md)(b:B<=B'):ModAt w B' m A n md:=by
 rcases h with h|⟨h1,h2,h3,h4⟩
 . exact .inl h
 . exact .inr ⟨h1,h2,h3,h4.more b⟩
theorem ModAt.len{w:Wo}{B m:Nat}{A:OA}{n:Nat}{md:LN}(h:ModAt w B m A n md):md.length=m:=by
 rcases h with⟨rfl,rfl⟩|⟨_,_,h,_⟩
 . rfl
 . exact h
structure Small (p m:Nat):Prop where
 p1:2<=p
 p2:p<=256
 m1:1<=m
 m2:m<=8
 q:p^m<=256
def CutAB(w W0:Wo)(p m x y:Nat)(v7 v8:Value)(wx:Wo):Prop:=
 ∃ga gb,v7=zS ga m m/\v8=zS gb m m/\Row wx (w.heap.size+1) ga m (nz (digs p m x))/\Row wx (w.heap.size+1) gb m (nz (digs p m y))/\Below (w.heap.size+1) W0 wx
def MInv(w W0:Wo)(m ga gb go:Nat)(a b out:LN)(wr:Wo):Prop:=
 Row wr (w.heap.size+1) ga m (nz a)/\Row wr (w.heap.size+1) gb m (nz b)/\Row wr (w.heap.size+1) go m (nz out)/\ga<go/\gb<go/\Below (w.heap.size+1) W0 wr
def RelM(w W0:Wo)(p m:Nat)(md:LN)(ga gb go:Nat)(a b:LN)(v10:Value)(wr:Wo):Prop:=
 ∃k:Nat,k<=m/\v10=Y ((k:Int)-1)/\MInv w W0 m ga gb go a b (mulL p m md a (b.drop k)) wr
theorem MInv.set{w o:Wo}{m q gb l:Nat}{a b n:LN}{wr:Wo}(h:MInv w o m q gb l a b n wr)(j x:Nat):MInv w o m q gb l a b (n.set j x) (wr.setCell (zA l j) (Y x)):=by obtain⟨g,i,c,d,f,k⟩:=h;refine⟨g.far (p:=(zA l j)) (Nat.ne_of_lt d) _,i.far (p:=(zA l j)) (Nat.ne_of_lt f) _,?_,d,f,k.setCell c.lt.1 _⟩;rw[<- qbC];exact c.set j x
def CopyInv(w W0:Wo)(m ga gb go:Nat)(a b out:LN)(wr:Wo):Prop:=MInv w W0 m ga gb go a b ((out.getD 0 0):: out.take (m-1)) wr
theorem mulL_drop(p m:Nat)(md a b:LN)(k:Nat)(c:k<b.length):mulL p m md a (b.drop k)=stepM p m md a (b.getD k 0) (mulL p m md a (b.drop (k+1))):=by
 rw[List.drop_eq_getElem_cons c];have:b.getD k 0=b[k]:=by simp[List.getD,c]
 rw[this];rfl
theorem sizeInt:(prog.info? 3).map (·.size)=some 1:=U1
theorem copy_src{w:Wo}{B g c:Nat}{zs:LI}(h:Row w B g c zs){n j:Nat}{v:Value}(f:((zs.take n).map (Value.int .i64))[j]?=some v):w.cell? ((⟨g,0,none⟩:Addr).add j)=some v:=by
 have b:j<zs.length:=by have:=(List.getElem?_eq_some_iff.1 f).1;simp at this;omega
 have e:(⟨g,0,none⟩:Addr).add j=(zA g j):=by rw[Addr.add_mid];simp
 rw[e,h.cell b];rw[List.getElem?_map,List.getElem?_take] at f;by_cases d:j<n
 . rw[if_pos d,List.getElem?_eq_getElem b] at f;simp only[Option.map_some] at f;rw[<- f];simp[List.getD,b]
 . rw[if_neg d] at f;cases f
theorem copy_inv{w C:Wo}{p m D gb v:Nat}{a b r:LN}{wr y:Wo}{cur cs:List Value}(h:MInv w C m D gb v a b r wr)(s:Dig p m r)(H:1<=m)(A:m<=cur.length)(t:cur.take (nz r).length=(nz r).map (Value.int .i64))(B:∀ (w':Wo)(cur':List Value)(zs':LI),w'.heap[v]?=some (.cells cur'.toArray 3 (0,0))->cur'.length=cur.length->zs'.length=(nz r).length->cur'.take (nz r).length=zs'.map (Value.int .i64)->Row w' (w.heap.size+1) v m zs')(x:((nz r).take (m-1)).map (Value.int .i64)=cs)(E:y.heap[v]?=some (.cells (splice cur 1 cs).toArray 3 (0,0)))(z:Below v wr y):CopyInv w C m D gb v a b r y:=by
 obtain⟨j,k,l,f,g,q⟩:=h;have d:=l.lt;have i:cs.length=m-1:=by rw[<- x,List.length_map,List.length_take,qaA,s.1];omega
 refine⟨j.below z f,k.below z g,?_,f,g,q.trans (z.mono d.1)⟩;refine B y _ _ E (length_splice _ _ _ U0) ?_ ?_
 . rw[qaA,qaA,s.1];simp[s.1];omega
 . rw [qaA,s.1] at t ⊢;unfold splice;obtain ⟨n,rfl⟩:∃ n,m=n+1:=⟨m-1,U0⟩;have c:=s.1;match r,c with
   | o :: os,c =>
     match cur,A with
     |u :: us,_=>
       simp only[List.take_succ_cons,nz,List.map_cons,List.cons.injEq] at t
       simp only[List.take_succ_cons,List.take_zero,List.cons_append,List.nil_append,List.getD_cons_zero,Nat.add_sub_cancel]
       rw[List.take_append_of_le_length U0,List.take_of_length_le U0,<- x,t.1,nz_take]
       simp[nz]
def innK(p m:Nat)(md a:LN)(bi:Nat)(out:LN)(j:Nat):LN:=(stepM p m md a bi out).take j++(0 :: out.take (m-1)).drop j
def RelI(w W0:Wo)(p m:Nat)(md:LN)(ga gb go:Nat)(a b:LN)(bi:Nat)(out:LN)(v54:Value)(wr:Wo):Prop:=
 ∃j:Nat,j<=m/\v54=Y j/\MInv w W0 m ga gb go a b (innK p m md a bi out j) wr
theorem qcK(p m:Nat)(md a:LN)(bi:Nat)(b:LN):(stepM p m md a bi b).length=m:=by simp[stepM]
theorem stepM_at(p m:Nat)(md a:LN)(bi:Nat)(b:LN)(j:Nat)(c:j<m):(stepM p m md a bi b).getD j 0=((if j=0 then 0 else b.getD (j-1) 0)+(p-b.getD (m-1) 0)*md.getD j 0+bi*a.getD j 0) % p:=by simp[stepM,List.getD,c]
theorem shl_len{m:Nat}{b:LN}(h:b.length=m)(c:1<=m):(0 :: b.take (m-1)).length=m:=by simp[h];omega
theorem innK_len{p m:Nat}{md a:LN}{bi:Nat}{b:LN}{j:Nat}(d:j<=m)(c:1<=m)(h:b.length=m):(innK p m md a bi b j).length=m:=by unfold innK;rw[List.length_append,List.length_take,List.length_drop,qcK,shl_len h c];omega
theorem innK_at(p m:Nat)(md a:LN)(bi:Nat)(c:LN)(j:Nat)(d:j<m)(h:c.length=m):(innK p m md a bi c j).getD j 0=if j=0 then 0 else c.getD (j-1) 0:=by
 unfold innK;have b:((stepM p m md a bi c).take j).length=j:=by rw[List.length_take,qcK];omega
 simp only[List.getD];rw[List.getElem?_append_right U0,b,Nat.sub_self,List.getElem?_drop,Nat.add_zero];rcases j with _|j
 . simp
 . simp only[List.getElem?_cons_succ,Nat.add_sub_cancel,if_neg (Nat.succ_ne_zero j)];rw[List.getElem?_take,if_pos U0]
theorem innK_set(p m:Nat)(md a:LN)(bi:Nat)(d:LN)(j:Nat)(f:j<m)(h:d.length=m):(innK p m md a bi d j).set j ((stepM p m md a bi d).getD j 0)=innK p m md a bi d (j+1):=by
 unfold innK;have b:((stepM p m md a bi d).take j).length=j:=by rw[List.length_take,qcK];omega
 have c:=shl_len h U0;rw[List.set_append_right _ _ U0,b,Nat.sub_self];rw[List.drop_eq_getElem_cons (i:=j) U0,List.set_cons_zero];rw[List.take_succ_eq_append_getElem (by rw[qcK];exact f),List.append_assoc];have:(stepM p m md a bi d).getD j 0=(stepM p m md a bi d)[j]'(by rw[qcK];exact f):=by rw[List.getD_eq_getElem?_getD,List.getElem?_eq_getElem (by rw[qcK];exact f)];rfl
 rw[this];rfl
theorem innK_end(p m:Nat)(md a:LN)(bi:Nat)(b:LN)(h:b.length=m)(c:1<=m):innK p m md a bi b m=stepM p m md a bi b:=by unfold innK;rw[List.take_of_length_le (by rw[qcK];exact Nat.le_refl _),List.drop_of_length_le (Nat.le_of_eq (shl_len h c)),List.append_nil]
theorem qaY(a b:Nat):Int.tmod (a:Int) (b:Int)=((a % b:Nat):Int):=by rw[Int.tmod_eq_emod_of_nonneg U0];rfl
theorem mul_le_256{a b:Nat}(d:a<=256)(f:b<=256):0<=(a:Int)*(b:Int)/\(a:Int)*(b:Int)<=65536:=by have:a*b<=256*256:=Nat.mul_le_mul d f;have c:((a*b:Nat):Int)=(a:Int)*(b:Int):=Int.natCast_mul _ _;omega
theorem MInv.drew{w l:Wo}{m n gb o:Nat}{a b k:LN}{wr:Wo}(h:MInv w l m n gb o a b k wr):MInv w l m n gb o a b k wr.drew:=by obtain⟨c,d,f,g,i,j⟩:=h;exact⟨c,d,f,g,i,j.drew⟩
theorem multiply_c(p m x y:Nat)(A:OA)(n c:Nat)(md:LN)(w:Wo)(hs:Small p m)(hM:ModAt w w.heap.size m A n md)(ax:∀ d∈md,d<p)(hx:x<p ^ m)(hy:y<p ^ m):
 zC 146 #[C4 p m A n c,Y x,Y y] w fun e w'=>e=.returned (Y ((mulM p m md x y:Nat):Int))/\zB w w':=by
 obtain⟨dd,de,S,db,hq⟩:=hs;obtain⟨i0,hi,bo,bp,bq⟩:=qaF infoInt;have HI:=zH hi;have b9:=zH bo;have cd:=zH bp;have br:=zH (show i0.bytes*m<=281474976710656 by rw[bq];omega);have bs:=zH (show m<=maxLen by unfold maxLen;omega);clear hi bo bp bq;have HM:=zH hM;have a3:=zH hM.len;have b3:=zH ax;clear hM ax;have di:x<=256:=U0;have dj:y<=256:=U0;clear hx hy;go_enter func146,ntmps146;go_upto_region 1 with fail;have a8:zB w (w.alloc (C2 p m A n c)):=zV.alloc zn _;have ac:(w.alloc (C2 p m A n c)).heap[w.heap.size]?=some (C2 p m A n c):=heap_alloc_new _ _;have bn:(w.alloc (C2 p m A n c)).heap.size=w.heap.size+1:=U2;have av:=zH a8;have r:=zH ac;have al:=zH bn;clear a8 ac bn;generalize w.alloc (C2 p m A n c)=C at *;have z0:C.cell? (zA w.heap.size 0)=some (Y p):=cell_of_row _ _ 0 _ _ _ r.o;have z1:C.cell? (zA w.heap.size 1)=some (Y m):=cell_of_row _ _ 1 _ _ _ r.o;go_cut [7,8] (fun v7 v8 wx=>CutAB w C p m x y v7 v8 wx);case first=>
  have cy:w.heap.size<C.heap.size:=by have:=al.o;omega
  go_region_held3 (fun w'=>w'.cell? (zA w.heap.size 0)=some (Y p)/\w'.cell? (zA w.heap.size 1)=some (Y m)/\w.heap.size<w'.heap.size)
   (first|go_keep|(go_split_ands;first|exact⟨(hbd2.cell (p:=(zA w.heap.size 0)) am).trans am,(hbd2.cell (p:=(zA w.heap.size 1)) am).trans am,Nat.lt_of_lt_of_le am hbd2.size⟩|exact⟨(hbd1.cell (p:=(zA w.heap.size 0)) am).trans am,(hbd1.cell (p:=(zA w.heap.size 1)) am).trans am,Nat.lt_of_lt_of_le am hbd1.size⟩))
   (first|((with_reducible refine(qdD x p m _ U0 U0 U0 U0).mono ?_);rintro e V ⟨rfl,hrowa,hbd1⟩)|((with_reducible refine(qdD y p m _ U0 U0 U0 U0).mono ?_);rintro e cq ⟨rfl,hrowb,hbd2⟩))
  have hX:CutAB w C p m x y (zS C.heap.size m m) (zS V.heap.size m m) cq:=by have e:=al.o;have e1:zB C V:=⟨hbd1.os,hbd1.tape,hbd1.output,hbd1.size,hbd1.block⟩;have r1:Row V C.heap.size C.heap.size m (nz (digs p m x)):=hrowa;have dg:=hbd1.size;have l1:=r1.lt;refine⟨_,_,rfl,rfl,(r1.below hbd2 l1.2).base U0,hrowb.base (by have:C.heap.size<=V.heap.size:=e1.size;omega),?_⟩;rw[<- e];exact e1.trans (hbd2.mono e1.size)
  have HX:=zH hX;clear hrowa hrowb hbd1 hbd2 hX;go_wp2;go_meet;exact HX.o
 case rest =>
  obtain⟨M,N,rfl,rfl,T,U,Q⟩:=hcut;have ah:=zH T;have ai:=zH U;have aw:=zH Q;have au:w.heap.size+1<=wc.heap.size:=by have:=Q.size;have:=al.o;omega
  have y1:wc.cell? (zA w.heap.size 1)=some (Y m):=(Q.cell (p:=(zA w.heap.size 1)) (by show w.heap.size < _;omega)).trans z1;clear T U Q z0 z1;go_wp2_with (refine wpList_make_full wc rfl (.tmp 27) (.tmp 27) 22 rfl (w.heap.size+1) 3 i0 (Y 0) 1 underlying22 HI.o b9.o cd.o .i64 .i64 m m m rfl rfl rfl rfl br.o bs.o au ?_;intro w1 ag I;have x1:w1.cell? (zA w.heap.size 1)=some (Y m):=(I.cell y1 U2));have cm:=ah.o.lt.2;have bj:=ai.o.lt.2
  have a1:zK (MInv w C m M N wc.heap.size (digs p m x) (digs p m y) (List.replicate m 0) w1):=
   ⟨ah.o.grown I U2,ai.o.grown I U2,Row.of_make ag,U0,U0,aw.o.grown I au (fun _ h=>by cases h)⟩
  clear ag I cm bj y1 ah ai aw;generalize wc.heap.size=l at *;clear au;clear wc;go_loopw [10] (fun v10 wr=>RelM w C p m md M N l (digs p m x) (digs p m y) v10 wr) (fun v10 _=>(intOf v10+1).toNat);case atStart=>exact⟨m,Nat.le_refl _,U2,by rw[List.drop_of_length_le (by rw[qaK];exact Nat.le_refl _)];exact a1.o⟩
  case round =>
   obtain⟨k,hk,rfl,s⟩:=hrel;have H:=zH s;have q:=zH s.2.2.2.2.2;have d0:wr.cell? (zA w.heap.size 0)=some (Y p):=(q.o.cell (p:=(zA w.heap.size 0)) (by show w.heap.size < _;omega)).trans (cell_of_row _ _ 0 _ _ _ r.o);have d1:wr.cell? (zA w.heap.size 1)=some (Y m):=(q.o.cell (p:=(zA w.heap.size 1)) (by show w.heap.size < _;omega)).trans (cell_of_row _ _ 1 _ _ _ r.o);clear s a1 x1;rcases k with _|k
   . have a5:zK (Row wr (w.heap.size+1) l m (nz (mulL p m md (digs p m x) (digs p m y)))):=H.o.2.2.1;have HD:=zH (qaW (m:=m) (by omega:0<p) md (digs p m x) (digs p m y));have cj:=a5.o.lt.2;have HF:zK (zB w wr):=av.o.trans (q.o.mono (Nat.le_succ _));have HE:zK (mulM p m md x y=val p (mulL p m md (digs p m x) (digs p m y))):=rfl;clear H q;generalize mulL p m md (digs p m x) (digs p m y)=L at *;go_wp2_with fail;(with_reducible refine(valueOf_n (zO l) L m m p wr (a5.o.ints cj) U0 HD.o U0 U0 U0).mono ?_);rintro e w' ⟨rfl,rfl⟩;go_wp2;go_ret;exact⟨qaG (by rw[HE.o]),HF.o⟩
   . (have bd : ((k + 1 : Nat) : Int) - 1 = (k : Int) := by omega);rw [bd];clear bd;have be:k<m:=U0;obtain ⟨T,U,bm,bg,bh,ap⟩:=H.o;have b8:zK (mulL p m md (digs p m x) ((digs p m y).drop k)=stepM p m md (digs p m x) ((digs p m y).getD k 0) (mulL p m md (digs p m x) ((digs p m y).drop (k+1)))):=mulL_drop p m md _ _ k (by rw [qaK];exact be);have u:=zH (qaW (m:=m) (by omega:0<p) md (digs p m x) ((digs p m y).drop (k+1)));have a6:=zH (qcB (by omega:0<p) m x);have a7:=zH (qcB (by omega:0<p) m y);have HK:zK (MInv w C m M N l (digs p m x) (digs p m y) (mulL p m md (digs p m x) ((digs p m y).drop (k+1))) wr):=H.o;clear H;generalize mulL p m md (digs p m x) ((digs p m y).drop (k+1))=f at *;have b6:zK (digs p m x=digs p m x):=rfl;generalize cf:digs p m x=B at *;generalize ci:digs p m y=g at *;clear cf ci b6;obtain ⟨i,E⟩:∃ t,f.getD (m-1) 0=t:=⟨_,rfl⟩;have ab:=zH E;(have t0:wr.cell? (zA l (m-1))=some (Y (i:Int)):=by rw [<- E,<- qaC];exact bm.cell (by rw [qaA,u.o.1];omega));clear T U bm ap bg bh E;go_upto_region 7 with fail;go_cut [49] (fun v wx=>CopyInv w C m M N l B g f wx);case first =>
      obtain⟨cur,ae,R,bc,J⟩:=HK.o.2.2.1.cur;have W:=zH ae;have c7:=zH R;have bw:=zH bc;have b7:=zH J;(have bb:m<=cur.length:=by rw[qaA,u.o.1] at R;exact R);(have P:zK ((((nz f).take (m-1)).map (Value.int .i64)).length=m-1):=by show _=_;rw[List.length_map,List.length_take,qaA,u.o.1];omega);(have az:zK (∀v∈((nz f).take (m-1)).map (Value.int .i64),v.oneCell'=true):=fun v hv=>by obtain⟨z,_,rfl⟩:=List.mem_map.1 hv;rfl);have bu:zK (∀(j:Nat)(v:Value),(((nz f).take (m-1)).map (Value.int .i64))[j]?=some v->wr.cell? ((⟨l,0,none⟩:Addr).add j)=some v):=fun j v hv=>copy_src HK.o.2.2.1 hv;clear ae R bc J t0;have j1:(1:Int)<=(m:Int):=U0;have j3:(m:Int)-1<=(m:Int):=U0;have j5:((m:Int)-1).toNat=m-1:=U0;have j7:(0:Int)<=(m:Int)-1:=U0;generalize ad:((nz f).take (m-1)).map (Value.int .i64)=cs at *;have bv:=zH ad;clear ad;(have X:zK (1+cs.length<=cur.length):=by show _<=_;rw[P.o];omega);have j6:IntKind.i64.wrap ((m:Int)-1)=(m:Int)-1:=IntWalk.i64_in _ U0;by_cases S:m=1;case' pos=>have j2:∀(a b:OA),(if m=1 then a else b)=a:=fun a b=>if_pos S;have b2:=zH S;clear S;go_region_law (refine step_copy_splice rfl (.tmp 43) (.tmp 48) 22 22 rfl 3 underlying22 sizeInt _ _ _ _ _ _ rfl rfl l 1 cur 3 W.o cs (by rw[P.o];simp) (fun aq=>absurd aq (by rw[P.o];have:=b2.o;omega)) X.o az.o l wr zV.drew zn ?_;intro w4 ao an)
      case' neg=>go_region_law (refine step_copy_splice rfl (.tmp 43) (.tmp 48) 22 22 rfl 3 underlying22 sizeInt _ _ _ _ _ _ rfl rfl l 1 cur 3 W.o cs (by rw[P.o];simp) (fun aq=>⟨rfl,(zA l 0),rfl,bu.o⟩) X.o az.o l wr zV.drew zn ?_;intro w4 ao an)
      all_goals
       clear j6
       have HX:zK (CopyInv w C m M N l B g f w4):=copy_inv HK.o u.o U0 bb bw.o b7.o bv.o ao.out an
       clear ao an
       go_wp2
       go_meet
       exact HX.o
     case rest =>
      have HC:zK (MInv w C m M N l B g (f.getD 0 0 :: f.take (m-1)) wc):=hcut;have f0:wc.frozen? (zA l 0)=false:=HC.o.2.2.1.frozen 0;(have c0:wc.cell? (zA l 0)=some (Y ((f.getD 0 0:Nat):Int)):=by have:=HC.o.2.2.1.cell (j:=0) (by simp[nz]);rw[this,qaC];rfl);clear hcut HK q d0 d1 t0;clear wr;go_wp2_with fail;(have ay:zK (MInv w C m M N l B g (innK p m md B (g.getD k 0) f 0) (wc.setCell (zA l 0) (Y 0))):=by have:=HC.o.set 0 0;exact this);clear HC f0 c0;generalize wc.setCell (zA l 0) (Y 0)=wd at *;clear wc;have b0:=zH (fun j hj=>innK_set p m md B (g.getD k 0) f j hj u.o.1);have bx:=zH (fun j hj=>innK_at p m md B (g.getD k 0) f j hj u.o.1);have bz:=zH (innK_end p m md B (g.getD k 0) f u.o.1 U0);(have c6:i<p:=by rw[<- ab.o];exact qeV U0 u.o _);have c9:g.getD k 0<p:=qeV U0 a7.o _;(have aa:zK (∀j,j<m->(stepM p m md B (g.getD k 0) f).getD j 0=((if j=0 then 0 else f.getD (j-1) 0)+(p-i)*(md:LN).getD j 0+g.getD k 0*B.getD j 0) % p):=fun j hj=>by rw[<- ab.o];exact stepM_at p m md B (g.getD k 0) f j hj);go_loopw [54] (fun v54 wr=>RelI w C p m md M N l B g (g.getD k 0) f v54 wr) (fun v54 _=>m-(intOf v54).toNat);case atStart=>exact⟨0,U0,rfl,ay.o⟩
      case round =>
       obtain⟨j,hj,rfl,s⟩:=hrel;have H:=zH s;have q:=zH s.2.2.2.2.2;clear s ay;have d0:wr.cell? (zA w.heap.size 0)=some (Y p):=(q.o.cell (p:=(zA w.heap.size 0)) (by show w.heap.size < _;omega)).trans (cell_of_row _ _ 0 _ _ _ r.o);have d1:wr.cell? (zA w.heap.size 1)=some (Y m):=(q.o.cell (p:=(zA w.heap.size 1)) (by show w.heap.size < _;omega)).trans (cell_of_row _ _ 1 _ _ _ r.o);by_cases D:j<m
       . have HL := zH (innK_len (p := p) (md := md) (a := B) (bi := g.getD k 0) (Nat.le_of_lt D) U0 u.o.1);(have q0:wr.cell? (zA l j)=some (Y ((if j=0 then 0 else f.getD (j-1) 0:Nat):Int)):=by rw [<- bx.o j D,<- qaC];exact H.o.2.2.1.cell (by rw [qaA,HL.o];exact D));(have q1:wr.cell? (zA M j)=some (Y ((B.getD j 0:Nat):Int)):=by rw [<- qaC];exact H.o.1.cell (by rw [qaA,a6.o.1];exact D));(have q2:wr.cell? (zA N k)=some (Y ((g.getD k 0:Nat):Int)):=by rw [<- qaC];exact H.o.2.1.cell (by rw [qaA,a7.o.1];exact be));have f0:wr.frozen? (zA l j)=false:=H.o.2.2.1.frozen j;have dh:(if j=0 then 0 else f.getD (j-1) 0)<p:=by
          split
          . omega
          . exact qeV U0 u.o _
         have c8:B.getD j 0<p:=qeV U0 a6.o _;have ak:=zH (aa.o j D);have Z:=zH (b0.o j D);have da:md.getD j 0<p:=qeV U0 ⟨a3.o,b3.o⟩ _;have dm:(0:Int)<=(j:Int):=U0;have dn:(j:Int)<((m:Nat):Int):=U0;generalize bf:md.getD j 0=O at *;have a2:=zH bf;clear bf;go_upto_if 59 with fail;go_cut [13] (fun v13 wx=>v13=Y (O:Int)/\wr=wx);case first=>
          clear q0 q1 q2 f0 ak Z aa;rcases HM.o with⟨h1,h2⟩|⟨h1,h3,_,h4⟩
          . (have af:O=0:=by rw[<- a2.o,h2];rcases j with _|j<;>simp[List.getD]);have cz:m<=1:=U0;have b1:=zH af;clear af h1 h2;go_wp2;go_meet;exact⟨by rw[b1.o];rfl,rfl⟩
          . obtain⟨mb,mo,rfl,ck,cl⟩:=(h4.keep (av.o.trans (q.o.mono (Nat.le_succ _)))).at_ (k:=j) (by rw[qaA,a3.o];exact D);rw[qaC,a2.o] at cl;(have d2:wr.cell? (zA w.heap.size 2)=some (zL (some (zA mb mo)) m c):=by have:=(q.o.cell (p:=(zA w.heap.size 2)) (by show w.heap.size < _;omega)).trans (cell_of_row _ _ 2 _ _ _ r.o);rw[<- h3];exact this);clear h3 h4 ck;go_wp2;go_meet;exact⟨rfl,rfl⟩
         case rest=>
         obtain⟨rfl,co⟩:=hcut;subst co;generalize cn:(if j=0 then 0 else f.getD (j-1) 0)=sj at *;generalize ce:B.getD j 0=aj at *;generalize ba:g.getD k 0=bk at *;have bt:=zH ba;clear cn ce ba;have a9:=mul_le_256 (a:=p-i) (b:=O) U0 U0;have cg:=mul_le_256 (a:=bk) (b:=aj) U0 U0;have ar:((p-i:Nat):Int)=(p:Int)-(i:Int):=U0;rw[ar] at a9;obtain⟨cr,ct⟩:=a9;obtain⟨cw,cx⟩:=cg;(have a4:zK (Int.tmod ((sj:Int)+((p:Int)-(i:Int))*(O:Int)+(bk:Int)*(aj:Int)) (p:Int)=(((stepM p m md B bk f).getD j 0:Nat):Int)):=by show _=_;rw[ak.o,<- qaY];congr 1;rw[Int.natCast_add,Int.natCast_add,Int.natCast_mul,Int.natCast_mul,ar]);clear ar ak;generalize J:(stepM p m md B bk f).getD j 0=K at *;have dp:(0:Int)<=(k:Int):=U0;have dq:(k:Int)<((m:Nat):Int):=U0;have aq:((p:Int)==0)=false:=so;have e1:IntKind.i64.wrap ((p:Int)-(i:Int))=(p:Int)-(i:Int):=IntWalk.i64_in _ U0;have e2:IntKind.i64.wrap (((p:Int)-(i:Int))*(O:Int))=((p:Int)-(i:Int))*(O:Int):=IntWalk.i64_in _ U0;have e3:IntKind.i64.wrap ((sj:Int)+((p:Int)-(i:Int))*(O:Int))=(sj:Int)+((p:Int)-(i:Int))*(O:Int):=IntWalk.i64_in _ U0;have e4:IntKind.i64.wrap ((bk:Int)*(aj:Int))=(bk:Int)*(aj:Int):=IntWalk.i64_in _ U0;have e5:IntKind.i64.wrap ((sj:Int)+((p:Int)-(i:Int))*(O:Int)+(bk:Int)*(aj:Int))=(sj:Int)+((p:Int)-(i:Int))*(O:Int)+(bk:Int)*(aj:Int):=IntWalk.i64_in _ U0;have c3:¬p=0:=U0;have c4:¬(p:Int)=0:=U0;(have c5:K<p:=by rw[<- J];exact qeV U0 (stepM_dig (m:=m) U0 md B bk f) j);have e7:IntKind.i64.wrap (K:Int)=(K:Int):=IntWalk.i64_in _ U0;have E7:=zH e7;clear e7 J;have E1:=zH e1;have E2:=zH e2;have E3:=zH e3;have E4:=zH e4;have E5:=zH e5;clear e1 e2 e3 e4 e5;go_upto_region 15 with fail;have e1:=E1.o;have e2:=E2.o;have e3:=E3.o;have e4:=E4.o;have e5:=E5.o;have e6:=a4.o;have e7:=E7.o;go_still_tail 27,U1;change wpList _ _ _ _ _ wr.drew;have g0:wr.drew.cell? (zA l j)=some (Y (sj:Int)):=q0;have g1:wr.drew.frozen? (zA l j)=false:=f0;clear e1 e2 e3 e4 e5 e6 e7 q0 q1 q2 f0 d0 d1;go_wp2_with fail;(have a0:zK (MInv w C m M N l B g (innK p m md B bk f (j+1)) (wr.drew.setCell (zA l j) (Y (K:Int)))):=by rw[<- Z.o];exact MInv.set (MInv.drew H.o) j K);go_roundw;case rel=>exact⟨j+1,U0,U3,by rw[bt.o];exact a0.o⟩
         case measure=>simp[intOf];omega
       . (obtain rfl : j = m:=by omega);rw[bz.o,<- b8.o] at H;clear d0 d1 q;go_wp2;go_roundw;case rel=>exact⟨k,U0,U3,H.o⟩
         case measure=>simp[intOf]
end Go.Proofs.YtflejelbdlelpaaGreat
