/- Parts of the proof. -/
import Derived.Test.YtndipkplnkfoeaaGreatR12
import Derived.Test.YtndipkplnkfoeaaGreatR13
set_option maxRecDepth 100000
set_option maxHeartbeats 8000000
namespace Go.Proofs.YtndipkplnkfoeaaGreat
open Go.RowKit Pln
def wtAt(p m:Nat)(md:List Nat)(cols:Nat)(rows:List (List Nat))(i:Nat):Nat:=Dv.wt (cwO p m md cols rows (Dv.digsBE (p^m) rows.length i))
def RelLe(w:World)(cs:List Value)(f:Nat->Nat)(nn N:Nat)(v5 v6:Value)(wr:World):Prop:=
 ∃(i out:Nat),1<=i/\(i<=nn\/i=1)/\v6=Y i/\v5=Y out/\out<=N/\Dv.leastGo f (nn-i) i out=Dv.leastGo f (nn-1) 1 N/\BX w cs 32 wr
theorem least_step{f:Nat->Nat}{b i c r:Nat}(d:i<b)(h:Dv.leastGo f (b-i) i c=r):Dv.leastGo f (b-(i+1)) (i+1) (min c (f i))=r:=by have e:b-i=(b-(i+1))+1:=U0;rw[e] at h;exact h
theorem least_c{p m:Nat}{md:List Nat}{A:Option Addr}{n aa:Nat}{rows:List (List Nat)}{Ah:Option Addr}{w:World}(h:RCode p m md A n aa rows Ah w)(c ch nn:Nat)(ab:nn<=65536):
 zC 21 #[Ck p m A n c aa Ah rows.length ch,Y nn] w fun e w'=>e=.returned (Y ((Dv.leastGo (wtAt p m md aa rows) (nn-1) 1 (aa+1):Nat):Int))/\Below w.heap.size w w':=by
 have E:=zH (bx_new w (Ca p m A n c aa Ah rows.length ch) 32);have P:=h.n2;have B:Hid (∀(i:Nat)(W:World),i<nn->Below w.heap.size w W->zC 40 #[Ck p m A n c aa Ah rows.length ch,Y i] W fun e w'=>(∃g,e=.returned (zS g aa aa)/\Row w' W.heap.size g aa (nz (cwO p m md aa rows (Dv.digsBE (p^m) rows.length i)))/\(cwO p m md aa rows (Dv.digsBE (p^m) rows.length i)).length=aa)/\Below W.heap.size W w'):=fun i W hi hW=>at_c (h.lift hW) c ch i U0;have D:Hid (∀(i g:Nat)(W:World),(cwO p m md aa rows (Dv.digsBE (p^m) rows.length i)).length=aa->IntsAt W W.heap.size (zO g) (nz (cwO p m md aa rows (Dv.digsBE (p^m) rows.length i)))->zC 11 #[zS g aa aa] W fun e w'=>e=.returned (Y ((wtAt p m md aa rows i:Nat):Int))/\W=w'):=fun i g W hl hi=>by have:=weight_c (cwO p m md aa rows (Dv.digsBE (p^m) rows.length i)) (zO g) aa W hi U0;rw[hl] at this;exact this
 have C:Hid (∀i,(cwO p m md aa rows (Dv.digsBE (p^m) rows.length i)).length=aa->wtAt p m md aa rows i<=aa):=fun i hl=>by have:=rwt_le (cwO p m md aa rows (Dv.digsBE (p^m) rows.length i));rw[hl] at this;exact this
 clear h;generalize wtAt p m md aa rows=f at *;generalize (fun i=>cwO p m md aa rows (Dv.digsBE (p^m) rows.length i))=cw at *;generalize rows.length=k at *;go_enter Tryz.func21,Tryz.ntmps21;go_upto_region 1 with fail;generalize w.alloc (Cf p m A n c aa Ah k ch)=J at *;have O:J.cell? (zA w.heap.size 3)=some (Y (aa:Int)):=E.out.cell rfl;have I:IntKind.i64.wrap ((aa:Int)+1)=((aa+1:Nat):Int):=by rw[IntWalk.i64_in _ U0];rfl
 have t:Hid (RelLe w (Ca p m A n c aa Ah k ch) f nn (aa+1) (Y ((aa+1:Nat):Int)) (Y 1) J):=⟨1,aa+1,Nat.le_refl _,.inr rfl,rfl,rfl,Nat.le_refl _,rfl,E.out⟩;go_wp2_with fail;go_loopw [5,6] (fun v5 v6 wr=>RelLe w (Ca p m A n c aa Ah k ch) f nn (aa+1) v5 v6 wr) (fun _ v6 _=>nn-(intOf v6).toNat);case atStart=>exact t.out
 case round =>
  obtain⟨i,b,S,T,rfl,rfl,z,x,M⟩:=hrel;have d:=zH M;have o:=zH x;clear M x t E I O;by_cases l:i<nn
  . (have X : (i : Int) < (nn : Int) := by omega);have U:IntKind.i64.wrap ((i:Int)+1)=(i:Int)+1:=IntWalk.i64_in _ U0;have s:=zH d.out.range;have r:=zH (B.out i wr l d.out.below);have j:=zH (least_step l o.out);go_wp2_with (refine wpList_load_mid rfl 32 (.tmp 2) rfl w.heap.size 0 rfl (Ca p m A n c aa Ah k ch) _ s.out Tryz.underlying32 rfl codeSize ?_);refine r.out.mono ?_;rintro e Z ⟨⟨g3,rfl,hr3,hl3⟩,hb3⟩;have v:=zH (d.out.grow hb3);have u:=zH (D.out i g3 Z hl3 (row_ints hr3));have R:=C.out i hl3;clear hb3 hr3 hl3 r s d;generalize Q:f i=q at *;go_wp2_with fail;refine u.out.mono ?_;rintro e w4 ⟨rfl,rfl⟩;clear u;by_cases y:b<=q
    . rw[Nat.min_eq_left y] at j;have H:(b:Int)<=(q:Int):=U0;go_wp2_with fail;go_roundw;case rel=>exact⟨i+1,b,U0,.inl l,gn,rfl,z,j.out,v.out⟩
      case measure=>exact mE
    . rw[Nat.min_eq_right U0] at j;have H:¬(b:Int)<=(q:Int):=U0;have K:(q:Int)<=(b:Int):=U0;have L:(q:Int)<(b:Int):=U0;go_wp2_with fail;go_roundw;case rel=>exact⟨i+1,q,U0,.inl l,gn,rfl,U0,j.out,v.out⟩
      case measure=>exact mE
  . (have V:nn-i=0:=by omega);(have N:Hid (b=Dv.leastGo f (nn-1) 1 (aa+1)):=by have:=o.out;rw[V] at this;exact this);have X:¬(i:Int)<(nn:Int):=U0;clear o;go_wp2_with fail;go_ret;exact⟨qaG (by rw[N.out]),d.out.below⟩
theorem SB.code{w:World}{b:Nat}{d:StD}{g f q l o r s Ar t At:Option Addr}{k i u ca cb cp v x c y:Nat}{W:World}(h:SB w b (stCells d g f q l o r s Ar t At k i u ca cb cp v x c y) W):W.rangeAt b 1 (Ca d.p d.m g d.mod.length k d.n f d.gen.length i):=
 h.sub 1 _ (fun j hj=>by rcases j with _|_|_|_|_|j<;>first|rfl|(simp at hj;omega))
theorem code_form{d:StD}(q:codeZ d.p d.m d.mod d.n d.gen=0):fieldOK d.p d.m d.mod=true/\1<=d.n/\d.n<=64/\nzs (natR d.gen)=d.gen/\Grid (d.p.toNat^d.m.toNat) (natR d.gen).length d.n.toNat (natR d.gen)/\d.gen.length<=256:=by
 obtain⟨g,b,c⟩:=codeZ_n q;have h:1<=d.n/\d.n<=64:=by
  unfold lengthZ at b;split at b
  . cases b
  . omega
 have f:errC d.p d.m d.mod d.n d.gen=0:=by
  unfold spZ at c;split at c
  . rename_i he;exact absurd c he
  . rename_i he;exact Classical.byContradiction he
 unfold errC at f;rw[if_pos g] at f;obtain⟨i,j,l,o,k⟩:=check_grid f;exact⟨g,h.1,h.2,i,j,k⟩
theorem code_nat{d:StD}{w:World}{s A:Option Addr}(v:codeZ d.p d.m d.mod d.n d.gen=0)(u:IntsAt w w.heap.size s d.mod)(t:RowsAt w w.heap.size A d.gen):
 RCode d.p.toNat d.m.toNat (mdOf d.m d.mod) s d.mod.length d.n.toNat (natR d.gen) A w/\((d.p.toNat:Nat):Int)=d.p/\((d.m.toNat:Nat):Int)=d.m/\((d.n.toNat:Nat):Int)=d.n/\(natR d.gen).length=d.gen.length:=by
 obtain⟨b,q,r,l,k,g⟩:=code_form v;have o:shapeM d.p d.m d.mod=true:=by unfold fieldOK at b;rw[Bool.and_eq_true] at b;exact b.1
 have c:=shape_is o;have j:=field_ft b;have h:(mdOf d.m d.mod).length=d.m.toNat:=by
  by_cases f:d.m=1
  . rw[f];simp[mdOf]
  . unfold mdOf;rw[if_neg f,List.length_map];exact c.len f
 have i:RFld d.p.toNat d.m.toNat (mdOf d.m d.mod) s d.mod.length w.heap.size w:=⟨c.small,h,c.lt,fun h2=>by
  have f:d.m≠1:=by intro e;rw[e] at h2;exact absurd h2 dc
  exact⟨c.len f,by rw[c.nat f];exact u⟩⟩
 exact⟨⟨i,⟨_,j⟩,by rw[l];exact t,k,U0,U0,by rw[natR_len];exact g⟩,c.p0,c.m0,U0,natR_len _⟩
section
variable {P:Program} {ops:Array Oper} {S:World->Prop}
theorem keep_gload_mid{Q:Act->Prop}{a:Act}{o:Oper}{rest:List Oper}(i:Region.wanted o (yielded ops a.tmps)=true)(f:TypeId)(x:Operand)(k:o.op=.load f x)(b c:Nat)(m:a.eval x=.pointer (some (zA b c)))(cs:List Value)(d:TypeDesc)(g:∀w,S w->w.rangeAt b c cs)(l:P.underlying f=some d)(hd:d.isRow=true)(j:(P.info? f).map (·.size)=some cs.length)(h:wpKeep P ops S Q rest (a.put o.dst (.agg cs.toArray))):wpKeep P ops S Q (o :: rest) a:=
 qbD i (fun W hW=>by
  unfold execOp
  simp only[k,m,Instr.loadAt,Instr.sureAddr,Sem.run_bind,Sem.run_pure,Result.andThen_ok,run_loadVar_mid W b c f cs d (g W hW) l hd j]) h
end
def TrueOk(d:StD):Prop:=d.low<=((Dv.leastGo (wtAt d.p.toNat d.m.toNat (mdOf d.m d.mod) d.n.toNat (natR d.gen)) ((d.p.toNat^d.m.toNat)^d.gen.length-1) 1 (d.n.toNat+1):Nat):Int)
theorem cn_exp{d:StD}(k:codeZ d.p d.m d.mod d.n d.gen=0):∃ nn:Nat,cnV d.p d.m d.mod d.n d.gen 1024=(nn:Int)/\nn<=1024/\(0<nn->nn=(d.p.toNat ^ d.m.toNat) ^ d.gen.length):=by
 have i:szE d.p d.m d.mod d.n d.gen=expE (d.p.toNat^d.m.toNat) d.gen.length:=by unfold szE;rw[if_neg (fun h=>h k)]
 have j:szV d.p d.m d.mod d.n d.gen=expV (d.p.toNat^d.m.toNat) d.gen.length:=by unfold szV;rw[if_neg (fun h=>h k)]
 unfold cnV;rw[i,j];generalize d.p.toNat^d.m.toNat=q;by_cases c:expE q d.gen.length≠0\/1024<expV q d.gen.length
 . rw[if_pos c];exact⟨0,rfl,U0,U0⟩
 . rw[if_neg c];have f:¬expE q d.gen.length≠0:=fun h=>c (.inl h);have g:¬1024<expV q d.gen.length:=fun h=>c (.inr h);unfold expE at f;by_cases b:q^d.gen.length<=65536
   . unfold expV at g ⊢;rw[if_pos b] at g ⊢;exact⟨q^d.gen.length,rfl,U0,fun _=>rfl⟩
   . rw[if_neg b] at f;exact absurd (show(8:Int)≠0 by decide) f
theorem true_c(d:StD)(cs:List Value)(w:World)(h:StC w w.heap.size d cs)(hk:d.ok)(hz:codeZ d.p d.m d.mod d.n d.gen=0):
 zC 10 #[.agg cs.toArray] w fun e w'=>∃b,e=.returned (.bool b)/\Below w.heap.size w w'/\(b=true->TrueOk d):=by
 obtain⟨k,j,A,y,z,B,C,Ar,D,At,i,g,H,ca,cb,cp,I,J,o,K,rfl,_,S,T,h3,h4,h5⟩:=h;have E:=zH (sb_new w (stCells d k j A y z B C Ar D At i g H ca cb cp I J o K));have N:=zH S;have L:=zH T;obtain⟨k1,k2,_⟩:=hk;have e:maxLen=9223372036854775807:=rfl;have aa:d.gen.length<=256:=(code_form hz).2.2.2.2.2
 have M:Hid (∀W,Below w.heap.size w W->zC 20 #[Ck d.p d.m k d.mod.length i d.n j d.gen.length g,Y 1024] W fun e w'=>e=.returned (Y (cnV d.p d.m d.mod d.n d.gen 1024))/\Below W.heap.size W w'):=fun W hW=>
  count_c d.p d.m d.mod k i d.n d.gen j g 1024 W ((N.out.keep hW).more hW.size) U0 ((L.out.keep hW).more hW.size) U0
 have Q:Hid (∀(f:Nat)(W:World),f<=65536->Below w.heap.size w W->zC 21 #[Ck d.p d.m k d.mod.length i d.n j d.gen.length g,Y f] W fun e w'=>e=.returned (Y ((Dv.leastGo (wtAt d.p.toNat d.m.toNat (mdOf d.m d.mod) d.n.toNat (natR d.gen)) (f-1) 1 (d.n.toNat+1):Nat):Int))/\Below W.heap.size W w'):=fun f W x hW=>by obtain⟨P,X,Z,e3,e4⟩:=code_nat hz ((N.out.keep hW).more hW.size) ((L.out.keep hW).more hW.size);have:=least_c P i g f x;rw[X,Z,e3,e4] at this;exact this
 obtain⟨f,u,x,v⟩:=cn_exp hz;rw[u] at M;have U:Hid (0<f->d.low<=((Dv.leastGo (wtAt d.p.toNat d.m.toNat (mdOf d.m d.mod) d.n.toNat (natR d.gen)) (f-1) 1 (d.n.toNat+1):Nat):Int)->TrueOk d):=fun O hle=>by rw[v O] at hle;exact hle
 have q:=zH (fun W hW=>Q.out f W U0 hW);clear Q u v hz S T h3 h4 h5 k1 k2 N L;generalize ((Dv.leastGo (wtAt d.p.toNat d.m.toNat (mdOf d.m d.mod) d.n.toNat (natR d.gen)) (f-1) 1 (d.n.toNat+1):Nat):Int)=lv at *;go_enter Tryz.func10,Tryz.ntmps10;go_upto_region 1 with fail;generalize w.alloc (.cells (stCells d k j A y z B C Ar D At i g H ca cb cp I J o K).toArray 40)=R at *;have t:Hid (R.rangeAt w.heap.size 1 (Ca d.p d.m k d.mod.length i d.n j d.gen.length g)):=E.out.code;have s:=zH (M.out R E.out.2.1);go_wp2_with (refine wpList_load_mid rfl 32 (.tmp 4) rfl w.heap.size 1 rfl (Ca d.p d.m k d.mod.length i d.n j d.gen.length g) _ t.out Tryz.underlying32 rfl codeSize ?_);refine s.out.mono ?_;rintro e w1 ⟨rfl,hb1⟩;have l:=zH (E.out.grow hb1);clear hb1 E t s M;by_cases O:0<f
 . have V : decide ((0 : Int) < (f : Int)) = true := decide_eq_true U0;go_upto_region 2 with fail;refine qaD (SB w w.heap.size (stCells d k j A y z B C Ar D At i g H ca cb cp I J o K)) U1 U1 (l.out.grow (Below.refl _ _).drew) ?_
   repeat (first
    | (refine keep_gload_mid rfl 32 (.tmp 12) rfl w.heap.size 1 rfl (Ca d.p d.m k d.mod.length i d.n j d.gen.length g) _ (fun W c => c.code) Tryz.underlying32 rfl codeSize ?_
       go_simp)
    | (apply qaJ rfl
       . intro W c
         have y6:W.cell? (zA w.heap.size 6)=some (Y d.low):=c.cell rfl
         go_simp
         try rfl
       go_simp)
    | (apply qbD rfl
       . intro W c
         have y6:W.cell? (zA w.heap.size 6)=some (Y d.low):=c.cell rfl
         go_simp
         try rfl
       go_simp)
    | (apply qcG rfl
       . intro W c
         go_simp
         exact⟨rfl,rfl⟩
       . intro W c
         exact(q.out W c.2.1).mono (by rintro e w' ⟨rfl,hb⟩;exact⟨rfl,c.grow hb⟩)
       go_simp))
   refine qaE ?_;intro w2 c;have r:=zH c;clear c l q;go_wp2_with fail;go_ret;exact⟨_,rfl,r.out.2.1,fun hb=>U.out O (by simpa using hb)⟩
 . have V : decide ((0 : Int) < (f : Int)) = false := decide_eq_false U0;go_upto_region 2 with fail;refine qaD (SB w w.heap.size (stCells d k j A y z B C Ar D At i g H ca cb cp I J o K)) U1 U1 (l.out.grow (Below.refl _ _).drew) ?_
   repeat (first
    | (apply qaJ rfl
       . intro W c
         go_simp
         try rfl
       go_simp)
    |(apply qbI rfl;go_simp))
   refine qaE ?_;intro w2 c;have r:=zH c;clear c l q;go_wp2_with fail;go_ret;exact⟨_,rfl,r.out.2.1,fun hb=>by simp at hb⟩
theorem LGrid.wide{w:World}{B:Nat}{v:Value}{rows:List (List Nat)}{c:List (Nat × Nat)}(h:LGrid w B v rows c rows.length)(x:List Nat):LGrid w B v (rows++[x]) c rows.length:=by
 have e:∀i,i<rows.length->(rows++[x]).getD i []=rows.getD i []:=fun i hi=>getD_snoc_lt hi;refine⟨h.len,U2,?_,fun i hi=>by rw[e i hi];exact h.row i hi,h.apart⟩;have b:(List.range rows.length).map (hdr (rows++[x]) c)=(List.range rows.length).map (hdr rows c):=List.map_congr_left fun i hi=>by unfold hdr;rw[e i (List.mem_range.1 hi)]
 rw[b];exact h.out
def RelN1(w1:World)(cols:Nat)(v10:Value)(wr:World):Prop:=
 ∃(k:Nat)(zs:List Int),k<=cols/\v10=Y k/\Row wr w1.heap.size w1.heap.size cols zs/\zs.length=cols/\Below w1.heap.size w1 wr
def RelN2(w1:World)(cols np:Nat)(v11:Value)(wr:World):Prop:=
 ∃(k:Nat)(zs:List Int),k<=np/\v11=Y k/\Row wr w1.heap.size w1.heap.size cols zs/\zs.length=cols/\Below w1.heap.size w1 wr
def RowsOk(q cols:Nat)(R:List (List Nat)):Prop:=∀r∈R,r.length=cols/\∀x∈r,x<q
def RelN3(w3:World)(q cols:Nat)(v12 v13:Value)(wr:World):Prop:=
 ∃(t:Nat)(R:List (List Nat))(bs:List (Nat × Nat)),t<=cols/\v13=Y t/\LGrid wr w3.heap.size v12 R bs R.length/\R.length<=t/\RowsOk q cols R/\Below w3.heap.size w3 wr
def RelN4(w4:World)(q cols np:Nat)(v15:Value)(wr:World):Prop:=
 ∃(i:Nat)(l:List Nat),i<=np/\v15=Y i/\Row wr w4.heap.size w4.heap.size cols (nz l)/\l.length=cols/\(∀x∈l,x<q)/\Below w4.heap.size w4 wr
def NSc(w:World)(cs:List Value)(bp op br or' bx ox i t cols ci pv x:Nat)(W:World):Prop:=
 BX w cs 29 W/\W.cell? (zA bp (op+i))=some (Y pv)/\W.cell? (zA br (or'+i))=some (zL (some (zA bx ox)) cols ci)/\W.cell? (zA bx (ox+t))=some (Y x)
theorem NSc.keep{w:World}{cs:List Value}{f k g c j l i t b n pv x:Nat}{W m:World}(h:NSc w cs f k g c j l i t b n pv x W)(d:Below W.heap.size W m):NSc w cs f k g c j l i t b n pv x m:=
 ⟨h.1.grow d,(d.cell (p:=(zA f (k+i))) (World.block_lt_of_cell? W _ h.2.1)).trans h.2.1,(d.cell (p:=(zA g (c+i))) (World.block_lt_of_cell? W _ h.2.2.1)).trans h.2.2.1,(d.cell (p:=(zA j (l+t))) (World.block_lt_of_cell? W _ h.2.2.2)).trans h.2.2.2⟩
def NullPost(w:World)(q cols:Nat)(e:Ending)(w':World):Prop:=
 (∃(A':Option Addr)(R:List (List Nat))(ck:Nat),e=.returned (zL A' R.length ck)/\RowsAt w' w'.heap.size A' (nzs R)/\Grid q R.length cols R/\R.length<=256)/\Below w.heap.size w w'
theorem rnull_c(p m:Nat)(md:List Nat)(A:Option Addr)(n cA:Nat)(rows:List (List Nat))(A2:Option Addr)(c2 dy:Nat)(w:World)(hR:RFld p m md A n w.heap.size w)(hf:∃ l,FT p m md l)(dz:Grid (p ^ m) rows.length dy rows)(hA:RowsAt w w.heap.size A2 (nzs rows))(h1:1<=dy)(hc:dy<=256)(hn:rows.length<=256):
 zC 93 #[Ch p m A n cA,zL A2 rows.length c2,Y dy] w (NullPost w (p^m) dy):=by
 have HX:=zH (bx_new w (Ci p m A n cA) 29);have HE:=zH (qeI hR hf);have dt:1<p^m:=by have h1:=hR.small.p1;have h2:=hR.small.m1;exact Nat.one_lt_pow U0 U0
 have S:Hid (∀(R:List (List Nat))(A2:Option Addr)(c2:Nat)(W:World),Below w.heap.size w W->Grid (p^m) R.length dy R->RowsAt W W.heap.size A2 (nzs R)->R.length<=256->zC 37 #[Ch p m A n cA,zL A2 R.length c2,Y dy] W fun e w'=>(∃(A':Option Addr)(ck:Nat)(VA:Option Addr)(c3:Nat),e=.returned (.tuple #[zL A' (canonM (refOps p m md) R dy).length ck,zL VA (elGo (refOps p m md) R dy).piv.length c3])/\RowsUp w' W.heap.size A' (nzs (canonM (refOps p m md) R dy))/\IntsAt w' w'.heap.size VA (nz (elGo (refOps p m md) R dy).piv))/\Below W.heap.size W w'):=fun R A2 c2 W P Z hra hl=>
  rcanon_c p m md A n cA R A2 c2 dy W ((hR.keep P).more P.size) hf Z hra h1 hc hl
 have ad:Hid (∀(x:Nat)(W:World),x<p^m->zC 150 #[Ch p m A n cA,Y x] W fun e w'=>e=.returned (Y (((refOps p m md).neg x:Nat):Int))/\Below W.heap.size W w'):=fun x W hx=>rneg_c p m A n cA x W hR.small hx;have T:Hid (∀R:List (List Nat),Grid (p^m) R.length dy R->Grid (p^m) (canonM (refOps p m md) R dy).length dy (canonM (refOps p m md) R dy)):=fun R Z=>by rw[canonM_len];exact canon_grid HE.out Z
 have Q:Hid (∀R:List (List Nat),(canonM (refOps p m md) R dy).length=(elGo (refOps p m md) R dy).piv.length/\(elGo (refOps p m md) R dy).piv.length<=R.length):=fun R=>⟨canonM_len _ _ _,(elGo_piv (O:=refOps p m md) R dy).2⟩;have bf:Hid (∀i,i<(elGo (refOps p m md) rows dy).piv.length->(elGo (refOps p m md) rows dy).piv.getD i 0<dy):=fun i hi=>by
  have:∀(l:List Nat)(hj:i<l.length),l.getD i 0=l[i]:=fun l hj=>by simp[List.getD,hj]
  rw[this _ hi];exact elGo_piv_lt _ _ _ _ (List.getElem_mem _)
 obtain⟨i0,hi,cf,cg,ch⟩:=qaF infoInt;obtain⟨dg,b7,ae,af,ag⟩:=qaF infoInts;have HI:=zH hi;have bu:=zH cf;have bw:=zH cg;have ct:=zH b7;have bv:=zH ae;have bz:=zH af;have b0:=zH ag;have a1:=zH (show i0.bytes*dy<=281474976710656 by rw[ch];omega);have a2:=zH (show dy<=maxLen by unfold maxLen;omega);have aj:=zH dz;have HA:=zH hA;clear hi cf cg ch b7 ae af ag hR hf dz hA;generalize refOps p m md=O at *;generalize p^m=q at *;go_enter Tryz.func93,Tryz.ntmps93;go_upto_region 1 with fail;generalize w.alloc (Ce p m A n cA)=W0 at *;have V:=zH HX.out.range;have a5:=zH (S.out rows A2 c2 W0 HX.out.below aj.out ((HA.out.keep HX.out.below).more HX.out.below.size) hn);obtain⟨b3,dr⟩:=Q.out rows;have cm:=zH (T.out rows aj.out);clear HA aj;generalize (elGo O rows dy).piv=ac at *;generalize canonM O rows dy=cr at *;go_wp2_with (refine wpList_load_mid rfl 29 (.tmp 3) rfl w.heap.size 0 rfl (Ci p m A n cA) _ V.out Tryz.underlying29 rfl fieldSize ?_);(with_reducible refine a5.out.mono ?_);rintro e w1 ⟨⟨A',ck,VA,c3,rfl,hra,hia⟩,hb1⟩;have bt:=zH (HX.out.grow hb1);have bi:=zH hra.rowsAt;have ak:=zH hia;clear hb1 hra hia a5 HX V;clear W0;have ds:ac.length<=256:=U0;generalize b9:ac.length=D at *;go_wp2_with (refine wpList_make_full w1 rfl (.tmp 23) (.tmp 23) 23 rfl w1.heap.size 3 i0 (Y 0) 1 Tryz.underlying23 HI.out bu.out bw.out .i64 .i64 dy dy dy rfl rfl rfl rfl a1.out a2.out (Nat.le_refl _) ?_;intro w2 f s);have bn:Hid (RelN1 w1 dy (Y ((0:Nat):Int)) w2):=⟨0,nz (List.replicate dy 0),Nat.zero_le _,rfl,by have:=Row.of_make f;exact this,by rw[qaA];simp,qaL s⟩;clear f s;go_wp2_with fail;go_loopw [10] (fun v10 wr=>RelN1 w1 dy v10 wr) (fun v10 _=>dy-(intOf v10).toNat);case atStart=>exact bn.out
 case round =>
  obtain⟨k,zs,hk,rfl,b,N,C⟩:=hrel;have J:=zH b;have o:=zH C;clear b C bn;by_cases ab:k<dy
  . (have k0 : (0 : Int)<=(k : Int):=by omega);have k1:(k:Int)<(dy:Int):=U0;have az:IntKind.i64.wrap ((k:Int)+1)=(k:Int)+1:=IntWalk.i64_in _ U0;have f0:=J.out.frozen k;have y0:=J.out.cell (j:=k) U0;have al:=zH (J.out.set k (-1));have ah:=zH (o.out.setCell (p:=(zA w1.heap.size k)) (Nat.le_refl _) (Y (-1)));go_wp2_with fail;go_roundw;case rel=>exact⟨k+1,zs.set k (-1),U0,gn,al.out,by rw[List.length_set];exact N,ah.out⟩
    case measure=>exact mE
  . (have k1 : ¬ (k : Int) < (dy : Int) := by omega);have bo:Hid (RelN2 w1 dy D (Y ((0:Nat):Int)) wr):=⟨0,zs,Nat.zero_le _,rfl,J.out,N,o.out⟩;clear J o N;obtain rfl:dy=k:=U0;clear hk k1 ab;clear zs;obtain ⟨dx,rfl⟩:∃ w',w'=wr:=⟨_,rfl⟩;go_wp2_with fail;go_loopw [11] (fun v11 wr=>RelN2 w1 dy D v11 wr) (fun v11 _=>D-(intOf v11).toNat);case atStart=>exact bo.out
    case round =>
     obtain⟨k,zs,hk,rfl,b,N,C⟩:=hrel;have J:=zH b;have o:=zH C;clear b C bo;by_cases ab:k<D
     . obtain⟨bp,op,rfl,c8,L⟩:=(ak.out.keep o.out).at_ (k:=k) (by rw[qaA,b9];exact ab);rw[qaC] at L;have de:=bf.out k ab;generalize ac.getD k 0=g at *;have k0:(0:Int)<=(k:Int):=U0;have k1:(k:Int)<(D:Int):=U0;have p0:(0:Int)<=(g:Int):=U0;have p1:(g:Int)<(dy:Int):=U0;have az:IntKind.i64.wrap ((k:Int)+1)=(k:Int)+1:=IntWalk.i64_in _ U0;have f0:=J.out.frozen g;have y0:=J.out.cell (j:=g) U0;have al:=zH (J.out.set g (k:Int));have ah:=zH (o.out.setCell (p:=(zA w1.heap.size g)) (Nat.le_refl _) (Y (k:Int)));go_wp2_with fail;go_roundw;case rel=>exact⟨k+1,zs.set g (k:Int),U0,gn,al.out,by rw[List.length_set];exact N,ah.out⟩
       case measure=>exact mE
     . (have k1 : ¬ (k : Int) < (D : Int) := by omega);obtain ⟨w3,rfl⟩:∃ w',w'=wr:=⟨_,rfl⟩;have ap:=zH (bt.out.grow o.out);have bj:=zH ((bi.out.keep o.out).more o.out.size);have a8:=zH ((ak.out.keep o.out).more o.out.size);have da:=J.out.lt.2;have a9:Hid (RelN3 w3 q dy (zL none 0 0) (Y ((0:Nat):Int)) w3):=⟨0,[],[],U0,rfl,⟨rfl,Nat.zero_le _,World.ownsRow_nil _ _ _ _,fun i hi=>by simp at hi,fun i hi=>by simp at hi⟩,Nat.zero_le _,fun r hr=>by simp at hr,Below.refl _ _⟩;clear bt bi ak o;go_wp2_with fail;generalize w1.heap.size=g1 at *;go_loopw [12,13] (fun v12 v13 wr=>RelN3 w3 q dy v12 v13 wr) (fun _ v13 _=>dy-(intOf v13).toNat);case atStart=>exact a9.out
       case round =>
        obtain⟨t,R,bs,ht,rfl,aw,du,cd,C⟩:=hrel;obtain⟨VO,co,rfl,_⟩:=own_slice' aw.out;have I:=zH aw;have o:=zH C;have ao:=zH cd;have ce:=C.size;clear aw C cd a9;obtain⟨c,rfl⟩:∃w',w'=wr:=⟨_,rfl⟩;by_cases v:t<dy
        . (have t0 : (0 : Int) <= (t : Int) := by omega);have t1:(t:Int)<(dy:Int):=U0;have az:IntKind.i64.wrap ((t:Int)+1)=(t:Int)+1:=IntWalk.i64_in _ U0;have y0:c.cell? (zA g1 t)=some (Y (zs.getD t 0)):=(o.out.cell (p:=(zA g1 t)) da).trans (J.out.cell U0);generalize zs.getD t 0=z at *;by_cases hz:0<=z
          . go_wp2_with fail;go_roundw;case rel=>exact⟨t+1,R,bs,U0,gn,I.out,U0,ao.out,o.out⟩
            case measure=>exact mE
          . go_upto_region 16 with fail;go_wp2_with (refine wpList_make_full c rfl (.tmp 56) (.tmp 56) 23 rfl c.heap.size 3 i0 (Y 0) 1 Tryz.underlying23 HI.out bu.out bw.out .i64 .i64 dy dy dy rfl rfl rfl rfl a1.out a2.out (Nat.le_refl _) ?_;intro w5 f s;have r0:w5.cell? (zA c.heap.size t)=some (Y 0):=(by have h:=(Row.of_make f).cell (j:=t) (by rw [qaA,List.length_replicate];exact v);rw [qaC,show (List.replicate dy 0).getD t 0=0 from by simp [List.getD,v]] at h;exact h);have rf:=(Row.of_make f).frozen t);(have bg:Hid (Row w5 c.heap.size c.heap.size dy (nz (List.replicate dy 0))):=by have:=Row.of_make f;exact this);have a3:Hid (Below c.heap.size c w5):=qaL s;have a7:Hid (RelN4 c q dy D (Y ((0:Nat):Int)) (w5.setCell (zA c.heap.size t) (Y 1))):=by
             refine⟨0,(List.replicate dy 0).set t 1,U0,rfl,?_,U2,?_,a3.out.setCell (p:=(zA c.heap.size t)) (Nat.le_refl _) _⟩
             . have:=bg.out.set t 1;rw[show(1:Int)=((1:Nat):Int) from rfl,qbC] at this;exact this
             . intro x hx;rcases List.mem_or_eq_of_mem_set hx with h|h
               . rw[List.mem_replicate] at h;omega
               . omega
            clear f s bg a3;generalize w5.setCell (zA c.heap.size t) (Y 1)=W6 at *;clear r0 rf y0;go_loopw [15] (fun v15 wr=>RelN4 c q dy D v15 wr) (fun v15 _=>D-(intOf v15).toNat);case atStart=>exact a7.out
            case round =>
             obtain⟨i,l,hi,rfl,b,ax,b8,C⟩:=hrel;have K:=zH b;have E:=zH C;have bb:=zH b8;have dj:=C.size;clear b C b8 a7;have B:=zH (o.out.trans (E.out.mono ce));by_cases aa:i<D
             . obtain ⟨bp,op,rfl,c8,L⟩ := (a8.out.keep B.out).at_ (k := i) (by rw [qaA,b9];exact aa);rw [qaC] at L;obtain ⟨br,cj,Ai,ci,e,dm,X,ay⟩:=(bj.out.keep B.out).at_ (i:=i) (by rw [nzs_len,b3];exact aa);subst e;rw [nzs_getD] at X ay;have Z:=cm.out.row (i:=i) (by rw [b3];exact aa);rw [qaA,Z.1] at X;obtain ⟨bx,ox,rfl,dn,ar⟩:=ay.at_ (k:=t) (by rw [qaA,Z.1];exact v);rw [qaC] at ar;(have a0:(cr.getD i []).getD t 0<q:=by (have:∀ (l:List Nat) (hj:t<l.length),l.getD t 0=l[t]:=fun l hj=>by simp [List.getD,hj]);rw [this _ (by rw [Z.1];exact v)];exact Z.2 _ (List.getElem_mem _));have de:=bf.out i aa;have dd:=(HE.out.neg _ a0).2;have bd:Hid (∀ W,zC 150 #[Ch p m A n cA,Y (((cr.getD i []).getD t 0:Nat):Int)] W fun e w'=>e=.returned (Y ((O.neg ((cr.getD i []).getD t 0):Nat):Int))/\Below W.heap.size W w'):=fun W=>ad.out _ W a0;have dv:(0:Int)<=(i:Int):=U0;have dh:(i:Int)<(D:Int):=U0;have dw:(i:Int)<(cr.length:Int):=U0;clear ay Z a0;generalize O.neg ((cr.getD i []).getD t 0)=y at *;generalize (cr.getD i []).getD t 0=x at *;generalize ac.getD i 0=g at *;have p0:(0:Int)<=(g:Int):=U0;have p1:(g:Int)<(dy:Int):=U0;have az:IntKind.i64.wrap ((i:Int)+1)=(i:Int)+1:=IntWalk.i64_in _ U0;have HS:Hid (NSc w (Ci p m A n cA) bp op br cj bx ox i t dy ci g x wr.drew):=⟨(ap.out.grow B.out).grow (Below.refl _ _).drew,L,X,ar⟩;have an:=zH (K.out.below (Below.refl _ wr).drew K.out.lt.2);have H:=zH (E.out.drew);clear K E B ad HE S T Q L X ar;go_upto_region 21 with fail;refine qaS 14 14 (NSc w (Ci p m A n cA) bp op br cj bx ox i t dy ci g x) [(1,0),(1,1),(1,2),(1,3),(0,4),(0,5),(1,6),(1,7),(1,8),(0,9),(1,10),(1,11),(0,12),(2,13)] default U1 U1 (fun _ _ d _ _ h=>by cases d <;> exact h) HS.out ?_;generalize wr.drew=Wd at *;simp only [List.map_cons,List.map_nil,List.getD_cons_zero,List.getD_cons_succ]
               iterate 4
                apply qaM rfl
                . intro W
                  go_simp
                  rfl
                go_simp
               apply qbF rfl
               . intro W P;have z0:=P.2.1;go_simp;rfl
               go_simp;refine qaT rfl 29 (.tmp 3) rfl w.heap.size 0 rfl (Ci p m A n cA) _ (fun W P=>P.1.range) Tryz.underlying29 rfl fieldSize ?_;go_simp
               iterate 3
                apply qaM rfl
                . intro W
                  go_simp
                  rfl
                go_simp
               apply qbF rfl
               . intro W P;have z0:=P.2.2.1;go_simp;rfl
               go_simp
               iterate 2
                apply qaM rfl
                . intro W
                  go_simp
                  rfl
                go_simp
               apply qbF rfl
               . intro W P;have z0:=P.2.2.2;go_simp;rfl
               go_simp;apply qbE rfl
               . go_simp;exact⟨rfl,rfl⟩
               (with_reducible refine(bd.out Wd).mono ?_);rintro e w7 ⟨rfl,hb7⟩;have bq:=zH (HS.out.keep hb7);have U:=zH (an.out.below hb7 an.out.lt.2);have a4:=zH (H.out.trans (hb7.mono H.out.size));refine⟨_,rfl,bq.out,?_⟩;go_simp;refine qbH ?_;show wpList _ _ _ _ _ _;go_simp;have f0:=U.out.frozen g;have y0:=U.out.cell (j:=g) (by rw[qaA];omega);have bh:=zH (U.out.set g (y:Int));rw[qbC] at bh;have cl:=zH (a4.out.setCell (p:=(zA c.heap.size g)) (Nat.le_refl _) (Y (y:Int)));have cw:Hid (∀z∈l.set g y,z<q):=fun z hz=>(List.mem_or_eq_of_mem_set hz).elim (bb.out z) (fun h=>h ▸ dd);clear hb7 HS an H bd U a4 bq;go_wp2_with fail;go_roundw;case rel=>exact⟨i+1,l.set g y,U0,gn,bh.out,by rw[List.length_set];exact ax,cw.out,cl.out⟩
               case measure=>exact mE
             . (have dh : ¬ (i : Int) < (D : Int) := by omega);have cy:Hid (RowsOk q dy (R++[l])):=fun r hr=>by
                rcases List.mem_append.1 hr with h|h
                . exact ao.out r h
                . rw[List.mem_singleton] at h;subst h;exact⟨ax,bb.out⟩
               have b6:(R++[l]).getD R.length []=l:=getD_snoc_eq R l [];have bc:=zH (I.out.wide l);(have be:Hid ((wr.alloc (.cells #[zS c.heap.size dy dy] 23)).ownsRow w3.heap.size 23 1 (zL VO R.length co) R.length ((List.range R.length).map (hdr (R++[l]) bs))):=by have db:=(bc.out.grow E.out).out;exact World.ownsRow.alloc db _);have di:=B.out.size;(have cx:Hid (Row wr c.heap.size c.heap.size dy (nz ((R++[l]).getD R.length []))):=by show Row _ _ _ _ _;rw[b6];exact K.out);have b1:R.length<256:=U0;clear K;go_wp2_with (at_builtin;refine wpList_append_own_at _ rfl (.tmp 82) (.tmp 84) 30 rfl w3.heap.size 23 dg _ 1 24 Tryz.underlying30 ct.out bv.out bz.out b0.out rfl dc (zL VO R.length co) R.length ((List.range R.length).map (hdr (R++[l]) bs)) rfl be.out (zA wr.heap.size 0) 1 1 [zS c.heap.size dy dy] rfl rfl ?c1 ?c2 ?c3 ?c4 ?c5 ?_);(try case c1=>exact World.news_of_block (cs:=#[zS c.heap.size dy dy]) (t:=23) (fr:=(0,0)) (heap_alloc_new wr _));case c2=>first|rfl|(intro u hu;simp at hu;subst hu;rfl)
               case c3=>unfold maxLen;omega
               case c4=>omega
               case c5=>first|omega|(simp;omega)|assumption
               intro v' w7 M au _ b2;have cz:Hid (LGrid w7 w3.heap.size v' (R++[l]) (bs++[(c.heap.size,dy)]) (R.length+1)):=bc.out.step U2 ce E.out cx.out (by rw[b6,ax];exact M) au (by simpa using b2);have H:Hid (Below w3.heap.size w3 w7):=(B.out.alloc U0 _).grown au so (fun j hj=>(I.out.out.lt j hj).1);clear M au b2 be;go_wp2_with fail;go_roundw;case rel=>exact⟨t+1,R++[l],bs++[(c.heap.size,dy)],U0,gn,by rw[List.length_append];exact cz.out,by rw[List.length_append];simp;omega,cy.out,H.out⟩
               case measure=>exact mE
        . (obtain rfl:t=dy:=by omega);have b1:R.length<=256:=U0;have ba:Hid (RowsAt c c.heap.size VO (nzs R)):=I.out.up.rowsAt;have ai:Hid (Grid q R.length t R):=⟨rfl,ao.out⟩;have aq:=zH (ap.out.grow o.out);have a6:=zH (S.out R VO co c aq.out.below ai.out ba.out b1);have cq:=zH (T.out R ai.out);obtain⟨dp,dq⟩:=Q.out R;have av:(canonM O R t).length<=256:=U0;(have cn:Hid ((elGo O R t).piv.length=(canonM O R t).length):=by show _=_;omega);have V:=zH aq.out.range;clear ba I ai S T Q ap;generalize (elGo O R t).piv=dl at *;generalize canonM O R t=c7 at *;go_wp2_with (refine wpList_load_mid rfl 29 (.tmp 3) rfl w.heap.size 0 rfl (Ci p m A n cA) _ V.out Tryz.underlying29 rfl fieldSize ?_);(with_reducible refine a6.out.mono ?_);rintro e w8 ⟨⟨A9,ck9,VA9,c9,rfl,hra9,_⟩,hb8⟩;have c6:=zH (aq.out.grow hb8);have bm:=zH hra9.rowsAt;clear hb8 hra9 a6;go_wp2_with fail;go_ret;exact⟨⟨A9,c7,ck9,by rw[<- cn.out];rfl,bm.out,cq.out,av⟩,c6.out.below⟩
end Go.Proofs.YtndipkplnkfoeaaGreat
