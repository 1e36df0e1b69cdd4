/- Parts of the proof. -/
import Derived.Test.YtocbdafcolbfeaaGreatR16
set_option maxRecDepth 100000
set_option maxHeartbeats 8000000
namespace Go.Proofs.YtocbdafcolbfeaaGreat
open Go.RowKit Pln Tryz
theorem inV_nat{p m:Nat}{md:LN}{A:OA}{n cols:Nat}{rows:LL}{f:OA}{w:Wo}(h:RCode p m md A n cols rows f w)(x:Int):∃y:Nat,inV p m x=(y:Int)/\y<p^m:=by
 have d:=h.fld.small.q;have c:=qbX h.fld.small.p1 h.fld.small.p2 h.fld.small.m1 h.fld.small.m2;rw[if_neg U0] at c;obtain⟨q2,_⟩:=h.q2;unfold inV;rw[c];generalize p^m=q at *;by_cases b:inB (q:Int) x=true
 . rw[if_pos b];unfold inB at b;rw[Bool.and_eq_true,decide_eq_true_eq,decide_eq_true_eq] at b;exact⟨x.toNat,U0,U0⟩
 . rw[if_neg b];exact⟨0,rfl,U0⟩
def RelOf(w:Wo)(cs:List Value)(g k q:Nat)(v6:Value)(wr:Wo):Prop:=
 ∃(i:Nat)(l:LN),i<=k/\v6=Y i/\BX w cs 32 wr/\Row wr (w.heap.size+1) g k (nz l)/\l.length=k/\∀x∈l,x<q
def OSc(w:Wo)(cs:List Value)(bz oz i:Nat)(x:Int)(W:Wo):Prop:=BX w cs 32 W/\W.cell? (zA bz (oz+i))=some (Y x)
theorem rof_c{p m:Nat}{md:LN}{A:OA}{n cols:Nat}{rows:LL}{Ah:OA}{w:Wo}(h:RCode p m md A n cols rows Ah w)(c ch:Nat)(zs:LI)(Az:OA)(cz:Nat)(hz:zI w Az zs)(ay:zs.length<=9223372036854775807):
 zC 12 #[C8 p m A n c cols Ah rows.length ch,zL Az zs.length cz] w fun e w'=>(∃(g:Nat)(msg:LN),e=.returned (zS g cols cols)/\msg.length=rows.length/\(∀x∈msg,x<p^m)/\Row w' w.heap.size g cols (nz (cwO p m md cols rows msg))/\(cwO p m md cols rows msg).length=cols)/\zB w w':=by
 have b:=zH (bx_new w (C2 p m A n c cols Ah rows.length ch) 32);have v:=zH<|inV_nat h
 have C:=zH<|fun x W=>rinG_c p m A n c x W
 have HZ:=zH hz;have aq:=h.len;obtain⟨q2,q3⟩:=h.q2
 have O:zK (∀(msg:LN)(g:Nat)(W:Wo),zB w W->Row W (w.heap.size+1) g rows.length (nz msg)->(∀x∈msg,x<p^m)->msg.length=rows.length->zC 23 #[C7 p m A n c,zS g rows.length rows.length,zL Ah rows.length ch,Y cols] W fun e w'=>(∃g,e=.returned (zS g cols cols)/\Row w' W.heap.size g cols (nz (cwO p m md cols rows msg))/\(cwO p m md cols rows msg).length=cols/\∀x∈cwO p m md cols rows msg,x<p^m)/\zB W w'):=fun msg g W X hr hm hl=>
  (h.lift X).comb msg _ c _ ch (row_ints hr) hm hl
 obtain⟨i0,ac,af,ag,ah⟩:=qaF infoInt;have HI:=zH ac;have U:=zH af;have V:=zH ag;have N:=zH (show i0.bytes*rows.length<=281474976710656 by rw[ah];omega);have f:=zH (show rows.length<=maxLen by unfold maxLen;omega);clear h hz ac af ag ah;generalize cwO p m md cols rows=cw at *;generalize p^m=q at *;generalize rows.length=k at *;generalize inV (p:Int) (m:Int)=iv at *;go_enter func12,ntmps12;go_upto_region 1 with fail;have u:w.heap.size+1<=(w.alloc (C4 p m A n c cols Ah k ch)).heap.size:=U2;generalize w.alloc (C4 p m A n c cols Ah k ch)=M at *;have c4:M.cell? (zA w.heap.size 4)=some (zL Ah k ch):=b.o.cell rfl;go_wp2_with (refine wpList_make_full M rfl (.tmp 9) (.tmp 9) 23 rfl (w.heap.size+1) 3 i0 (Y 0) 1 underlying23 HI.o U.o V.o .i64 .i64 k k k rfl rfl rfl rfl N.o f.o u ?_;intro w1 D ab);have Z:=qaL ab;have ae:=Row.of_make D;have S:zK (RelOf w (C2 p m A n c cols Ah k ch) M.heap.size k q (Y ((0:Nat):Int)) w1):=⟨0,List.replicate k 0,Nat.zero_le _,rfl,b.o.grow Z,ae,U2,fun x hx=>by rw[List.mem_replicate] at hx;omega⟩;clear D ab Z ae b HI U V N f c4;have ai:zK (w.heap.size<M.heap.size):=u;clear u;generalize M.heap.size=go at *;clear M;go_wp2;go_loopw [6] (fun v6 wr=>RelOf w (C2 p m A n c cols Ah k ch) go k q v6 wr) (fun v6 _=>k-(intOf v6).toNat);case atStart=>exact S.o
 case round =>
  obtain⟨i,l,au,rfl,hx,E,t,ad⟩:=hrel;have b:=zH hx;have B:=zH E;have s:=zH ad;clear hx E ad S;by_cases av:i<k
  . (have k0 : (0 : Int) <= (i : Int) := by omega);have k1:(i:Int)<(k:Int):=U0;by_cases ao:i<zs.length
    . (have k2 : (i : Int) < (zs.length : Int) := by omega);have aw:IntKind.i64.wrap ((i:Int)+1)=(i:Int)+1:=IntWalk.i64_in _ U0;obtain ⟨bz,oz,rfl,ar,an⟩:=(HZ.o.keep b.o.below).at_ (k:=i) ao;generalize zs.getD i 0=x at *;obtain ⟨y,hy,ap⟩:=v.o x;(have P:zK (∀ W:Wo,zC 22 #[C7 p m A n c,Y x] W fun e w'=>e=.returned (Y (y:Int))/\zB W w'):=fun W=>by rw [<- hy];exact C.o x W);clear hy C v O;generalize zs.length=ax at *;have R:zK (OSc w (C2 p m A n c cols Ah k ch) bz oz i x wr.drew):=⟨b.o.grow zV.drew,an⟩;have I:=zH (B.o.below (Below.refl _ wr).drew B.o.lt.2);go_upto_region 5 with fail;refine qaS 9 9 (OSc w (C2 p m A n c cols Ah k ch) bz oz i x) [(1,0),(1,1),(1,2),(0,3),(1,4),(1,5),(1,6),(0,7),(2,8)] default U1 U1 (fun _ _ d _ _ h=>by cases d <;> exact h) R.o ?_;generalize wr.drew=Wd at *;simp only [List.map_cons,List.map_nil,List.getD_cons_zero,List.getD_cons_succ]
      iterate 3
       apply qaM rfl
       . intro W
         go_simp
         rfl
       go_simp
      refine qaT rfl 29 (.tmp 25) rfl w.heap.size 0 rfl (C5 p m A n c) _ (fun W X=>X.1.field) underlying29 rfl fieldSize ?_;go_simp
      iterate 3
       apply qaM rfl
       . intro W
         go_simp
         rfl
       go_simp
      apply qbF rfl
      . intro W X;have z0:=X.2;go_simp;rfl
      go_simp;apply qbE rfl
      . go_simp;exact⟨rfl,rfl⟩
      (with_reducible refine(P.o Wd).mono ?_);rintro e w2 ⟨rfl,hb2⟩;have T:=zH (R.o.1.grow hb2);have J:=zH (I.o.below hb2 I.o.lt.2);have aa:=(hb2.cell (p:=(zA bz (oz+i))) (World.block_lt_of_cell? Wd _ R.o.2)).trans R.o.2;refine⟨_,rfl,⟨T.o,aa⟩,?_⟩;go_simp;refine qbH ?_;show wpList _ _ _ _ _ _;go_simp;have f0:=J.o.frozen i;have c0:=J.o.cell (j:=i) (by rw[qaA];omega);have Q:=zH (J.o.set i (y:Int));rw[qbC] at Q;have al:=zH (T.o.wrote (k:=i) ai.o (Y (y:Int)));have aj:zK (∀z∈l.set i y,z<q):=fun z hz=>(List.mem_or_eq_of_mem_set hz).elim (s.o z) (fun h=>h ▸ ap);clear hb2 aa R I P B b;go_wp2;go_roundw;case rel=>exact⟨i+1,l.set i y,U0,gn,al.o,Q.o,by rw[List.length_set];exact t,aj.o⟩
      case measure=>simp[intOf];omega
    . (have k2:¬(i:Int)<(zs.length:Int):=by omega);have K:=zH b.o.field;have c3:wr.cell? (zA w.heap.size 3)=some (Y (cols:Int)):=b.o.cell rfl;have c4:wr.cell? (zA w.heap.size 4)=some (zL Ah k ch):=b.o.cell rfl;have r:=zH (O.o l go wr b.o.below B.o s.o t);have ak:=zH (B.o.lt);clear O B v C HZ;go_wp2_with (refine wpList_load_mid rfl 29 (.tmp 33) rfl w.heap.size 0 rfl (C5 p m A n c) _ K.o underlying29 rfl fieldSize ?_);refine r.o.mono ?_;rintro e w3 ⟨⟨g3,rfl,hr3,hl3,_⟩,hb3⟩;have f:=zH (b.o.below.trans (hb3.mono b.o.below.size));have L:=zH (hr3.base (Nat.le_trans b.o.below.size hr3.lt.1));have H:=zH hl3;clear hb3 hr3 hl3 r;go_wp2;go_ret;exact⟨⟨g3,l,rfl,t,s.o,L.o,H.o⟩,f.o⟩
  . (have k1:¬(i:Int)<(k:Int):=by omega);have K:=zH b.o.field;have c3:wr.cell? (zA w.heap.size 3)=some (Y (cols:Int)):=b.o.cell rfl;have c4:wr.cell? (zA w.heap.size 4)=some (zL Ah k ch):=b.o.cell rfl;have r:=zH (O.o l go wr b.o.below B.o s.o t);have ak:=zH (B.o.lt);clear O B v C HZ;go_wp2_with (refine wpList_load_mid rfl 29 (.tmp 33) rfl w.heap.size 0 rfl (C5 p m A n c) _ K.o underlying29 rfl fieldSize ?_);refine r.o.mono ?_;rintro e w3 ⟨⟨g3,rfl,hr3,hl3,_⟩,hb3⟩;have f:=zH (b.o.below.trans (hb3.mono b.o.below.size));have L:=zH (hr3.base (Nat.le_trans b.o.below.size hr3.lt.1));have H:=zH hl3;clear hb3 hr3 hl3 r;go_wp2;go_ret;exact⟨⟨g3,l,rfl,t,s.o,L.o,H.o⟩,f.o⟩
def wtAt(p m:Nat)(md:LN)(cols:Nat)(rows:LL)(i:Nat):Nat:=Dv.wt (cwO p m md cols rows (Dv.digsBE (p^m) rows.length i))
def RelLe(w:Wo)(cs:List Value)(f:Nat->Nat)(nn N:Nat)(v5 v6:Value)(wr:Wo):Prop:=
 ∃(i out:Nat),1<=i/\(i<=nn\/i=1)/\v6=Y i/\v5=Y out/\out<=N/\Dv.leastGo f (nn-i) i out=Dv.leastGo f (nn-1) 1 N/\BX w cs 32 wr
theorem least_step{f:Nat->Nat}{b i c r:Nat}(d:i<b)(h:Dv.leastGo f (b-i) i c=r):Dv.leastGo f (b-(i+1)) (i+1) (min c (f i))=r:=by have e:b-i=(b-(i+1))+1:=U0;rw[e] at h;exact h
theorem least_c{p m:Nat}{md:LN}{A:OA}{n cols:Nat}{rows:LL}{Ah:OA}{w:Wo}(h:RCode p m md A n cols rows Ah w)(c ch nn:Nat)(aa:nn<=65536):
 zC 21 #[C8 p m A n c cols Ah rows.length ch,Y nn] w fun e w'=>e=.returned (Y ((Dv.leastGo (wtAt p m md cols rows) (nn-1) 1 (cols+1):Nat):Int))/\zB w w':=by
 have H:=zH (bx_new w (C2 p m A n c cols Ah rows.length ch) 32);have Q:=h.n2;have C:zK (∀(i:Nat)(W:Wo),i<nn->zB w W->zC 40 #[C8 p m A n c cols Ah rows.length ch,Y i] W fun e w'=>(∃g,e=.returned (zS g cols cols)/\Row w' W.heap.size g cols (nz (cwO p m md cols rows (Dv.digsBE (p^m) rows.length i)))/\(cwO p m md cols rows (Dv.digsBE (p^m) rows.length i)).length=cols)/\zB W w'):=fun i W hi hW=>at_c (h.lift hW) c ch i U0;have E:zK (∀(i g:Nat)(W:Wo),(cwO p m md cols rows (Dv.digsBE (p^m) rows.length i)).length=cols->zI W (zO g) (nz (cwO p m md cols rows (Dv.digsBE (p^m) rows.length i)))->zC 11 #[zS g cols cols] W fun e w'=>e=.returned (Y ((wtAt p m md cols rows i:Nat):Int))/\W=w'):=fun i g W hl hi=>by have:=weight_c (cwO p m md cols rows (Dv.digsBE (p^m) rows.length i)) (zO g) cols W hi U0;rw[hl] at this;exact this
 have D:zK (∀i,(cwO p m md cols rows (Dv.digsBE (p^m) rows.length i)).length=cols->wtAt p m md cols rows i<=cols):=fun i hl=>by have:=rwt_le (cwO p m md cols rows (Dv.digsBE (p^m) rows.length i));rw[hl] at this;exact this
 clear h;generalize wtAt p m md cols rows=f at *;generalize (fun i=>cwO p m md cols rows (Dv.digsBE (p^m) rows.length i))=cw at *;generalize rows.length=k at *;go_enter func21,ntmps21;go_upto_region 1 with fail;generalize w.alloc (C4 p m A n c cols Ah k ch)=K at *;have P:K.cell? (zA w.heap.size 3)=some (Y (cols:Int)):=H.o.cell rfl;have J:IntKind.i64.wrap ((cols:Int)+1)=((cols+1:Nat):Int):=by rw[IntWalk.i64_in _ U0];rfl
 have u:zK (RelLe w (C2 p m A n c cols Ah k ch) f nn (cols+1) (Y ((cols+1:Nat):Int)) (Y 1) K):=⟨1,cols+1,Nat.le_refl _,.inr rfl,rfl,rfl,Nat.le_refl _,rfl,H.o⟩;go_wp2;go_loopw [5,6] (fun v5 v6 wr=>RelLe w (C2 p m A n c cols Ah k ch) f nn (cols+1) v5 v6 wr) (fun _ v6 _=>nn-(intOf v6).toNat);case atStart=>exact u.o
 case round =>
  obtain⟨i,b,T,U,rfl,rfl,B,y,N⟩:=hrel;have d:=zH N;have q:=zH y;clear N y u H J P;by_cases l:i<nn
  . (have Z : (i : Int) < (nn : Int) := by omega);have V:IntKind.i64.wrap ((i:Int)+1)=(i:Int)+1:=IntWalk.i64_in _ U0;have t:=zH d.o.range;have s:=zH (C.o i wr l d.o.below);have j:=zH (least_step l q.o);go_wp2_with (refine wpList_load_mid rfl 32 (.tmp 2) rfl w.heap.size 0 rfl (C2 p m A n c cols Ah k ch) _ t.o underlying32 rfl codeSize ?_);refine s.o.mono ?_;rintro e w3 ⟨⟨g3,rfl,hr3,hl3⟩,hb3⟩;have x:=zH (d.o.grow hb3);have v:=zH (E.o i g3 w3 hl3 (row_ints hr3));have S:=D.o i hl3;clear hb3 hr3 hl3 s t d;generalize R:f i=r at *;go_wp2_with fail;refine v.o.mono ?_;rintro e w4 ⟨rfl,rfl⟩;clear v;by_cases z:b<=r
    . rw[Nat.min_eq_left z] at j;have I:(b:Int)<=(r:Int):=U0;go_wp2;go_roundw;case rel=>exact⟨i+1,b,U0,.inl l,gn,rfl,B,j.o,x.o⟩
      case measure=>simp[intOf];omega
    . rw[Nat.min_eq_right U0] at j;have I:¬(b:Int)<=(r:Int):=U0;have L:(r:Int)<=(b:Int):=U0;have M:(r:Int)<(b:Int):=U0;go_wp2;go_roundw;case rel=>exact⟨i+1,r,U0,.inl l,gn,rfl,U0,j.o,x.o⟩
      case measure=>simp[intOf];omega
  . (have X:nn-i=0:=by omega);(have O:zK (b=Dv.leastGo f (nn-1) 1 (cols+1)):=by have:=q.o;rw[X] at this;exact this);have Z:¬(i:Int)<(nn:Int):=U0;clear q;go_wp2;go_ret;exact⟨qaG (by rw[O.o]),d.o.below⟩
theorem SB.code{w:Wo}{b:Nat}{d:StD}{g f q l o r s Ar t At:OA}{k i u ca cb cp v x c y:Nat}{W:Wo}(h:SB w b (stCells d g f q l o r s Ar t At k i u ca cb cp v x c y) W):W.rangeAt b 1 (C2 d.p d.m g d.mod.length k d.n f d.gen.length i):=
 h.sub 1 _ (fun j hj=>by rcases j with _|_|_|_|_|j<;>first|rfl|(simp at hj;omega))
theorem code_form{d:StD}(q:codeZ d.p d.m d.mod d.n d.gen=0):fieldOK d.p d.m d.mod=true/\1<=d.n/\d.n<=64/\nzs (natR d.gen)=d.gen/\Grid (d.p.toNat^d.m.toNat) (natR d.gen).length d.n.toNat (natR d.gen)/\d.gen.length<=256:=by
 obtain⟨g,b,c⟩:=codeZ_n q;have h:1<=d.n/\d.n<=64:=by
  unfold lengthZ at b;split at b
  . cases b
  . omega
 have f:errC d.p d.m d.mod d.n d.gen=0:=by
  unfold spZ at c;split at c
  . rename_i he;exact absurd c he
  . rename_i he;exact Classical.byContradiction he
 unfold errC at f;rw[if_pos g] at f;obtain⟨i,j,l,o,k⟩:=check_grid f;exact⟨g,h.1,h.2,i,j,k⟩
theorem code_nat{d:StD}{w:Wo}{s A:OA}(v:codeZ d.p d.m d.mod d.n d.gen=0)(u:zI w s d.mod)(t:zR w A d.gen):
 RCode d.p.toNat d.m.toNat (mdOf d.m d.mod) s d.mod.length d.n.toNat (natR d.gen) A w/\((d.p.toNat:Nat):Int)=d.p/\((d.m.toNat:Nat):Int)=d.m/\((d.n.toNat:Nat):Int)=d.n/\(natR d.gen).length=d.gen.length:=by
 obtain⟨b,q,r,l,k,g⟩:=code_form v;have o:shapeM d.p d.m d.mod=true:=by unfold fieldOK at b;rw[Bool.and_eq_true] at b;exact b.1
 have c:=qeU o;have j:=field_ft b;have h:(mdOf d.m d.mod).length=d.m.toNat:=by
  by_cases f:d.m=1
  . rw[f];simp[mdOf]
  . unfold mdOf;rw[if_neg f,List.length_map];exact c.len f
 have i:RFld d.p.toNat d.m.toNat (mdOf d.m d.mod) s d.mod.length w.heap.size w:=⟨c.small,h,c.lt,fun h2=>by
  have f:d.m≠1:=by intro e;rw[e] at h2;exact absurd h2 dc
  exact⟨c.len f,by rw[c.nat f];exact u⟩⟩
 exact⟨⟨i,⟨_,j⟩,by rw[l];exact t,k,U0,U0,by rw[natR_len];exact g⟩,c.p0,c.m0,U0,natR_len _⟩
section
variable {P:Program} {ops:Array Oper} {S:Wo->Prop}
theorem keep_gload_mid{Q:Act->Prop}{a:Act}{o:Oper}{rest:List Oper}(i:Region.wanted o (yielded ops a.tmps)=true)(f:TypeId)(x:Operand)(k:o.op=.load f x)(b c:Nat)(m:a.eval x=.pointer (some (zA b c)))(cs:List Value)(d:TypeDesc)(g:∀w,S w->w.rangeAt b c cs)(l:P.underlying f=some d)(hd:d.isRow=true)(j:(P.info? f).map (·.size)=some cs.length)(h:wpKeep P ops S Q rest (a.put o.dst (.agg cs.toArray))):wpKeep P ops S Q (o :: rest) a:=
 qbD i (fun W hW=>by
  unfold execOp
  simp only[k,m,Instr.loadAt,Instr.sureAddr,Sem.run_bind,Sem.run_pure,Result.andThen_ok,run_loadVar_mid W b c f cs d (g W hW) l hd j]) h
end
def TrueOk(d:StD):Prop:=d.low<=((Dv.leastGo (wtAt d.p.toNat d.m.toNat (mdOf d.m d.mod) d.n.toNat (natR d.gen)) ((d.p.toNat^d.m.toNat)^d.gen.length-1) 1 (d.n.toNat+1):Nat):Int)
theorem cn_exp{d:StD}(k:codeZ d.p d.m d.mod d.n d.gen=0):∃ nn:Nat,cnV d.p d.m d.mod d.n d.gen 1024=(nn:Int)/\nn<=1024/\(0<nn->nn=(d.p.toNat ^ d.m.toNat) ^ d.gen.length):=by
 have i:szE d.p d.m d.mod d.n d.gen=expE (d.p.toNat^d.m.toNat) d.gen.length:=by unfold szE;rw[if_neg (fun h=>h k)]
 have j:szV d.p d.m d.mod d.n d.gen=expV (d.p.toNat^d.m.toNat) d.gen.length:=by unfold szV;rw[if_neg (fun h=>h k)]
 unfold cnV;rw[i,j];generalize d.p.toNat^d.m.toNat=q;by_cases c:expE q d.gen.length≠0\/1024<expV q d.gen.length
 . rw[if_pos c];exact⟨0,rfl,U0,U0⟩
 . rw[if_neg c];have f:¬expE q d.gen.length≠0:=fun h=>c (.inl h);have g:¬1024<expV q d.gen.length:=fun h=>c (.inr h);unfold expE at f;by_cases b:q^d.gen.length<=65536
   . unfold expV at g ⊢;rw[if_pos b] at g ⊢;exact⟨q^d.gen.length,rfl,U0,fun _=>rfl⟩
   . rw[if_neg b] at f;exact absurd (show(8:Int)≠0 by decide) f
theorem true_c(d:StD)(cs:List Value)(w:Wo)(h:StC w w.heap.size d cs)(hk:d.ok)(hz:codeZ d.p d.m d.mod d.n d.gen=0):
 zC 10 #[.agg cs.toArray] w fun e w'=>∃b,e=.returned (.bool b)/\zB w w'/\(b=true->TrueOk d):=by
 obtain⟨q,l,B,z,A,C,D,Ar,E,At,j,i,I,ca,cb,cp,J,K,k,L,rfl,_,S,T,h3,h4,h5⟩:=h;have H:=zH (sb_new w (stCells d q l B z A C D Ar E At j i I ca cb cp J K k L));have O:=zH S;have M:=zH T;obtain⟨k1,k2,_⟩:=hk;have e:maxLen=9223372036854775807:=rfl;have aa:=(code_form hz).2.2.2.2.2
 have N:=zH<|fun W hW=>
  count_c d.p d.m d.mod q j d.n d.gen l i 1024 W ((O.o.keep hW).more hW.size) U0 ((M.o.keep hW).more hW.size) U0
 have R:zK (∀(f:Nat)(W:Wo),f<=65536->zB w W->zC 21 #[C8 d.p d.m q d.mod.length j d.n l d.gen.length i,Y f] W fun e w'=>e=.returned (Y ((Dv.leastGo (wtAt d.p.toNat d.m.toNat (mdOf d.m d.mod) d.n.toNat (natR d.gen)) (f-1) 1 (d.n.toNat+1):Nat):Int))/\zB W w'):=fun f W y hW=>by obtain⟨Q,Z,e2,e3,e4⟩:=code_nat hz ((O.o.keep hW).more hW.size) ((M.o.keep hW).more hW.size);have:=least_c Q j i f y;rw[Z,e2,e3,e4] at this;exact this
 obtain⟨f,v,y,x⟩:=cn_exp hz;rw[v] at N;have U:zK (0<f->d.low<=((Dv.leastGo (wtAt d.p.toNat d.m.toNat (mdOf d.m d.mod) d.n.toNat (natR d.gen)) (f-1) 1 (d.n.toNat+1):Nat):Int)->TrueOk d):=fun P hle=>by rw[x P] at hle;exact hle
 have r:=zH (fun W hW=>R.o f W U0 hW);clear R v x hz S T h3 h4 h5 k1 k2 O M;generalize ((Dv.leastGo (wtAt d.p.toNat d.m.toNat (mdOf d.m d.mod) d.n.toNat (natR d.gen)) (f-1) 1 (d.n.toNat+1):Nat):Int)=lv at *;go_enter func10,ntmps10;go_upto_region 1 with fail;generalize w.alloc (.cells (stCells d q l B z A C D Ar E At j i I ca cb cp J K k L).toArray 40)=V at *;have u:=zH<|H.o.code
 have t:=zH (N.o V H.o.2.1);go_wp2_with (refine wpList_load_mid rfl 32 (.tmp 4) rfl w.heap.size 1 rfl (C2 d.p d.m q d.mod.length j d.n l d.gen.length i) _ u.o underlying32 rfl codeSize ?_);refine t.o.mono ?_;rintro e w1 ⟨rfl,hb1⟩;have g:=zH (H.o.grow hb1);clear hb1 H u t N;by_cases P:0<f
 . have X : decide ((0 : Int) < (f : Int)) = true := decide_eq_true U0;go_upto_region 2 with fail;refine qaD (SB w w.heap.size (stCells d q l B z A C D Ar E At j i I ca cb cp J K k L)) U1 U1 (g.o.grow zV.drew) ?_
   repeat (first
    | (refine keep_gload_mid rfl 32 (.tmp 12) rfl w.heap.size 1 rfl (C2 d.p d.m q d.mod.length j d.n l d.gen.length i) _ (fun W c => c.code) underlying32 rfl codeSize ?_
       go_simp)
    | (apply qaJ rfl
       . intro W c
         have y6:W.cell? (zA w.heap.size 6)=some (Y d.low):=c.cell rfl
         go_simp
         try rfl
       go_simp)
    | (apply qbD rfl
       . intro W c
         have y6:W.cell? (zA w.heap.size 6)=some (Y d.low):=c.cell rfl
         go_simp
         try rfl
       go_simp)
    | (apply qcG rfl
       . intro W c
         go_simp
         exact⟨rfl,rfl⟩
       . intro W c
         exact(r.o W c.2.1).mono (by rintro e w' ⟨rfl,hb⟩;exact⟨rfl,c.grow hb⟩)
       go_simp))
   refine qaE ?_;intro w2 c;have s:=zH c;clear c g r;go_wp2;go_ret;exact⟨_,rfl,s.o.2.1,fun hb=>U.o P (by simpa using hb)⟩
 . have X : decide ((0 : Int) < (f : Int)) = false := decide_eq_false U0;go_upto_region 2 with fail;refine qaD (SB w w.heap.size (stCells d q l B z A C D Ar E At j i I ca cb cp J K k L)) U1 U1 (g.o.grow zV.drew) ?_
   repeat (first
    | (apply qaJ rfl
       . intro W c
         go_simp
         try rfl
       go_simp)
    |(apply qbI rfl;go_simp))
   refine qaE ?_;intro w2 c;have s:=zH c;clear c g r;go_wp2;go_ret;exact⟨_,rfl,s.o.2.1,fun hb=>by simp at hb⟩
theorem LGrid.wide{w:Wo}{B:Nat}{v:Value}{rows:LL}{c:List (Nat × Nat)}(h:LGrid w B v rows c rows.length)(x:LN):LGrid w B v (rows++[x]) c rows.length:=by
 have e:∀i,i<rows.length->(rows++[x]).getD i []=rows.getD i []:=fun i hi=>getD_snoc_lt hi;refine⟨h.len,U2,?_,fun i hi=>by rw[e i hi];exact h.row i hi,h.apart⟩;have b:(List.range rows.length).map (hdr (rows++[x]) c)=(List.range rows.length).map (hdr rows c):=List.map_congr_left fun i hi=>by unfold hdr;rw[e i (List.mem_range.1 hi)]
 rw[b];exact h.out
def RelN1(w1:Wo)(cols:Nat)(v10:Value)(wr:Wo):Prop:=
 ∃(k:Nat)(zs:LI),k<=cols/\v10=Y k/\Row wr w1.heap.size w1.heap.size cols zs/\zs.length=cols/\zB w1 wr
def RelN2(w1:Wo)(cols np:Nat)(v11:Value)(wr:Wo):Prop:=
 ∃(k:Nat)(zs:LI),k<=np/\v11=Y k/\Row wr w1.heap.size w1.heap.size cols zs/\zs.length=cols/\zB w1 wr
def RowsOk(q cols:Nat)(R:LL):Prop:=∀r∈R,r.length=cols/\∀x∈r,x<q
def RelN3(w3:Wo)(q cols:Nat)(v12 v13:Value)(wr:Wo):Prop:=
 ∃(t:Nat)(R:LL)(bs:List (Nat × Nat)),t<=cols/\v13=Y t/\LGrid wr w3.heap.size v12 R bs R.length/\R.length<=t/\RowsOk q cols R/\zB w3 wr
def RelN4(w4:Wo)(q cols np:Nat)(v15:Value)(wr:Wo):Prop:=
 ∃(i:Nat)(l:LN),i<=np/\v15=Y i/\Row wr w4.heap.size w4.heap.size cols (nz l)/\l.length=cols/\(∀x∈l,x<q)/\zB w4 wr
def NSc(w:Wo)(cs:List Value)(bp op br or' bx ox i t cols ci pv x:Nat)(W:Wo):Prop:=
 BX w cs 29 W/\W.cell? (zA bp (op+i))=some (Y pv)/\W.cell? (zA br (or'+i))=some (zL (some (zA bx ox)) cols ci)/\W.cell? (zA bx (ox+t))=some (Y x)
theorem NSc.keep{w:Wo}{cs:List Value}{d j f b g k i t cols m pv x:Nat}{W l:Wo}(h:NSc w cs d j f b g k i t cols m pv x W)(c:zB W l):NSc w cs d j f b g k i t cols m pv x l:=
 ⟨h.1.grow c,(c.cell (p:=(zA d (j+i))) (World.block_lt_of_cell? W _ h.2.1)).trans h.2.1,(c.cell (p:=(zA f (b+i))) (World.block_lt_of_cell? W _ h.2.2.1)).trans h.2.2.1,(c.cell (p:=(zA g (k+t))) (World.block_lt_of_cell? W _ h.2.2.2)).trans h.2.2.2⟩
def NullPost(w:Wo)(q cols:Nat)(e:Ending)(w':Wo):Prop:=
 (∃(A':OA)(R:LL)(ck:Nat),e=.returned (zL A' R.length ck)/\zR w' A' (nzs R)/\Grid q R.length cols R/\R.length<=256)/\zB w w'
theorem rnull_c(p m:Nat)(md:LN)(A:OA)(n cA:Nat)(rows:LL)(A2:OA)(c2 cols:Nat)(w:Wo)(hR:RFld p m md A n w.heap.size w)(hf:∃ l,FT p m md l)(dy:Grid (p ^ m) rows.length cols rows)(hA:zR w A2 (nzs rows))(h1:1<=cols)(hc:cols<=256)(hn:rows.length<=256):
 zC 93 #[C7 p m A n cA,zL A2 rows.length c2,Y cols] w (NullPost w (p^m) cols):=by
 have HX:=zH (bx_new w (C5 p m A n cA) 29);have HE:=zH (qeI hR hf);have dt:1<p^m:=by have h1:=hR.small.p1;have h2:=hR.small.m1;exact Nat.one_lt_pow U0 U0
 have T:=zH<|fun R A2 c2 W Q hg hra hl=>
  rcanon_c p m md A n cA R A2 c2 cols W ((hR.keep Q).more Q.size) hf hg hra h1 hc hl
 have ad:zK (∀(x:Nat)(W:Wo),x<p^m->zC 150 #[C7 p m A n cA,Y x] W fun e w'=>e=.returned (Y (((refOps p m md).neg x:Nat):Int))/\zB W w'):=fun x W hx=>rneg_c p m A n cA x W hR.small hx;have U:zK (∀R:LL,Grid (p^m) R.length cols R->Grid (p^m) (canonM (refOps p m md) R cols).length cols (canonM (refOps p m md) R cols)):=fun R hg=>by rw[canonM_len];exact canon_grid HE.o hg
 have S:zK (∀R:LL,(canonM (refOps p m md) R cols).length=(elGo (refOps p m md) R cols).piv.length/\(elGo (refOps p m md) R cols).piv.length<=R.length):=fun R=>⟨canonM_len _ _ _,(elGo_piv (O:=refOps p m md) R cols).2⟩;have bf:zK (∀i,i<(elGo (refOps p m md) rows cols).piv.length->(elGo (refOps p m md) rows cols).piv.getD i 0<cols):=fun i hi=>by
  have:∀(l:LN)(hj:i<l.length),l.getD i 0=l[i]:=fun l hj=>by simp[List.getD,hj]
  rw[this _ hi];exact elGo_piv_lt _ _ _ _ (List.getElem_mem _)
 obtain⟨i0,hi,cf,cg,ch⟩:=qaF infoInt;obtain⟨dg,b7,ae,af,ag⟩:=qaF infoInts;have HI:=zH hi;have bu:=zH cf;have bw:=zH cg;have ct:=zH b7;have bv:=zH ae;have bz:=zH af;have b0:=zH ag;have a1:=zH (show i0.bytes*cols<=281474976710656 by rw[ch];omega);have a2:=zH (show cols<=maxLen by unfold maxLen;omega);have aj:=zH dy;have HA:=zH hA;clear hi cf cg ch b7 ae af ag hR hf dy hA;generalize refOps p m md=O at *;generalize p^m=q at *;go_enter func93,ntmps93;go_upto_region 1 with fail;generalize w.alloc (C3 p m A n cA)=W0 at *;have X:=zH HX.o.range;have a5:=zH (T.o rows A2 c2 W0 HX.o.below aj.o ((HA.o.keep HX.o.below).more HX.o.below.size) hn);obtain⟨b3,dr⟩:=S.o rows;have cm:=zH (U.o rows aj.o);clear HA aj;generalize (elGo O rows cols).piv=ac at *;generalize canonM O rows cols=cr at *;go_wp2_with (refine wpList_load_mid rfl 29 (.tmp 3) rfl w.heap.size 0 rfl (C5 p m A n cA) _ X.o underlying29 rfl fieldSize ?_);go_fit a5.o;rintro e w1 ⟨⟨A',ck,VA,c3,rfl,hra,hia⟩,hb1⟩;have bt:=zH (HX.o.grow hb1);have bi:=zH hra.rowsAt;have ak:=zH hia;clear hb1 hra hia a5 HX X;clear W0;have ds:ac.length<=256:=U0;generalize b9:ac.length=E at *;go_wp2_with (refine wpList_make_full w1 rfl (.tmp 23) (.tmp 23) 23 rfl w1.heap.size 3 i0 (Y 0) 1 underlying23 HI.o bu.o bw.o .i64 .i64 cols cols cols rfl rfl rfl rfl a1.o a2.o zn ?_;intro w2 c v);have bn:zK (RelN1 w1 cols (Y ((0:Nat):Int)) w2):=⟨0,nz (List.replicate cols 0),Nat.zero_le _,rfl,by have:=Row.of_make c;exact this,by rw[qaA];simp,qaL v⟩;clear c v;go_wp2;go_loopw [10] (fun v10 wr=>RelN1 w1 cols v10 wr) (fun v10 _=>cols-(intOf v10).toNat);case atStart=>exact bn.o
 case round =>
  obtain⟨k,zs,hk,rfl,b,P,D⟩:=hrel;have K:=zH b;have s:=zH D;clear b D bn;by_cases ab:k<cols
  . (have k0 : (0 : Int)<=(k : Int):=by omega);have k1:(k:Int)<(cols:Int):=U0;have az:IntKind.i64.wrap ((k:Int)+1)=(k:Int)+1:=IntWalk.i64_in _ U0;have f0:=K.o.frozen k;have y0:=K.o.cell (j:=k) U0;have al:=zH (K.o.set k (-1));have ah:=zH (s.o.setCell (p:=(zA w1.heap.size k)) zn (Y (-1)));go_wp2;go_roundw;case rel=>exact⟨k+1,zs.set k (-1),U0,gn,al.o,by rw[List.length_set];exact P,ah.o⟩
    case measure=>simp[intOf];omega
  . (have k1 : ¬ (k : Int) < (cols : Int) := by omega);have bo:zK (RelN2 w1 cols E (Y ((0:Nat):Int)) wr):=⟨0,zs,Nat.zero_le _,rfl,K.o,P,s.o⟩;clear K s P;obtain rfl:cols=k:=U0;clear hk k1 ab;clear zs;obtain ⟨dx,rfl⟩:∃ w',w'=wr:=⟨_,rfl⟩;go_wp2;go_loopw [11] (fun v11 wr=>RelN2 w1 cols E v11 wr) (fun v11 _=>E-(intOf v11).toNat);case atStart=>exact bo.o
    case round =>
     obtain⟨k,zs,hk,rfl,b,P,D⟩:=hrel;have K:=zH b;have s:=zH D;clear b D bo;by_cases ab:k<E
     . obtain⟨bp,op,rfl,c8,M⟩:=(ak.o.keep s.o).at_ (k:=k) (by rw[qaA,b9];exact ab);rw[qaC] at M;have de:=bf.o k ab;generalize ac.getD k 0=f at *;have k0:(0:Int)<=(k:Int):=U0;have k1:(k:Int)<(E:Int):=U0;have p0:(0:Int)<=(f:Int):=U0;have p1:(f:Int)<(cols:Int):=U0;have az:IntKind.i64.wrap ((k:Int)+1)=(k:Int)+1:=IntWalk.i64_in _ U0;have f0:=K.o.frozen f;have y0:=K.o.cell (j:=f) U0;have al:=zH (K.o.set f (k:Int));have ah:=zH (s.o.setCell (p:=(zA w1.heap.size f)) zn (Y (k:Int)));go_wp2;go_roundw;case rel=>exact⟨k+1,zs.set f (k:Int),U0,gn,al.o,by rw[List.length_set];exact P,ah.o⟩
       case measure=>simp[intOf];omega
     . (have k1 : ¬ (k : Int) < (E : Int) := by omega);obtain ⟨w3,rfl⟩:∃ w',w'=wr:=⟨_,rfl⟩;have ap:=zH (bt.o.grow s.o);have bj:=zH ((bi.o.keep s.o).more s.o.size);have a8:=zH ((ak.o.keep s.o).more s.o.size);have da:=K.o.lt.2;have a9:zK (RelN3 w3 q cols (zL none 0 0) (Y ((0:Nat):Int)) w3):=⟨0,[],[],U0,rfl,⟨rfl,Nat.zero_le _,World.ownsRow_nil _ _ _ _,fun i hi=>by simp at hi,fun i hi=>by simp at hi⟩,Nat.zero_le _,fun r hr=>by simp at hr,Below.refl _ _⟩;clear bt bi ak s;go_wp2_with fail;generalize w1.heap.size=g1 at *;go_loopw [12,13] (fun v12 v13 wr=>RelN3 w3 q cols v12 v13 wr) (fun _ v13 _=>cols-(intOf v13).toNat);case atStart=>exact a9.o
       case round =>
        obtain⟨t,R,bs,ht,rfl,aw,du,cd,D⟩:=hrel;obtain⟨VO,co,rfl,_⟩:=own_slice' aw.out;have J:=zH aw;have s:=zH D;have ao:=zH cd;have ce:=D.size;clear aw D cd a9;obtain⟨g,rfl⟩:∃w',w'=wr:=⟨_,rfl⟩;by_cases B:t<cols
        . (have t0 : (0 : Int) <= (t : Int) := by omega);have t1:(t:Int)<(cols:Int):=U0;have az:IntKind.i64.wrap ((t:Int)+1)=(t:Int)+1:=IntWalk.i64_in _ U0;have y0:=(s.o.cell (p:=(zA g1 t)) da).trans (K.o.cell U0);generalize zs.getD t 0=z at *;by_cases hz:0<=z
          . go_wp2;go_roundw;case rel=>exact⟨t+1,R,bs,U0,gn,J.o,U0,ao.o,s.o⟩
            case measure=>simp[intOf];omega
          . go_upto_region 16 with fail;go_wp2_with (refine wpList_make_full g rfl (.tmp 56) (.tmp 56) 23 rfl g.heap.size 3 i0 (Y 0) 1 underlying23 HI.o bu.o bw.o .i64 .i64 cols cols cols rfl rfl rfl rfl a1.o a2.o zn ?_;intro w5 c v;have r0:w5.cell? (zA g.heap.size t)=some (Y 0):=(by have h:=(Row.of_make c).cell (j:=t) (by rw [qaA,List.length_replicate];exact B);rw [qaC,show (List.replicate cols 0).getD t 0=0 from by simp [List.getD,B]] at h;exact h);have rf:=(Row.of_make c).frozen t);(have bg:zK (Row w5 g.heap.size g.heap.size cols (nz (List.replicate cols 0))):=by have:=Row.of_make c;exact this);(have a3:=zH<|qaL v);have a7:zK (RelN4 g q cols E (Y ((0:Nat):Int)) (w5.setCell (zA g.heap.size t) (Y 1))):=by
             refine⟨0,(List.replicate cols 0).set t 1,U0,rfl,?_,U2,?_,a3.o.setCell (p:=(zA g.heap.size t)) zn _⟩
             . have:=bg.o.set t 1;rw[show(1:Int)=((1:Nat):Int) from rfl,qbC] at this;exact this
             . intro x hx;rcases List.mem_or_eq_of_mem_set hx with h|h
               . rw[List.mem_replicate] at h;omega
               . omega
            clear c v bg a3;generalize w5.setCell (zA g.heap.size t) (Y 1)=W6 at *;clear r0 rf y0;go_loopw [15] (fun v15 wr=>RelN4 g q cols E v15 wr) (fun v15 _=>E-(intOf v15).toNat);case atStart=>exact a7.o
            case round =>
             obtain⟨i,l,hi,rfl,b,ax,b8,D⟩:=hrel;have L:=zH b;have H:=zH D;have bb:=zH b8;have dj:=D.size;clear b D b8 a7;have C:=zH (s.o.trans (H.o.mono ce));by_cases aa:i<E
             . obtain ⟨bp,op,rfl,c8,M⟩ := (a8.o.keep C.o).at_ (k := i) (by rw [qaA,b9];exact aa);rw [qaC] at M;obtain ⟨br,cj,Ai,ci,e,dm,Z,ay⟩:=(bj.o.keep C.o).at_ (i:=i) (by rw [nzs_len,b3];exact aa);subst e;rw [nzs_getD] at Z ay;have hg:=cm.o.row (i:=i) (by rw [b3];exact aa);rw [qaA,hg.1] at Z;obtain ⟨bx,ox,rfl,dn,ar⟩:=ay.at_ (k:=t) (by rw [qaA,hg.1];exact B);rw [qaC] at ar;(have a0:(cr.getD i []).getD t 0<q:=by (have:∀ (l:LN)(hj:t<l.length),l.getD t 0=l[t]:=fun l hj=>by simp [List.getD,hj]);rw [this _ (by rw [hg.1];exact B)];exact hg.2 _ (List.getElem_mem _));have de:=bf.o i aa;have dd:=(HE.o.neg _ a0).2;(have bd:=zH<|fun W=>ad.o _ W a0);have dv:(0:Int)<=(i:Int):=U0;have dh:(i:Int)<(E:Int):=U0;have dw:(i:Int)<(cr.length:Int):=U0;clear ay hg a0;generalize O.neg ((cr.getD i []).getD t 0)=y at *;generalize (cr.getD i []).getD t 0=x at *;generalize ac.getD i 0=f at *;have p0:(0:Int)<=(f:Int):=U0;have p1:(f:Int)<(cols:Int):=U0;have az:IntKind.i64.wrap ((i:Int)+1)=(i:Int)+1:=IntWalk.i64_in _ U0;have HS:zK (NSc w (C5 p m A n cA) bp op br cj bx ox i t cols ci f x wr.drew):=⟨(ap.o.grow C.o).grow zV.drew,M,Z,ar⟩;have an:=zH (L.o.below (Below.refl _ wr).drew L.o.lt.2);have I:=zH (H.o.drew);clear L H C ad HE T U S M Z ar;go_upto_region 21 with fail;refine qaS 14 14 (NSc w (C5 p m A n cA) bp op br cj bx ox i t cols ci f x) [(1,0),(1,1),(1,2),(1,3),(0,4),(0,5),(1,6),(1,7),(1,8),(0,9),(1,10),(1,11),(0,12),(2,13)] default U1 U1 (fun _ _ d _ _ h=>by cases d <;> exact h) HS.o ?_;generalize wr.drew=Wd at *;simp only [List.map_cons,List.map_nil,List.getD_cons_zero,List.getD_cons_succ]
               iterate 4
                apply qaM rfl
                . intro W
                  go_simp
                  rfl
                go_simp
               apply qbF rfl
               . intro W Q;have z0:=Q.2.1;go_simp;rfl
               go_simp;refine qaT rfl 29 (.tmp 3) rfl w.heap.size 0 rfl (C5 p m A n cA) _ (fun W Q=>Q.1.range) underlying29 rfl fieldSize ?_;go_simp
               iterate 3
                apply qaM rfl
                . intro W
                  go_simp
                  rfl
                go_simp
               apply qbF rfl
               . intro W Q;have z0:=Q.2.2.1;go_simp;rfl
               go_simp
               iterate 2
                apply qaM rfl
                . intro W
                  go_simp
                  rfl
                go_simp
               apply qbF rfl
               . intro W Q;have z0:=Q.2.2.2;go_simp;rfl
               go_simp;apply qbE rfl
               . go_simp;exact⟨rfl,rfl⟩
               (with_reducible refine(bd.o Wd).mono ?_);rintro e w7 ⟨rfl,hb7⟩;have bq:=zH (HS.o.keep hb7);have V:=zH (an.o.below hb7 an.o.lt.2);have a4:=zH (I.o.trans (hb7.mono I.o.size));refine⟨_,rfl,bq.o,?_⟩;go_simp;refine qbH ?_;show wpList _ _ _ _ _ _;go_simp;have f0:=V.o.frozen f;have y0:=V.o.cell (j:=f) (by rw[qaA];omega);have bh:=zH (V.o.set f (y:Int));rw[qbC] at bh;have cl:=zH (a4.o.setCell (p:=(zA g.heap.size f)) zn (Y (y:Int)));have cw:zK (∀z∈l.set f y,z<q):=fun z hz=>(List.mem_or_eq_of_mem_set hz).elim (bb.o z) (fun h=>h ▸ dd);clear hb7 HS an I bd V a4 bq;go_wp2;go_roundw;case rel=>exact⟨i+1,l.set f y,U0,gn,bh.o,by rw[List.length_set];exact ax,cw.o,cl.o⟩
               case measure=>simp[intOf];omega
             . (have dh : ¬ (i : Int) < (E : Int) := by omega);have cy:zK (RowsOk q cols (R++[l])):=fun r hr=>by
                rcases List.mem_append.1 hr with h|h
                . exact ao.o r h
                . rw[List.mem_singleton] at h;subst h;exact⟨ax,bb.o⟩
               have b6:=getD_snoc_eq R l [];have bc:=zH (J.o.wide l);(have be:zK ((wr.alloc (.cells #[zS g.heap.size cols cols] 23)).ownsRow w3.heap.size 23 1 (zL VO R.length co) R.length ((List.range R.length).map (hdr (R++[l]) bs))):=by have db:=(bc.o.grow H.o).out;exact World.ownsRow.alloc db _);have di:=C.o.size;(have cx:zK (Row wr g.heap.size g.heap.size cols (nz ((R++[l]).getD R.length []))):=by show Row _ _ _ _ _;rw[b6];exact L.o);have b1:R.length<256:=U0;clear L;go_wp2_with (at_builtin;refine wpList_append_own_at _ rfl (.tmp 82) (.tmp 84) 30 rfl w3.heap.size 23 dg _ 1 24 underlying30 ct.o bv.o bz.o b0.o rfl dc (zL VO R.length co) R.length ((List.range R.length).map (hdr (R++[l]) bs)) rfl be.o (zA wr.heap.size 0) 1 1 [zS g.heap.size cols cols] rfl rfl ?c1 ?c2 ?c3 ?c4 ?c5 ?_);(try case c1=>exact World.news_of_block (cs:=#[zS g.heap.size cols cols]) (t:=23) (fr:=(0,0)) (heap_alloc_new wr _));case c2=>first|rfl|(intro u hu;simp at hu;subst hu;rfl)
               case c3=>unfold maxLen;omega
               case c4=>omega
               case c5=>first|omega|(simp;omega)|assumption
               intro v' w7 N au _ b2;(have cz:=zH<|bc.o.step U2 ce H.o cx.o (by rw[b6,ax];exact N) au (by simpa using b2));(have I:=zH<|(C.o.alloc U0 _).grown au so (fun j hj=>(J.o.out.lt j hj).1));clear N au b2 be;go_wp2;go_roundw;case rel=>exact⟨t+1,R++[l],bs++[(g.heap.size,cols)],U0,gn,by rw[List.length_append];exact cz.o,by rw[List.length_append];simp;omega,cy.o,I.o⟩
               case measure=>simp[intOf];omega
        . (obtain rfl:t=cols:=by omega);have b1:R.length<=256:=U0;(have ba:=zH<|J.o.up.rowsAt);have ai:zK (Grid q R.length t R):=⟨rfl,ao.o⟩;have aq:=zH (ap.o.grow s.o);have a6:=zH (T.o R VO co g aq.o.below ai.o ba.o b1);have cq:=zH (U.o R ai.o);obtain⟨dp,dq⟩:=S.o R;have av:(canonM O R t).length<=256:=U0;(have cn:zK ((elGo O R t).piv.length=(canonM O R t).length):=by show _=_;omega);have X:=zH aq.o.range;clear ba J ai T U S ap;generalize (elGo O R t).piv=dl at *;generalize canonM O R t=c7 at *;go_wp2_with (refine wpList_load_mid rfl 29 (.tmp 3) rfl w.heap.size 0 rfl (C5 p m A n cA) _ X.o underlying29 rfl fieldSize ?_);go_fit a6.o;rintro e w8 ⟨⟨A9,ck9,VA9,c9,rfl,hra9,_⟩,hb8⟩;have c6:=zH (aq.o.grow hb8);have bm:=zH hra9.rowsAt;clear hb8 hra9 a6;go_wp2;go_ret;exact⟨⟨A9,c7,ck9,by rw[<- cn.o];rfl,bm.o,cq.o,av⟩,c6.o.below⟩
end Go.Proofs.YtocbdafcolbfeaaGreat
