/- Parts of the proof. -/
import Derived.Test.YtndipkplnkfoeaaGreatR27
import Derived.Test.YtndipkplnkfoeaaGreatR28
set_option maxRecDepth 100000
set_option maxHeartbeats 8000000
namespace Go.Proofs.YtndipkplnkfoeaaGreat
open Go.RowKit Pln
def inZ(q:Nat)(x:Int):Nat:=if 0<=x/\x<(q:Int) then x.toNat else 0
theorem inZ_lt{q:Nat}(b:0<q)(x:Int):inZ q x<q:=by unfold inZ;split<;>omega
theorem inZ_nat{q x:Nat}(h:x<q):inZ q (x:Int)=x:=by unfold inZ;rw[if_pos ⟨U0,U0⟩];omega
theorem inOut_c(x:Int)(c p m B:Nat)(l g:List Nat)(w:World)(d:GFAt w B c p m l g)(f:¬(0<=x/\x<((p^m:Nat):Int))):
 zC 158 (Db c x) w fun e w'=>e=.returned (Y 0)/\w=w':=by
 have b:Hid (zC 196 (Db c x) w fun e w'=>e=.returned (.bool false)/\w=w'):=by have:=is_c x c p m B l g w d;rw[show(decide (0<=x) && decide (x<((p^m:Nat):Int)))=false by rw[<- Bool.decide_and,decide_eq_false f]] at this;exact this
 clear d f;go_enter Tryz.func158,Tryz.ntmps158;go_wp2_with (go_at_call 196;refine b.out.mono ?_;rintro e w' ⟨rfl,rfl⟩);go_ret;exact⟨rfl,rfl⟩
theorem addOut_c(x:Int)(o p m B:Nat)(l t:List Nat)(w:World)(s:Small p m)(q:GFAt w B o p m l t)(r:¬ (0<=x/\x<((p ^ m:Nat):Int))):
 zC 143 #[zP o,Y x,Y 0] w (Quiet (Y 0) w):=by
 have b:=zH (inOut_c x o p m B l _ w q r);have c:Hid (zC 158 (Dm o) w fun e w'=>e=.returned (Y 0)/\w=w'):=by
  by_cases d:0<p^m
  . exact in_c 0 o p m B l _ w q d
  . exact inOut_c 0 o p m B l _ w q U0
 obtain⟨j,k,g,h,n⟩:=s;obtain⟨_,_,_,_,_,_,_,d,_,_,_,_,_⟩:=q.cells;clear q r;by_cases i:p=2
 . subst i;go_enter Tryz.func143,Tryz.ntmps143;go_wp2_with (first|(go_at_call 158;(with_reducible refine b.out.mono ?_);rintro e w' ⟨rfl,rfl⟩)|(go_at_call 158;(with_reducible refine c.out.mono ?_);rintro e w' ⟨rfl,rfl⟩));go_ret;exact⟨rfl,0,rfl⟩
 . (have f : ((p : Int) == 2) = false:=by simp;omega);go_enter Tryz.func143,Tryz.ntmps143;go_wp2_with (first|(go_at_call 158;(with_reducible refine b.out.mono ?_);rintro e w' ⟨rfl,rfl⟩)|(go_at_call 158;(with_reducible refine c.out.mono ?_);rintro e w' ⟨rfl,rfl⟩));clear d f;go_loopg [1,2,7,8] 0 (fun _ v1 v2 v7 v8 wr=>v1=Y 0/\v2=Y 0/\v7=Y 0/\v8=Y 1/\wr=w);case atStart=>exact⟨rfl,rfl,rfl,rfl,rfl⟩
   case round=>obtain⟨rfl,rfl,rfl,rfl,rfl⟩:=hrel;go_wp2_with fail;go_ret;exact⟨rfl,0,rfl⟩
theorem addI_c(x:Int)(g p m B:Nat)(md l:List Nat)(w:World)(hF:FT p m md l)(i:GFAt w B g p m l (logL l (p^m))):
 zC 143 #[zP g,Y x,Y 0] w (Quiet (Y ((inZ (p^m) x:Nat):Int)) w):=by
 have f:=(Al.fld_of hF).q1;by_cases c:0<=x/\x<((p^m:Nat):Int)
 . (have b:x.toNat<p^m:=by omega);(have e:inZ (p^m) x=x.toNat:=by unfold inZ;rw[if_pos c]);(have d:(opsT p m l).add x.toNat 0=x.toNat:=by have H:=Al.El.fd (h:=Al.fld_of hF);refine Al.El.of_inj (h:=Al.fld_of hF) ((Al.fld_of hF).addL _ _ b U0) b ?_;rw[Al.El.of_add b U0,Al.El.of_zero,H.zadd]);have:=add_c x.toNat 0 g p m B l _ w hF.small i b U0;rw[show addD p m x.toNat 0=x.toNat from d,show((x.toNat:Nat):Int)=x by omega] at this;rw[e,show((x.toNat:Nat):Int)=x by omega];exact this
 . (have e:inZ (p^m) x=0:=by unfold inZ;rw[if_neg c]);rw[e];exact addOut_c x g p m B l _ w hF.small i c
def itN(F:Nat->Nat):Nat->Nat->Nat
 |0,x=>x
 |k+1,x=>F (itN F k x)
def frN(p m:Nat)(l:List Nat)(x:Nat):Nat:=powT l (logL l (p^m)) (p^m) x p
section
open Al
variable {p m:Nat} {md l:List Nat}
theorem of_frN(hF:FT p m md l){x:Nat}(f:x<p ^ m):frN p m l x<p ^ m/\El.of (fld_of hF) (frN p m l x)=Fr p 1 (El.of (fld_of hF) x):=by
 have H:=El.fd (h:=fld_of hF);have d:=(fld_of hF).q1;have c:=hF.small.p1;unfold frN;by_cases b:x=0
 . subst b;(have e:powT l (logL l (p^m)) (p^m) 0 p=0:=by unfold powT;rw[if_neg U0,if_pos rfl]);rw[e,El.of_zero,fr_zero U0];exact⟨U0,rfl⟩
 . have e:=of_powT hF f b p;refine⟨?_,?_⟩
   . unfold powT;rw[if_neg U0,if_neg b];exact getD_ok hF.tab.lt U0 _
   . rw[e];unfold Fr;rw[Nat.pow_one]
theorem of_itN(hF:FT p m md l){x:Nat}(d:x<p ^ m):∀ k,itN (frN p m l) k x<p ^ m/\El.of (fld_of hF) (itN (frN p m l) k x)=Fr p k (El.of (fld_of hF) x)
 |0=>⟨d,by rw[qcC];rfl⟩
 |k + 1=>by
   obtain⟨h1,h2⟩:=of_itN hF d k
   obtain⟨b,c⟩:=of_frN hF h1
   refine⟨b,?_⟩
   show El.of (fld_of hF) (frN p m l (itN (frN p m l) k x))=_
   rw[c,h2,fr_comp]
theorem of_frD(hF:FT p m md l){d:Nat}(_:1<=d)(f:d<=m){x:Nat}(b:x<p^m):itN (frN p m l) (d % m) x<p^m/\El.of (fld_of hF) (itN (frN p m l) (d % m) x)=Fr p d (El.of (fld_of hF) x):=by
 by_cases e:d=m
 . subst e;rw[Nat.mod_self,fermat hF];exact⟨b,rfl⟩
 . rw[Nat.mod_eq_of_lt U0];exact of_itN hF b d
theorem of_each(hF:FT p m md l){d:Nat}(f:1<=d)(g:d<=m){x:Nat}(h:x<p ^ m):∀ i,itN (itN (frN p m l) (d % m)) i x<p ^ m/\El.of (fld_of hF) (itN (itN (frN p m l) (d % m)) i x)=Fr p (d*i) (El.of (fld_of hF) x)
 |0=>⟨h,by rw[Nat.mul_zero,qcC];rfl⟩
 |i + 1=>by
   obtain⟨h3,h4⟩:=of_each hF f g h i
   obtain⟨b,c⟩:=of_frD hF f g h3
   refine⟨b,?_⟩
   show El.of (fld_of hF) (itN (frN p m l) (d % m) (itN (itN (frN p m l) (d % m)) i x))=_
   rw[c,h4,fr_comp,Nat.mul_succ]
end
def RelFr(w:World)(F:Nat->Nat)(x e:Nat)(v1 v21:Value)(wr:World):Prop:=∃t:Nat,t<=e/\v21=Y (t:Int)/\v1=Y ((itN F t x:Nat):Int)/\Below w.heap.size w wr
theorem frobenius_c(x d P B p m:Nat)(mod:List Int)(md l:List Nat)(w:World)(hF:FT p m md l)(Q:GFM w B P p m mod l (logL l (p ^ m)))(R:B<=w.heap.size)(S:mod.length<=1000000)(T:x<p ^ m)(_:d<=m):
 zC 190 (Cn P x d) w fun e w'=>e=.returned (Y ((itN (frN p m l) (d % m) x:Nat):Int))/\Below w.heap.size w w':=by
 have s:=zH (prime_c P B p m mod l _ w Q R S);have I:=hF.small.m1;have J:=hF.small.m2;have K:p<=256:=by have:=hF.small.q;have:p^1<=p^m:=Nat.pow_le_pow_right (by have:=hF.small.p1;omega) U0;rw[Nat.pow_one] at this;omega
 have o:Hid (∀(W:World)(y:Nat),Below w.heap.size w W->y<p^m->zC 105 (Cn P y p) W (Quiet (.tuple #[Y ((frN p m l y:Nat):Int),Y 0]) W)):=fun W y hW f=>pow_c y p P p m B md l W hF (Q.gf.keep (hW.mono R)) f U0;have k:Hid (∀(W:World)(y:Nat),Below w.heap.size w W->y<p^m->zC 143 #[zP P,Y (y:Int),Y 0] W (Quiet (Y (y:Int)) W)):=fun W y hW f=>by have:=addI_c (y:Int) P p m B md l W hF (Q.gf.keep (hW.mono R));rw[inZ_nat f] at this;exact this
 have n:Hid (∀t,itN (frN p m l) t x<p^m):=fun t=>(of_itN hF T t).1;have h:Int.tmod (d:Int) (m:Int)=((d % m:Nat):Int):=qaY _ _;have i:Int.tmod (((d % m:Nat):Int)+(m:Int)) (m:Int)=((d % m:Nat):Int):=by have:=qaY (d % m+m) m;rw[Nat.add_mod_right,Nat.mod_mod,Int.natCast_add] at this;exact this
 have N:d % m<m:=Nat.mod_lt _ U0;clear Q hF T;generalize frN p m l=F at *;generalize p^m=q at *;generalize d % m=e at *;have j:IntKind.i64.wrap ((e:Int)+(m:Int))=(e:Int)+(m:Int):=IntWalk.i64_in _ U0;have H:¬(m:Int)=0:=U0;have z:=zH h;have A:=zH i;have C:=zH j;clear h i j;go_enter Tryz.func190,Tryz.ntmps190;go_wp2_with fail;(with_reducible refine s.out.mono ?_);rintro M O ⟨rfl,hb⟩;have r:=zH hb;clear hb s;have h:=z.out;have i:=A.out;have j:=C.out;go_wp2_with fail;clear h i j;go_loopw [1,21] (fun v1 v21 wr=>RelFr w F x e v1 v21 wr) (fun _ v21 _=>e-(intOf v21).toNat);case atStart=>exact⟨0,U0,rfl,rfl,r.out⟩
 case round =>
  obtain⟨t,ht,rfl,rfl,g⟩:=hrel;have c:=zH g;have b:=n.out t;clear g r;by_cases E:t<e
  . have u : Hid (F (itN F t x) = itN F (t + 1) x):=rfl;generalize itN F t x=y at *;go_wp2_with fail;(with_reducible refine(o.out wr y c.out b).mono ?_);rintro D L ⟨rfl,n2,rfl⟩;go_wp2_with fail;go_roundw;case rel=>exact⟨t+1,U0,gn,by rw[u.out],qaB c.out n2⟩
    case measure=>exact mE
  . (obtain rfl:t=e:=by omega);obtain⟨y,f⟩:∃y,y=itN F t x:=⟨_,rfl⟩;rw[<- f] at b ⊢;have v:=zH f;clear f;go_wp2_with fail;(with_reducible refine(k.out wr y c.out b).mono ?_);rintro D L ⟨rfl,n2,rfl⟩;go_wp2_with fail;go_ret;exact⟨by rw[<- v.out];rfl,qaB c.out n2⟩
def eachL(G:Nat->Nat)(n x:Nat):List Nat:=(List.range n).map fun i=>itN G i x
def RelEa(w:World)(G:Nat->Nat)(x n g:Nat)(v10 v26:Value)(wr:World):Prop:=∃k:Nat,k<=n/\v26=Y (k:Int)/\v10=Y ((itN G k x:Nat):Int)/\Row wr w.heap.size g n (nz (scK (fun i=>itN G i x) (List.range n) k))/\Below w.heap.size w wr
theorem each_c(x:Int)(d gb B p m:Nat)(mod:List Int)(md l:List Nat)(w:World)(hF:FT p m md l)(hG:GFM w B gb p m mod l (logL l (p ^ m)))(hB:B<=w.heap.size)(ad:mod.length<=1000000)(ae:1<=d)(hd:d<=m):
 zC 224 (Cn gb x d) w fun e w'=>(∃g,e=.returned (zS g (m / d:Nat) (m / d:Nat))/\Row w' w.heap.size g (m / d) (nz (eachL (itN (frN p m l) (d % m)) (m / d) (inZ (p^m) x))))/\Below w.heap.size w w':=by
 have V:=zH (prime_c gb B p m mod l _ w hG hB ad);have ab:=hF.small.m2;have ac:=(Al.fld_of hF).q1;have L:inZ (p^m) x<p^m:=inZ_lt U0 x;have R:Hid (∀(W:World)(y:Nat),Below w.heap.size w W->y<p^m->zC 190 (Cn gb y d) W fun e w'=>e=.returned (Y ((itN (frN p m l) (d % m) y:Nat):Int))/\Below W.heap.size W w'):=fun W y hW hy=>frobenius_c y d gb B p m mod md l W hF (hG.keep (hW.mono hB)) (Nat.le_trans hB hW.size) ad hy hd;have C:Hid (∀(W:World),Below w.heap.size w W->zC 143 #[zP gb,Y x,Y 0] W (Quiet (Y ((inZ (p^m) x:Nat):Int)) W)):=fun W hW=>addI_c x gb p m B md l W hF (hG.gf.keep (hW.mono hB));have S:Hid (∀t,itN (itN (frN p m l) (d % m)) t (inZ (p^m) x)<p^m):=fun t=>(of_each hF ae hd L t).1;have N:Int.tdiv (m:Int) (d:Int)=((m / d:Nat):Int):=rfl;have hn:m / d<=m:=Nat.div_le_self _ _;obtain⟨Z,o,c⟩:=makeN (m / d) U0;have f:=zH c;have aa:¬(d:Int)=0:=U0;clear hG hF L c;generalize inZ (p^m) x=h at *;generalize itN (frN p m l) (d % m)=G at *;generalize p^m=q at *;generalize m / d=n at *;have D:=zH o;have X:=zH N;clear o N;go_enter Tryz.func224,Tryz.ntmps224;go_wp2_with fail;(with_reducible refine V.out.mono ?_);rintro e1 O ⟨rfl,hb⟩;have M:=zH hb;have o:=D.out;have N:=X.out;go_wp2_with fail;have s:Hid (Below w.heap.size w (O.alloc (.cells Z 3))):=M.out.alloc M.out.size _;have z:=zH (f.out O w.heap.size M.out.size);clear o N hb M V D X f;generalize O.heap.size=g at *;generalize O.alloc (.cells Z 3)=P at *;(with_reducible refine(C.out P s.out).mono ?_);rintro e2 w3 ⟨rfl,n3,rfl⟩
 have r:Hid (RelEa w G h n g (Y (h:Int)) (zN 0) (P.drewN n3)):=⟨0,U0,rfl,rfl,by
  have:scK (fun i=>itN G i h) (List.range n) 0=List.replicate n 0:=by simp[scK]
  rw[this]
  exact z.out.below (qaB (Below.refl (P.heap.size) _) n3) z.out.lt.2,qaB s.out n3⟩
 clear C s z;generalize P.drewN n3=w4 at *;go_wp2_with fail;go_loopw [10,26] (fun v10 v26 wr=>RelEa w G h n g v10 v26 wr) (fun _ v26 _=>n-(intOf v26).toNat);case atStart=>exact r.out
 case round =>
  obtain⟨k,hk,rfl,rfl,c,H⟩:=hrel;have b:=zH c;have v:=zH H;have K:=S.out k;clear c H r;by_cases J:k<n
  . have HN : Hid (G (itN G k h) = itN G (k + 1) h):=rfl;(have I:k<(List.range n).length:=by rw[List.length_range];exact J);have A:=scK_set (fun i=>itN G i h) (List.range n) k I;rw[show(List.range n).getD k 0=k by simp[List.getD,J]] at A;have T:=zH A;have fg:=b.out.frozen k;have c0:=b.out.cell (j:=k) (by rw[qaA,scK_len _ _ _ U0];exact I);generalize itN G k h=y at *;have U:w.heap.size<=g:=b.out.lt.1;clear A;go_wp2_with fail;have u:Hid (Below w.heap.size w (wr.setCell (zA g k) (Y (y:Int)))):=v.out.setCell (p:=(zA g k)) U _;(have E:Hid (Row (wr.setCell (zA g k) (Y (y:Int))) w.heap.size g n (nz (scK (fun i=>itN G i h) (List.range n) (k+1)))):=by show Row _ _ _ _ _;rw[<- T.out,<- qbC];exact Row.set b.out k _);clear b v fg c0;generalize wr.setCell (zA g k) (Y (y:Int))=w5 at *;(with_reducible refine(R.out w5 y u.out K).mono ?_);rintro e6 w6 ⟨rfl,hb6⟩;go_wp2_with fail;go_roundw;case rel=>exact⟨k+1,U0,gn,by rw[HN.out],E.out.below hb6 E.out.lt.2,u.out.trans (hb6.mono u.out.size)⟩
    case measure=>exact mE
  . (obtain rfl:k=n:=by omega);(have Q:Hid (scK (fun i=>itN G i h) (List.range k) k=eachL G k h):=by show _=_;unfold scK eachL;rw[List.length_range,Nat.sub_self,List.replicate_zero,List.append_nil,List.take_of_length_le (by rw[List.length_range];omega)]);go_wp2_with fail;go_ret;exact⟨⟨g,rfl,by rw[<- Q.out];exact b.out⟩,v.out⟩
theorem makeR(n:Nat)(l:n<=100000):∃ zz:Array Value,(∀ W,(Instr.makeSlice 30 (Y (n:Int)) (Y (n:Int))).run Tryz.prog W=.ok (zS W.heap.size n n) (W.alloc (.cells zz 23)))/\∀ (W:World) (B:Nat) (rows:List (List Nat)),rows.length=n->B<=W.heap.size->PGrid (W.alloc (.cells zz 23)) B W.heap.size rows [] 0:=by
 obtain⟨h,b,d,f,g⟩:=qaF infoInts;refine⟨madeCells (Value.slice none 0 0).cells (n*1),fun W=>?_,fun W B rows c hB=>⟨rfl,Nat.zero_le _,?_,fun i b=>absurd b (Nat.not_lt_zero i),fun i _ b=>absurd b (Nat.not_lt_zero i)⟩⟩
 . have c:=run_make (P:=Tryz.prog) W 30 23 h _ Tryz.underlying30 b d .i64 .i64 n n U0 U0 (by rw[g];omega) U0;simp only[Int.toNat_natCast,f] at c;exact c
 . have e : (List.range 0).map (hdr rows []) ++ List.replicate (rows.length - 0) (Value.slice none 0 0) = (madeCells (Value.slice none 0 0).cells (n * 1)).toList := by
    apply List.ext_getElem
    . simp[madeCells,c]
    . intro i j k;simp[madeCells,Value.cells,Nat.mod_one]
   rw[e,c];exact World.ownsRow_lit W _ n hB U3 (size_madeCells _ _)
theorem PGrid.of_heap{w w':World}{B R:Nat}{rows:List (List Nat)}{b:List (Nat × Nat)}{k:Nat}(h:PGrid w B R rows b k)(c:∀k:Nat,w'.heap[k]?=w.heap[k]?):PGrid w' B R rows b k:=
 ⟨h.len,h.le,qeL h.out fun k _ _=>c k,fun i hi=>own_below (h.row i hi) (c _),h.nd⟩
theorem set_swap(w:World){p r:Addr}(h:p.block≠r.block)(u v:Value)(k:Nat):((w.setCell p u).setCell r v).heap[k]?=((w.setCell r v).setCell p u).heap[k]?:=by
 by_cases b:k=p.block
 . subst b;rw[Below.heap_setCell _ r _ _ h];simp[World.setCell,Array.getElem?_modify,Ne.symm h]
 . by_cases c : k = r.block
   . subst c;rw[Below.heap_setCell _ p _ _ b];simp[World.setCell,Array.getElem?_modify,h]
   . rw[Below.heap_setCell _ r _ _ c,Below.heap_setCell _ p _ _ b,Below.heap_setCell _ p _ _ b,Below.heap_setCell _ r _ _ c]
theorem sys_put{q n c:Nat}{rows:List (List Nat)}(k:Grid q n c rows){i j y:Nat}(l:i<n)(m:j<c)(o:y<q):Grid q n c (rows.set i ((rows.getD i []).set j y))/\∀ a b,at2 (rows.set i ((rows.getD i []).set j y)) a b=if a=i/\b=j then y else at2 rows a b:=by
 obtain⟨f,g⟩:=k.row l;refine⟨k.set i ⟨by rw[List.length_set,f],fun x hx=>?_⟩,fun a b=>?_⟩
 . rcases List.mem_or_eq_of_mem_set hx with h|h
   . exact g x h
   . rw[h];exact o
 . rw [Al.at2_set (by rw [k.1];exact l)];by_cases e:a=i
   . subst e;rw[if_pos rfl,getD_set _ _ _ _ _ (by rw[f];exact m)];by_cases d:b=j
     . rw[if_pos d,if_pos ⟨rfl,d⟩]
     . rw[if_neg d,if_neg (fun h=>d h.2)];rfl
   . rw[if_neg e,if_neg (fun h=>e h.1)]
def sys0(t:Nat)(right:List Nat):List (List Nat):=right.map fun y=>List.replicate t 0++[y]
theorem sys0_len(t:Nat)(right:List Nat):(sys0 t right).length=right.length:=by simp[sys0]
theorem sys0_row{t:Nat}{right:List Nat}{i:Nat}(b:i<right.length):(sys0 t right).getD i []=List.replicate t 0++[right.getD i 0]:=by simp[sys0,List.getD,b]
def SysI(q n t:Nat)(F:Nat->Nat->Nat)(right:List Nat)(j i:Nat)(rows:List (List Nat)):Prop:=Grid q n (t+1) rows/\∀a,a<n->at2 rows a t=right.getD a 0/\(∀b,b<j->at2 rows a b=F b a)/\(a<i->at2 rows a j=F j a)
theorem sysI_0{q t:Nat}{F:Nat->Nat->Nat}{right:List Nat}(f:∀ y∈right,y<q)(d:0<q):SysI q right.length t F right 0 0 (sys0 t right):=by
 refine⟨⟨sys0_len t right,fun r hr'=>?_⟩,fun a ha=>⟨?_,fun b hb=>absurd hb (Nat.not_lt_zero b),fun h=>absurd h (Nat.not_lt_zero a)⟩⟩
 . obtain⟨y,c,rfl⟩:=List.mem_map.1 hr';refine⟨U2,fun x hx=>?_⟩;rcases List.mem_append.1 hx with h|h
   . rw[(List.mem_replicate.1 h).2];exact d
   . rw[List.mem_singleton.1 h];exact f y c
 . unfold at2;rw[sys0_row ha];have:=getD_snoc_eq (List.replicate t 0) (right.getD a 0) 0;rw[List.length_replicate] at this;exact this
theorem sysI_put{q n t:Nat}{F:Nat->Nat->Nat}{right:List Nat}{j i:Nat}{rows:List (List Nat)}(h:SysI q n t F right j i rows)(l:i<n)(o:j<t)(m:F j i<q):SysI q n t F right j (i+1) (rows.set i ((rows.getD i []).set j (F j i))):=by
 obtain⟨g,e⟩:=sys_put h.1 l (show j<t+1 by omega) m;refine⟨g,fun a ha=>?_⟩;obtain⟨d,f,k⟩:=h.2 a ha;refine⟨by rw[e,if_neg U0];exact d,fun b hb=>by rw[e,if_neg U0];exact f b hb,fun hai=>?_⟩;rw[e];by_cases c:a=i
 . rw[if_pos ⟨c,rfl⟩,c]
 . rw[if_neg (fun h=>c h.1)];exact k U0
theorem sysI_next{q n t:Nat}{F:Nat->Nat->Nat}{right:List Nat}{j:Nat}{rows:List (List Nat)}(h:SysI q n t F right j n rows):SysI q n t F right (j+1) 0 rows:=⟨h.1,fun a ha=>by
 obtain⟨c,d,f⟩:=h.2 a ha
 refine⟨c,fun b hb=>?_,fun h=>absurd h (Nat.not_lt_zero a)⟩
 by_cases e:b=j
 . subst e
   exact f ha
 . exact d b U0⟩
theorem set_last0(t y:Nat):(List.replicate (t+1) 0).set t y=List.replicate t 0++[y]:=by rw[List.replicate_succ',List.set_append_right _ _ U2,List.length_replicate,Nat.sub_self];rfl
theorem eachL_at(G:Nat->Nat)(n x:Nat){i:Nat}(b:i<n):(eachL G n x).getD i 0=itN G i x:=by simp[eachL,List.getD,b]
theorem eachL_len(G:Nat->Nat)(n x:Nat):(eachL G n x).length=n:=by simp[eachL]
def RelSy1(w:World)(R n t:Nat)(right:List Nat)(v20:Value)(wr:World):Prop:=∃(k:Nat)(bs:List (Nat × Nat)),k<=n/\v20=Y (k:Int)/\PGrid wr w.heap.size R (sys0 t right) bs k/\Below w.heap.size w wr
def RelSy2(w:World)(R n t q:Nat)(F:Nat->Nat->Nat)(right:List Nat)(v44:Value)(wr:World):Prop:=∃(j:Nat)(rows:List (List Nat))(bs:List (Nat × Nat)),j<=t/\v44=Y (j:Int)/\GridAt wr w.heap.size R n rows bs/\SysI q n t F right j 0 rows/\Below w.heap.size w wr
def RelSy3(w:World)(R n t q:Nat)(F:Nat->Nat->Nat)(right:List Nat)(bs:List (Nat × Nat))(S g:Nat)(ys:List Nat)(j:Nat)(v54:Value)(wr:World):Prop:=∃(i:Nat)(rows:List (List Nat)),i<=n/\v54=Y (i:Int)/\GridAt wr w.heap.size R n rows bs/\SysI q n t F right j i rows/\Row wr S g n (nz ys)/\Below w.heap.size w wr
def SysPost(w:World)(q n t:Nat)(F:Nat->Nat->Nat)(right:List Nat)(e:Ending)(w':World):Prop:=(∃(R:Nat)(rows:List (List Nat))(bs:List (Nat × Nat)),e=.returned (zS R n n)/\GridAt w' w.heap.size R n rows bs/\SysI q n t F right t 0 rows)/\Below w.heap.size w w'
theorem system_c(gb p m d:Nat)(mod:List Int)(md l:List Nat)(L:List Int)(AL:Option Addr)(cL:Nat)(right:List Nat)(AR:Option Addr)(cR:Nat)(w:World)(hF:FT p m md l)(hG:GFM w w.heap.size gb p m mod l (logL l (p ^ m)))(b0:mod.length<=1000000)(bx:1<=d)(hd:d<=m)(hL:IntsAt w w.heap.size AL L)(b1:L.length<=1000)(hR:IntsAt w w.heap.size AR (nz right))(bz:∀ y∈right,y<p ^ m)(bw:right.length=m / d):
 zC 229 #[zP gb,zL AL L.length cL,Y (d:Int),zL AR right.length cR] w (SysPost w (p^m) right.length L.length (fun j i=>itN (itN (frN p m l) (d % m)) i (inZ (p^m) (L.getD j 0))) right):=by
 have bq:=hF.small.m2;have bu:=(Al.fld_of hF).q1;have bt:right.length<=8:=by have:m / d<=m:=Nat.div_le_self _ _;omega
 have ai:=zH (sysI_0 (t:=L.length) (F:=fun j i=>itN (itN (frN p m l) (d % m)) i (inZ (p^m) (L.getD j 0))) bz U0);have a2:Hid (∀j i,itN (itN (frN p m l) (d % m)) i (inZ (p^m) (L.getD j 0))<p^m):=fun j i=>(of_each hF bx hd (inZ_lt U0 _) i).1;have az:Hid (∀(W:World)(x:Int),Below w.heap.size w W->zC 224 (Cn gb x d) W fun e w'=>(∃g,e=.returned (zS g right.length right.length)/\Row w' W.heap.size g right.length (nz (eachL (itN (frN p m l) (d % m)) right.length (inZ (p^m) x))))/\Below W.heap.size W w'):=fun W x hW=>by rw[bw];exact each_c x d gb w.heap.size p m mod md l W hF (hG.keep hW) hW.size b0 bx hd
 have a4:Hid (∀(W:World)(k:Nat),Below w.heap.size w W->k<L.length->∃b o,AL=some (zA b o)/\W.cell? (zA b (o+k))=some (Y (L.getD k 0))):=fun W k hW hk=>by obtain⟨b,o,e,_,hc⟩:=(hL.keep hW).at_ hk;exact⟨b,o,e,hc⟩
 have a9:Hid (∀(W:World)(k:Nat),Below w.heap.size w W->k<right.length->∃b o,AR=some (zA b o)/\W.cell? (zA b (o+k))=some (Y ((right.getD k 0:Nat):Int))):=fun W k hW hk=>by obtain⟨b,o,e,_,hc⟩:=(hR.keep hW).at_ (k:=k) (by rw[qaA];exact hk);rw[qaC] at hc;exact⟨b,o,e,hc⟩
 have Z:=zH (sys0_len L.length right);have bb:Hid (∀i,i<right.length->(sys0 L.length right).getD i []=List.replicate L.length 0++[right.getD i 0]):=fun i hi=>sys0_row hi;clear hF hG hL hR bz bw;generalize itN (frN p m l) (d % m)=G at *;generalize p^m=q at *;generalize L.length=t at *;generalize right.length=n at *;obtain⟨zr,bg,ap⟩:=makeR n U0;obtain⟨J,Q,C⟩:=makeN (t+1) U0;have U:∀W:World,(Instr.makeSlice 23 (Y ((t:Int)+1)) (Y ((t:Int)+1))).run Tryz.prog W=.ok (zS W.heap.size (t+1) (t+1)) (W.alloc (.cells J 3)):=fun W=>Q W;have a6:=zH U;have ah:=zH ap;have X:=zH C;have bc:Hid (IntKind.i64.wrap ((t:Int)+1)=(t:Int)+1):=IntWalk.i64_in _ U0;clear Q U ap C;go_enter Tryz.func229,Tryz.ntmps229;go_wp2_with fail;have af:Hid (Below w.heap.size w (w.alloc (.cells zr 23))):=(Below.refl _ _).alloc (Nat.le_refl _) _;have ag:=zH (ah.out w w.heap.size (sys0 t right) Z.out (Nat.le_refl _));obtain⟨R,hR⟩:∃R,R=w.heap.size:=⟨_,rfl⟩;have T:Hid (RelSy1 w R n t right (Y ((0:Nat):Int)) (w.alloc (.cells zr 23))):=⟨0,[],U0,rfl,by rw[hR];exact ag.out,af.out⟩;have ba:Hid (w.heap.size<=R):=U5;rw[show zS w.heap.size=zS R by rw[hR]];clear hR bg ah ag af;generalize w.alloc (.cells zr 23)=W0 at *;go_loopw [20] (fun v20 wr=>RelSy1 w R n t right v20 wr) (fun v20 _=>n-(intOf v20).toNat);case atStart=>exact T.out
 case round =>
  obtain⟨k,bs,hk,rfl,ae,B⟩:=hrel;have v:=zH ae;have c:=zH B;have aj:=World.ownsRow.lt ae.out R rfl;clear ae B T;by_cases ac:k<n
  . have I := Z.out;have O:Below wr.heap.size wr (wr.alloc (.cells J 3)):=(Below.refl _ _).alloc (Nat.le_refl _) _;have H:PGrid (wr.alloc (.cells J 3)) w.heap.size R (sys0 t right) bs k:=⟨v.out.len,v.out.le,qeL v.out.out fun _ _ hk=>O.block _ hk,fun i hi=>(v.out.row i hi).below O (v.out.row i hi).lt.2,v.out.nd⟩;have aq:=(World.ownsRow.stored H.out k (zS wr.heap.size (t+1) (t+1))).1;have f4:(wr.alloc (.cells J 3)).frozen? (zA R k)=false:=World.ownsRow.frozenAt H.out k;(have c4:(wr.alloc (.cells J 3)).cell? (zA R k)=some (zL none 0 0):=by rw [World.ownsRow.cellAt H.out k U0,List.getElem?_append_right U2,List.length_map,List.length_range,Nat.sub_self,List.getElem?_replicate,if_pos U0]);(have ax:Hid (((wr.alloc (.cells J 3)).setCell (zA R k) (zS wr.heap.size (t+1) (t+1))).cell? (zA R k)=some (zS wr.heap.size (t+1) (t+1))):=by show _=_;rw [World.ownsRow.cellAt aq k U0,List.getElem?_set,if_pos rfl,if_pos so]);have D:=X.out wr wr.heap.size (Nat.le_refl _);have al:wr.heap.size≠R:=U0;have E:Row ((wr.alloc (.cells J 3)).setCell (zA R k) (zS wr.heap.size (t+1) (t+1))) wr.heap.size wr.heap.size (t+1) (nz (List.replicate (t+1) 0)):=D.far (p:=(zA R k)) al _;have a3:=zH (E.cell (j:=t) (by rw [qaA,List.length_replicate];omega));have a0:=zH (E.frozen t);have aa:Below w.heap.size w ((wr.alloc (.cells J 3)).setCell (zA R k) (zS wr.heap.size (t+1) (t+1))):=(c.out.trans (O.mono c.out.size)).setCell (p:=(zA R k)) ba.out _;have ar:=zH aa;obtain ⟨br,bv,rfl,ak⟩:=a9.out _ k aa ac;have ay:=zH ak;(have a8:Hid (∀ W':World,(∀ k':Nat,W'.heap[k']?=(((wr.alloc (.cells J 3)).setCell (zA R k) (zS wr.heap.size (t+1) (t+1))).setCell (zA wr.heap.size t) (Y ((right.getD k 0:Nat):Int))).heap[k']?)->PGrid W' w.heap.size R (sys0 t right) (bs++[(wr.heap.size,t+1)]) (k+1)):=fun W' hW'=>by have e1:=bb.out k ac;(have bh:Row ((wr.alloc (.cells J 3)).setCell (zA wr.heap.size t) (Y ((right.getD k 0:Nat):Int))) wr.heap.size wr.heap.size (t+1) (nz ((sys0 t right).getD k [])):=by rw [e1,<- set_last0,<- qbC];exact Row.set D t _);have hs:=v.out.step (by rw [I];exact ac) (O.setCell (p:=(zA wr.heap.size t)) (Nat.le_refl _) (Y ((right.getD k 0:Nat):Int))) c.out.size bh;rw [show ((sys0 t right).getD k []).length=t+1 by rw [e1];simp] at hs;exact hs.of_heap fun k'=>by rw [hW' k'];exact set_swap _ (p:=(zA R k)) (r:=(zA wr.heap.size t)) (fun e=>al e.symm) _ _ k');have a5:Hid (w.heap.size<=wr.heap.size):=c.out.size;have Q:=a6.out;have bj:=bc.out;clear O H aq D E aa ak v c I;go_upto_region 6 with fail;clear Q bj f4 c4;rw [<- World.setCell_alloc_past (w:=wr) (.cells J 3) R k _ aj.2];generalize wr.heap.size=g at *;generalize (wr.alloc (.cells J 3)).setCell (zA R k) (zS g (t+1) (t+1))=W5 at *;have y1:=ax.out;have y2:=a3.out;have y3:=a0.out;have y4:=ay.out;have k0:(0:Int)<=(k:Int):=U0;have k1:(k:Int)<(n:Int):=U0;have t0:(0:Int)<=(t:Int):=U0;generalize hT:t+1=tt at *;have t1:(t:Int)<(tt:Int):=U0;clear hT;refine qaI 11 (SDrew W5) U1 U1 ⟨1,rfl⟩ ?_;simp only [List.take_succ_cons,List.take_zero,List.drop_succ_cons,List.drop_zero]
    repeat (first
     | (apply qaJ rfl
        . intro W hS
          obtain⟨n',rfl⟩:=hS
          go_simp
          rfl
        go_simp)
     | (apply qaO rfl
        . intro W hS
          go_simp
          exact⟨rfl,rfl⟩
        . intro W hS
          go_simp
          exact hS
        go_simp))
    refine qaE ?_;intro w2 be;obtain⟨n',rfl⟩:=be;go_wp2_with fail;go_roundw;case rel=>exact⟨k+1,_,U0,gn,a8.out _ (fun k'=>rfl),(qaB ar.out n').setCell (p:=(zA g t)) a5.out _⟩
    case measure=>exact mE
  . (obtain rfl : k = n := by omega);have ad:=v.out;have I:=Z.out;rw [<- I] at ad;have A:=ad.done;rw [I] at A;have K:Hid (RelSy2 w R k t q (fun j i=>itN G i (inZ q (L.getD j 0))) right (Y ((0:Nat):Int)) wr):=⟨0,sys0 t right,bs,U0,rfl,A,ai.out,c.out⟩;clear ad A v c ai I aj;go_wp2_with fail;go_loopw [44] (fun v44 wr=>RelSy2 w R k t q (fun j i=>itN G i (inZ q (L.getD j 0))) right v44 wr) (fun v44 _=>t-(intOf v44).toNat);case atStart=>exact K.out
    case round =>
     obtain⟨j,rows,s,hj,rfl,A,z,B⟩:=hrel;have u:=zH A;have h:=zH z;have c:=zH B;clear A z B K;by_cases an:j<t
     . obtain ⟨bl,ol,rfl,bf⟩ := a4.out _ j c.out an;have j0:(0:Int)<=(j:Int):=U0;have j1:(j:Int)<(t:Int):=U0;go_wp2_with fail;(with_reducible refine (az.out wr _ c.out).mono ?_);rintro e6 w6 ⟨⟨g,rfl,hrow6⟩,hb6⟩;have M:Hid (RelSy3 w R k t q (fun j i=>itN G i (inZ q (L.getD j 0))) right s wr.heap.size g (eachL G k (inZ q (L.getD j 0))) j (Y ((0:Nat):Int)) w6):=⟨0,rows,U0,rfl,u.out.grow hb6,h.out,hrow6,c.out.trans (hb6.mono c.out.size)⟩;have aw:Hid (∀ i,i<k->bk s i<wr.heap.size):=fun i hi=>(u.out.row i (by rw [h.out.1.1];exact hi)).lt.2;have bn:Hid (R<wr.heap.size):=u.out.lt.2;have bo:Hid (w.heap.size<=wr.heap.size):=c.out.size;clear hrow6 hb6 bf u h c;generalize wr.heap.size=S at *;go_wp2_with fail;go_loopw [54] (fun v54 wr=>RelSy3 w R k t q (fun j i=>itN G i (inZ q (L.getD j 0))) right s S g (eachL G k (inZ q (L.getD j 0))) j v54 wr) (fun v54 _=>k-(intOf v54).toNat);case atStart=>exact M.out
       case round =>
        obtain⟨i,f,hi,rfl,A,z,V,B⟩:=hrel;have u:=zH A;have h:=zH z;have N:=zH V;have c:=zH B;have bw:=z.1.1;clear A z V B M;by_cases P:i<k
        . (have ab : i < f.length:=by omega);have y1:=u.out.cell ab;have ao:=(h.out.1.row P).1;rw[ao] at y1;have C:=u.out.row i ab;have y2:=C.cell (j:=j) (by rw[qaA,ao];omega);have y3:=C.frozen j;have y4:=N.out.cell (j:=i) (by rw[qaA,eachL_len];exact P);rw[qaC,eachL_at _ _ _ P] at y4;have a1:=zH (a2.out j i);have a7:=zH (sysI_put h.out P an a1.out);have av:Hid (bk s i<S):=aw.out i P;(have bd:Hid (∀(W:World)(y:Nat),Row W w.heap.size (bk s i) (cp s i) (nz ((f.getD i []).set j y))->wr.grownBy W (some (bk s i))->GridAt W w.heap.size R k (f.set i ((f.getD i []).set j y)) s):=fun W y h1 h2=>by have:=u.out.turn ab (r:=(f.getD i []).set j y) (by rw[List.length_set]) h1 h2;exact this);have X:=zH C;have au:=zH C.lt.1;have bp:=N.out.lt.1;have i0:(0:Int)<=(i:Int):=U0;have i1:(i:Int)<(k:Int):=U0;have jt:(j:Int)<((t+1:Nat):Int):=U0;clear C bw u;have bm:Hid ((fun j i=>itN G i (inZ q (L.getD j 0))) j i=itN G i (inZ q (L.getD j 0))):=rfl;generalize bk s i=bi at *;generalize cp s i=ci at *;go_wp2_with fail;go_roundw;case rel=>refine⟨i+1,_,U0,gn,bd.out _ _ ?_ (grown_set wr (zA bi j) _),a7.out,N.out.far (p:=(zA bi j)) (by have:=av.out;show g≠bi;omega) _,c.out.setCell (p:=(zA bi j)) au.out _⟩;rw[<- qbC];exact Row.set X.out j _
          case measure=>exact mE
        . (obtain rfl : i = k:=by omega);go_wp2_with fail;go_roundw;case rel=>exact⟨j+1,f,s,U0,gn,u.out,sysI_next h.out,c.out⟩
          case measure=>exact mE
     . (obtain rfl:j=t:=by omega);go_wp2_with fail;go_ret;exact⟨⟨R,rows,s,rfl,u.out,h.out⟩,c.out⟩
end Go.Proofs.YtndipkplnkfoeaaGreat
namespace Go.Proofs.YtndipkplnkfoeaaGreat
open Go.RowKit Pln
open Al
section
variable {q:Nat} {O:Ops}
def sRow(h:Fld q O)(n:Nat)(r:List Nat)(v:Nat->El q O h):El q O h:=sm (n+1) fun j=>wd h r j*v j
def Nul(h:Fld q O)(n:Nat)(M:List (List Nat))(v:Nat->El q O h):Prop:=∀i,i<n->sRow h n (M.getD i []) v=0
def NulEq(O:Ops)(q n:Nat)(M M':List (List Nat)):Prop:=∀(h:Fld q O)(v:Nat->El q O h),Nul h n M v ↔ Nul h n M' v
theorem nulEq_refl(O:Ops)(q n:Nat)(M:List (List Nat)):NulEq O q n M M:=fun _ _=>Iff.rfl
theorem NulEq.trans{n:Nat}{A B C:List (List Nat)}(b:NulEq O q n A B)(c:NulEq O q n B C):NulEq O q n A C:=fun h v=>(b h v).trans (c h v)
theorem qcZ{rows:List (List Nat)}{i j:Nat}(b:i<rows.length)(c:j<rows.length)(k:Nat):(swapRows rows i j).getD k []=if k=j then rows.getD i [] else if k=i then rows.getD j [] else rows.getD k []:=by unfold swapRows;rw[getD_set _ _ _ _ _ so,getD_set _ _ _ _ _ U0]
theorem nul_swap{n:Nat}{M:List (List Nat)}(l:M.length=n){i j:Nat}(f:i<n)(g:j<n):NulEq O q n M (swapRows M i j):=fun h v=>by
 refine⟨fun hv k hk=>?_,fun hv k hk=>?_⟩
 . rw [qcZ U0 U0]
   split
   . exact hv i f
   . split
     . exact hv j g
     . exact hv k hk
 . by_cases b : k = i
   . subst b
     have:=hv j g
     rw[qcZ U0 U0,if_pos rfl] at this
     exact this
   . by_cases c : k = j
     . subst c
       have:=hv i f
       rw[qcZ U0 U0] at this
       by_cases d:i=k
       . exact absurd d.symm b
       . rw[if_neg d,if_pos rfl] at this
         exact this
     . have:=hv k hk
       rw[qcZ U0 U0,if_neg c,if_neg b] at this
       exact this
theorem nul_set{n:Nat}{M:List (List Nat)}(f:M.length=n){i:Nat}(d:i<n){r:List Nat}(c:∀ (h:Fld q O) (v:Nat->El q O h),(∀ k,k<n->k≠i->sRow h n (M.getD k []) v=0)->(sRow h n r v=0 ↔ sRow h n (M.getD i []) v=0)):NulEq O q n M (M.set i r):=fun h v=>by
 refine⟨fun hv k hk=>?_,fun hv k hk=>?_⟩
 . rw[getD_set _ _ _ _ _ U0]
   split
   . exact(c h v fun k hk _=>hv k hk).2 (hv i d)
   . exact hv k hk
 . have b : ∀ k,k < n -> k ≠ i -> sRow h n (M.getD k []) v = 0 := fun k hk hne => by
    have:=hv k hk
    rw[getD_set _ _ _ _ _ U0,if_neg hne] at this
    exact this
   by_cases e:k=i
   . subst e
     have:=hv k hk
     rw[getD_set _ _ _ _ _ U0,if_pos rfl] at this
     exact(c h v b).1 this
   . exact b k hk e
theorem inv_el(h:Fld q O){y:Nat}(b:y<q)(c:y≠0):El.of h (O.inv y)*El.of h y=1/\El.of h (O.inv y)≠0:=by
 have H:=El.fd (h:=h);have e:El.of h (O.inv y)*El.of h y=1:=by rw[H.mulC,<- El.of_mul b (h.invL y b c),h.inv y b c,El.of_one]
 refine⟨e,fun e2=>?_⟩;rw[e2,H.zmul] at e;exact H.ne e.symm
def UnitC(n c:Nat)(M:List (List Nat)):Prop:=∀i j,i<n->j<c->at2 M i j=if i=j then 1 else 0
theorem el_at(h:Fld q O){n:Nat}{M:List (List Nat)}(b:Grid q n (n+1) M){i j:Nat}(c:i<n)(d:j<n+1){x:Nat}(f:x<q):at2 M i j=x ↔ wd h (M.getD i []) j=El.of h x:=
 ⟨fun e=>by rw[<- qcJ,e],fun e=>El.of_inj (h:=h) (b.at_ c d) f (by rw[qcJ,e])⟩
theorem sol_swap{n c p:Nat}{M:List (List Nat)}(g:Grid q n (n+1) M)(r:UnitC n c M)(m:c<n)(o:p<n)(l:c<=p)(h:at2 M p c≠0):Grid q n (n+1) (swapRows M c p)/\UnitC n c (swapRows M c p)/\at2 (swapRows M c p) c c≠0:=by
 refine⟨qdC g m o,fun i j hi hj=>?_,?_⟩
 . (have d : ∀ k,c <= k -> k < n -> at2 M k j = 0 := fun k h1 h2 => by rw [r k j h2 hj,if_neg U0]);unfold at2 at d ⊢;rw [qcZ (by rw [g.1];omega) (by rw [g.1];omega)];by_cases b:i=p
   . rw[if_pos b,if_neg U0];exact d c (Nat.le_refl _) m
   . rw[if_neg b];by_cases f:i=c
     . rw[if_pos f,if_neg U0];exact d p l o
     . rw[if_neg f];exact r i j hi hj
 . unfold at2 at h ⊢;rw[qcZ (by rw[g.1];omega) (by rw[g.1];omega)];by_cases b:c=p
   . rw[if_pos b];subst b;exact h
   . rw[if_neg b,if_pos rfl];exact h
theorem sol_scale(h:Fld q O){n c:Nat}{M:List (List Nat)}(A:Grid q n (n+1) M)(C:UnitC n c M)(z:c<n)(B:at2 M c c≠0):Grid q n (n+1) (M.set c (scaleRow O (O.inv (at2 M c c)) (M.getD c [])))/\UnitC n c (M.set c (scaleRow O (O.inv (at2 M c c)) (M.getD c [])))/\at2 (M.set c (scaleRow O (O.inv (at2 M c c)) (M.getD c []))) c c=1/\NulEq O q n M (M.set c (scaleRow O (O.inv (at2 M c c)) (M.getD c []))):=by
 have H:=El.fd (h:=h);obtain⟨t,m⟩:=A.row z;have k:=A.at_ z (show c<n+1 by omega);have g:=h.invL _ k B;obtain⟨r,u⟩:=inv_el h k B
 have d:Grid q n (n+1) (M.set c (scaleRow O (O.inv (at2 M c c)) (M.getD c []))):=A.set c ⟨by unfold scaleRow;rw[List.length_map,t],fun x hx=>by
  obtain⟨y,l,rfl⟩:=List.mem_map.1 hx
  exact h.mulL _ _ g (m y l)⟩
 have p:∀j,wd h (scaleRow O (O.inv (at2 M c c)) (M.getD c [])) j=El.of h (O.inv (at2 M c c))*wd h (M.getD c []) j:=fun j=>wd_scale g m j;have b:(M.set c (scaleRow O (O.inv (at2 M c c)) (M.getD c []))).getD c []=scaleRow O (O.inv (at2 M c c)) (M.getD c []):=by rw[getD_set _ _ _ _ _ (by rw[A.1];exact z),if_pos rfl]
 refine⟨d,fun i j hi' hj=>?_,?_,nul_set A.1 z fun h' v _=>?_⟩
 . by_cases e : i = c
   . subst e;rw[if_neg U0];refine(el_at h d z U0 U0).2 ?_;rw[b,p,El.of_zero,(el_at h A z U0 (show 0<q by omega)).1 (by rw[C i j z hj,if_neg U0]),El.of_zero,H.mulZ]
   . have:=C i j hi' hj;rw[Al.at2_set (by rw[A.1];exact z),if_neg e];exact this
 . refine(el_at h d z U0 h.q1).2 ?_;rw[b,p,<- qcJ,r,El.of_one]
 . have f:=El.fd (h:=h');(have s:sRow h' n (scaleRow O (O.inv (at2 M c c)) (M.getD c [])) v=El.of h' (O.inv (at2 M c c))*sRow h' n (M.getD c []) v:=by unfold sRow;rw[<- f.sm_mul];refine f.sm_congr fun j _=>?_;rw[wd_scale g m j,f.mulA]);rw[s];refine⟨fun e=>?_,fun e=>by rw[e,f.mulZ]⟩;by_cases o:sRow h' n (M.getD c []) v=0
   . exact o
   . exact absurd e (f.mulne (inv_el h' k B).2 o)
theorem sol_clear(h:Fld q O){n c i:Nat}{M:List (List Nat)}(s:Grid q n (n+1) M)(y:UnitC n c M)(u:c<n)(z:at2 M c c=1)(t:i<n)(x:i≠c):Grid q n (n+1) (M.set i (List.zipWith (subF O (at2 M i c)) (M.getD i []) (M.getD c [])))/\UnitC n c (M.set i (List.zipWith (subF O (at2 M i c)) (M.getD i []) (M.getD c [])))/\(∀ k,at2 (M.set i (List.zipWith (subF O (at2 M i c)) (M.getD i []) (M.getD c []))) k c=if k=i then 0 else at2 M k c)/\NulEq O q n M (M.set i (List.zipWith (subF O (at2 M i c)) (M.getD i []) (M.getD c []))):=by
 have H:=El.fd (h:=h);have l:=s.at_ t (show c<n+1 by omega);obtain⟨p,m⟩:=subF_ok h l (s.row t) (s.row u);have r:=h.q1;have f:Grid q n (n+1) (M.set i (List.zipWith (subF O (at2 M i c)) (M.getD i []) (M.getD c []))):=s.set i p;have d:(M.set i (List.zipWith (subF O (at2 M i c)) (M.getD i []) (M.getD c []))).getD i []=List.zipWith (subF O (at2 M i c)) (M.getD i []) (M.getD c []):=by rw[getD_set _ _ _ _ _ (by rw[s.1];exact t),if_pos rfl]
 refine⟨f,fun k j hk hj=>?_,fun k=>?_,nul_set s.1 t fun h' v hv=>?_⟩
 . have g:=y k j hk hj;by_cases e:k=i
   . subst e;refine(el_at h f hk U0 (by split<;>omega)).2 ?_;rw[d,m,<- qcJ,<- qcJ,y c j u hj,if_neg (show ¬c=j by omega),El.of_zero,H.mulZ,H.negz,H.zadd,g]
   . rw[Al.at2_set (by rw[s.1];exact t),if_neg e];exact g
 . by_cases e : k = i
   . subst e;rw[if_pos rfl];refine(el_at h f t U0 U0).2 ?_;rw[d,m,<- qcJ,<- qcJ,z,El.of_one,H.umul,H.addN,El.of_zero]
   . rw[Al.at2_set (by rw[s.1];exact t),if_neg e,if_neg e]
 . have b:=El.fd (h:=h');(have o:sRow h' n (List.zipWith (subF O (at2 M i c)) (M.getD i []) (M.getD c [])) v=sRow h' n (M.getD i []) v+-El.of h' (at2 M i c)*sRow h' n (M.getD c []) v:=by unfold sRow;rw[<- b.sm_lin];refine b.sm_congr fun j _=>?_;rw[(subF_ok h' l (s.row t) (s.row u)).2 j,b.rdist,b.negm,b.negm,b.mulA]);rw[o,hv c u (fun e=>x e.symm),b.mulZ,b.zadd]
def Solv(O:Ops)(q n:Nat)(M:List (List Nat))(out:List Nat):Prop:=∀h:Fld q O,(∀i,i<n->sm n (fun j=>wd h (M.getD i []) j*wd h out j)=wd h (M.getD i []) n)/\∀c:Nat->El q O h,(∀i,i<n->sm n (fun j=>wd h (M.getD i []) j*c j)=0)->∀j,j<n->c j=0
theorem solv_of{n:Nat}{o M:List (List Nat)}(_:Grid q n (n+1) M)(s:UnitC n n M)(p:NulEq O q n o M){m:List Nat}(u:∀ i,i<n->m.getD i 0=at2 M i n):Solv O q n o m:=fun h=>by
 have H:=El.fd (h:=h)
 have g:∀(v:Nat->El q O h) i,i<n->sRow h n (M.getD i []) v=v i+wd h (M.getD i []) n*v n:=fun v i hi=>by
  show sm n _+_=_
  rw[H.sm_one (i:=i) hi fun j hj hne=>by rw[<- qcJ,s i j hi hj,if_neg (fun e=>hne e.symm),El.of_zero,H.zmul]]
  rw[<- qcJ,s i i hi hi,if_pos rfl,El.of_one,H.mulU]
 have hcut:∀(f:Nat->El q O h)(z:El q O h)(r:List Nat),sRow h n r (fun j=>if j<n then f j else z)=sm n (fun j=>wd h r j*f j)+wd h r n*z:=fun f z r=>by
  have l:sm n (fun j=>wd h r j*if j<n then f j else z)=sm n (fun j=>wd h r j*f j):=H.sm_congr fun j hj=>by rw[if_pos hj]
  show sm n (fun j=>wd h r j*if j<n then f j else z)+wd h r n*(if n<n then f n else z)=_
  rw[if_neg (Nat.lt_irrefl n),l]
 refine⟨fun i hi=>?_,fun c hc j hj=>?_⟩
 . have d : Nul h n M fun j => if j < n then wd h m j else -1 := fun k hk => by
    rw[g _ k hk,if_pos hk,if_neg (Nat.lt_irrefl n),H.mneg,H.umul,<- qcJ,<- u k hk]
    exact H.addN _
   have b:=(p h _).2 d i hi
   rw[hcut,H.mneg,H.umul] at b
   exact H.subz b
 . have d : Nul h n o fun j => if j < n then c j else 0 := fun k hk => by
    rw[hcut,hc k hk,H.mulZ,H.addZ]
   have b:=(p h _).1 d j hj
   rw[g _ j hj,if_pos hj,if_neg (Nat.lt_irrefl n),H.mulZ,H.zadd] at b
   exact b
end
end Go.Proofs.YtndipkplnkfoeaaGreat
namespace Go.Proofs.YtndipkplnkfoeaaGreat
open Go.RowKit Pln
def SolI(O:Ops)(q n:Nat)(M0:List (List Nat))(c:Nat)(rows:List (List Nat)):Prop:=Grid q n (n+1) rows/\UnitC n c rows/\NulEq O q n M0 rows
def RelSo1(w:World)(B R n q:Nat)(O:Ops)(M0:List (List Nat))(v20:Value)(wr:World):Prop:=∃(c:Nat)(rows:List (List Nat))(bs:List (Nat × Nat)),c<=n/\v20=Y (c:Int)/\GridAt wr B R n rows bs/\SolI O q n M0 c rows/\Below B w wr
def RelSo2(w:World)(B R n q:Nat)(O:Ops)(M0:List (List Nat))(c k:Nat)(v8:Value)(wr:World):Prop:=v8=Y (k:Int)/\∃(rows:List (List Nat))(bs:List (Nat × Nat)),GridAt wr B R n rows bs/\SolI O q n M0 c rows/\at2 rows c c≠0/\Below B w wr
def RelSo3(w:World)(B R n q:Nat)(O:Ops)(M0:List (List Nat))(c:Nat)(v80:Value)(wr:World):Prop:=∃(i:Nat)(rows:List (List Nat))(bs:List (Nat × Nat)),i<=n/\v80=Y (i:Int)/\GridAt wr B R n rows bs/\SolI O q n M0 c rows/\at2 rows c c=1/\(∀k,k<i->k≠c->at2 rows k c=0)/\Below B w wr
def RelSo5(w:World)(B R n g:Nat)(rows:List (List Nat))(bs:List (Nat × Nat))(v133:Value)(wr:World):Prop:=∃k:Nat,k<=n/\v133=Y (k:Int)/\Row wr B g n (nz (scK (fun i=>at2 rows i n) (List.range n) k))/\GridAt wr B R n rows bs/\Below B w wr
def SolPost(w:World)(B:Nat)(O:Ops)(q n:Nat)(M0:List (List Nat))(e:Ending)(w':World):Prop:=
 (e=.returned (.tuple #[zL none 0 0,.bool false])\/∃(g:Nat)(out:List Nat),e=.returned (.tuple #[zS g n n,.bool true])/\Row w' B g n (nz out)/\Dv.Ok q n out/\Solv O q n M0 out)/\Below B w w'
theorem GridAt.swap2{w:World}{B R d:Nat}{rows:List (List Nat)}{b:List (Nat × Nat)}(h:GridAt w B R d rows b){i j:Nat}(c:i<rows.length)(f:j<rows.length):
 ∃bs',GridAt ((w.setCell (zA R i) (hdr rows b j)).setCell (zA R j) (hdr rows b i)) B R d (swapRows rows i j) bs':=by
 by_cases e:i=j
 . subst e;exact⟨b,by rw[swap_self rows i c];exact(h.same c).same c⟩
 . exact⟨_,h.swap c f e⟩
theorem solI_swap{O:Ops}{q n:Nat}{i rows:List (List Nat)}{c k:Nat}(h:SolI O q n i c rows)(j:c<n)(l:k<n)(g:c<=k)(m:at2 rows k c≠0):SolI O q n i c (swapRows rows c k)/\at2 (swapRows rows c k) c c≠0:=by obtain⟨b,d,f⟩:=sol_swap h.1 h.2.1 j l g m;exact⟨⟨b,d,h.2.2.trans (nul_swap h.1.1 j l)⟩,f⟩
theorem solI_scale{O:Ops}{q n:Nat}{i rows:List (List Nat)}{c:Nat}(l:Al.Fld q O)(h:SolI O q n i c rows)(k:c<n)(j:at2 rows c c≠0):SolI O q n i c (rows.set c (scaleRow O (O.inv (at2 rows c c)) (rows.getD c [])))/\at2 (rows.set c (scaleRow O (O.inv (at2 rows c c)) (rows.getD c []))) c c=1:=by obtain⟨b,d,f,g⟩:=sol_scale l h.1 h.2.1 k j;exact⟨⟨b,d,h.2.2.trans g⟩,f⟩
theorem solI_clear{O:Ops}{q n:Nat}{l rows:List (List Nat)}{c i:Nat}(p:Al.Fld q O)(h:SolI O q n l c rows)(o:c<n)(m:at2 rows c c=1)(r:i<n)(j:i≠c)(s:∀k,k<i->k≠c->at2 rows k c=0):SolI O q n l c (rows.set i (List.zipWith (subF O (at2 rows i c)) (rows.getD i []) (rows.getD c [])))/\at2 (rows.set i (List.zipWith (subF O (at2 rows i c)) (rows.getD i []) (rows.getD c []))) c c=1/\∀k,k<i+1->k≠c->at2 (rows.set i (List.zipWith (subF O (at2 rows i c)) (rows.getD i []) (rows.getD c []))) k c=0:=by
 obtain⟨d,f,b,g⟩:=sol_clear p h.1 h.2.1 o m r j;refine⟨⟨d,f,h.2.2.trans g⟩,by rw[b,if_neg (fun e=>j e.symm)];exact m,fun k hk hkc=>?_⟩;rw[b];by_cases e:k=i
 . rw[if_pos e]
 . rw[if_neg e];exact s k U0 hkc
theorem solI_next{O:Ops}{q n:Nat}{d rows:List (List Nat)}{c:Nat}(h:SolI O q n d c rows)(f:at2 rows c c=1)(g:∀ k,k<n->k≠c->at2 rows k c=0):SolI O q n d (c+1) rows:=⟨h.1,fun i j hi hj=>by
 by_cases e:j=c
 . subst e
   by_cases b:i=j
   . rw[if_pos b,b];exact f
   . rw[if_neg b];exact g i hi b
 . exact h.2.1 i j hi U0,h.2.2⟩
theorem solve_c(gb B p m R n:Nat)(md l:List Nat)(M0:List (List Nat))(f1:List (Nat × Nat))(w:World)(hF:FT p m md l)(hG:GFAt w B gb p m l (logL l (p ^ m)))(hB:B<=w.heap.size)(hD:GridAt w B R n M0 f1)(f2:Grid (p ^ m) n (n+1) M0)(hn:n<=64):
 zC 228 #[zP gb,zS R n n] w (SolPost w B (opsT p m l) (p^m) n M0):=by
 have a1:=zH (Al.fld_of hF);have fw:=a1.out.q1;obtain⟨H,c8⟩:∃H,H=n+1:=⟨_,rfl⟩;have D:Hid (n+1=H):=c8.symm;have ba:Hid (RelSo1 w B R n (p^m) (opsT p m l) M0 (Y ((0:Nat):Int)) w):=⟨0,M0,f1,U0,rfl,hD,⟨f2,fun i j _ hj=>absurd hj (Nat.not_lt_zero j),nulEq_refl _ _ _ _⟩,Below.refl _ _⟩;have cf:Hid (∀(W:World)(x:Nat),Below B w W->x<p^m->x≠0->zC 101 (Db gb x) W (Quiet (.tuple #[Y (((opsT p m l).inv x:Nat):Int),Y 0]) W)):=fun W x hW hx h0=>inv_c x gb p m B md l W hF (hG.keep hW) hx h0;have cj:Hid (∀(W:World)(a b:Nat),Below B w W->a<p^m->b<p^m->zC 142 (Cn gb a b) W (Quiet (Y (((opsT p m l).mul a b:Nat):Int)) W)):=fun W a b hW ha hb=>mul_c a b gb p m B md l W hF (hG.keep hW) ha hb;have cs:Hid (∀(W:World)(a b:Nat),Below B w W->B<=W.heap.size->a<p^m->b<p^m->zC 76 (Cn gb a b) W (Quiet (Y (((opsT p m l).add a ((opsT p m l).neg b):Nat):Int)) W)):=fun W a b hW hs ha hb=>sub_c a b gb p m B md l W hF (hG.keep hW) hs ha hb;have d3:Hid (∀(W:World)(a b c:Nat)(v:List Nat),Below B w W->B<=W.heap.size->a<p^m->Dv.Ok (p^m) H v->Row W B b c (nz v)->zC 75 #[zP gb,Y (a:Int),zS b H c] W fun e w'=>(∃g,e=.returned (zS g H H)/\Row w' W.heap.size g H (nz (scaleRow (opsT p m l) a v)))/\Below W.heap.size W w'):=fun W a b c v hW hs ha hv hr=>by have:=scale_c a gb p m md l v (zO b) c W hF ((hG.keep hW).more hs) ha hv.2 (hr.ints hr.lt.2) (by rw[hv.1];omega);rw[hv.1] at this;exact this.mono fun e w' ⟨h1,h2,h3⟩=>⟨⟨_,h1,h2⟩,h3⟩
 have dw:Hid (∀a b,a<p^m->b<p^m->(opsT p m l).mul a b<p^m):=fun a b ha hb=>mulT_lt hF ha hb;have c9:0<p^m:=U0;obtain⟨zo,a7,da⟩:=makeN n U0;have dx:=zH a7;have d1:=zH da;clear hF hG hD f2 c8 a7 da;generalize opsT p m l=O at *;generalize p^m=q at *;have HB:=zH hB;go_enter Tryz.func228,Tryz.ntmps228;go_wp2_with fail;go_loopw [20] (fun v20 wr=>RelSo1 w B R n q O M0 v20 wr) (fun v20 _=>n-(intOf v20).toNat);case atStart=>exact ba.out
 case round =>
  obtain⟨c,rows,bs,hc,rfl,z,E,J⟩:=hrel;have r:=zH z;have L:=zH E;have P:=zH J;have T:Hid (rows.length=n):=E.1.1;clear z E J ba;by_cases K:c<n
  . (have c0 : (0 : Int) <= (c : Int) := by omega);have c1:(c:Int)<(n:Int):=U0;(have c2:(c:Int)<(H:Int):=by have:=D.out;omega);have al:c<n+1:=U0;go_upto_block 2 with fail;go_cut [8] (fun v8 wx=>(∃ k:Nat,v8=Y (k:Int)/\c<=k/\k<=n/\(k<n->at2 rows k c≠0))/\wx=wr);case first =>
     go_wp2_with fail;go_loop [8] (fun v8=>∃k:Nat,v8=Y (k:Int)/\c<=k/\k<=n) (fun v8=>n-(intOf v8).toNat);case atStart=>exact⟨c,rfl,U0,U0⟩
     case round =>
      obtain⟨k,rfl,a5,b1⟩:=hrel;by_cases ar:k<n
      . have b6 := T.out;have yh:=r.out.cell (i:=k) U0;have ab:=(L.out.1.row ar).1;rw [ab,D.out] at yh;have ye:=(r.out.row k U0).cell (j:=c) (by rw [qaA,ab];exact al);rw [qaC] at ye;have cd:Hid ((rows.getD k []).getD c 0=at2 rows k c):=rfl;rw [cd.out] at ye;clear b6 ab cd;have k0:(0:Int)<=(k:Int):=U0;have k1:(k:Int)<(n:Int):=U0;by_cases hz:at2 rows k c=0
        . rw[hz] at ye;clear hz;go_wp2_with fail;go_round;case rel=>exact⟨k+1,gn,U0,U0⟩
          case measure=>exact mE
        . (have fy:(((at2 rows k c:Nat):Int)==0)=false:=by simpa using hz);have HZ:=zH hz;clear hz;go_wp2_with fail;go_meet;exact⟨⟨k,rfl,a5,b1,fun _=>HZ.out⟩,rfl⟩
      . (obtain rfl:k=n:=by omega);go_wp2_with fail;go_meet;exact⟨⟨_,rfl,a5,b1,fun h=>absurd h (Nat.lt_irrefl _)⟩,rfl⟩
    case rest =>
     obtain⟨⟨k,rfl,a5,b1,c6⟩,rfl⟩:=hcut;have bp:=zH c6;clear c6;by_cases fn:k=n
     . subst fn;clear bp;go_wp2_with fail;go_ret2;exact⟨.inl rfl,P.out⟩
     . (have b0 : k < n := by omega);(have fm:(((k:Nat):Int)==(n:Int))=false:=by rw [beq_eq_false_iff_ne];omega);obtain ⟨bh,bj⟩:=solI_swap L.out K b0 a5 (bp.out b0);have bq:=zH bh;have br:=zH bj;have b6:=T.out;have aw:=r.out.swap2 (i:=c) (j:=k) U0 U0;have A:=(L.out.1.row K).1;have b2:=(L.out.1.row b0).1;have yk:=r.out.cell (i:=k) U0;have yt:=r.out.cell (i:=c) U0;(have bx:∀ i,(rows.getD i []).length=n+1->hdr rows bs i=zS (bk bs i) H (cp bs i):=fun i hi=>by unfold hdr;rw [hi,D.out]);rw [bx c A,bx k b2] at aw;rw [b2,D.out] at yk;rw [A,D.out] at yt;have bu:=zH aw;have k0:(0:Int)<=(k:Int):=U0;have k1:(k:Int)<(n:Int):=U0;have ft:=r.out.frozen c;have fk:=r.out.frozen k;have a0:=zH r.out.lt.1;clear bh bj aw A b2 bx b6 bp L r T;generalize swapRows rows c k=ax at *;go_upto_region 10 with fail;go_cut [8] (fun v8 wx=>RelSo2 w B R n q O M0 c k v8 wx);case first =>
        by_cases di:c=k
        . subst di;go_region
          all_goals
           obtain⟨ak,au⟩:=bu.out
           have HX:=zH (au.drewN 1)
           clear au yk yt ft fk
           go_wp2_with fail
           go_meet
           exact⟨rfl,ax,ak,HX.out,bq.out,br.out,((P.out.setCell (p:=(zA R c)) a0.out _).setCell (p:=(zA R c)) a0.out _).drew⟩
        . have fv : k ≠ c := fun e => di e.symm;go_region
          all_goals
           obtain⟨ak,au⟩:=bu.out
           have HX:=zH (au.drewN 1)
           clear au yk yt ft fk
           go_wp2_with fail
           go_meet
           exact⟨rfl,ax,ak,HX.out,bq.out,br.out,((P.out.setCell (p:=(zA R c)) a0.out _).setCell (p:=(zA R k)) a0.out _).drew⟩
       case rest =>
        obtain⟨rfl,o,ct,z,E,b8,J⟩:=hcut;have r:=zH z;have L:=zH E;have d9:=zH b8;have ag:=zH J;have T:Hid (o.length=n):=E.1.1;have A:=(E.1.row K).1;(have a6:c<o.length:=by rw[T.out];exact K);have yt:=z.cell a6;rw[A,D.out] at yt;have ye:=(z.row c a6).cell (j:=c) (by rw[qaA,A];exact al);rw[qaC,show(o.getD c []).getD c 0=at2 o c c from rfl] at ye;have hx:=E.1.at_ K al;have aq:=a1.out.invL _ hx b8;obtain⟨db,dd⟩:=solI_scale a1.out E K b8;have bb:=zH db;have bd:=zH dd;(have ck:Hid (Dv.Ok q H (o.getD c [])):=by have:=E.1.row K;rw[D.out] at this;exact this);have cx:R<wc.heap.size:=z.lt.2;have cw:B<=R:=z.lt.1;have af:B<=wc.heap.size:=U0;have ft:=z.frozen c;(have de:(scaleRow O (O.inv (at2 o c c)) (o.getD c [])).length=H:=by unfold scaleRow;rw[List.length_map,A,D.out]);(have a9:Hid (∀(W:World)(g:Nat),Below wc.heap.size wc W->Row W wc.heap.size g H (nz (scaleRow O (O.inv (at2 o c c)) (o.getD c [])))->∃ak,GridAt (W.setCell (zA R c) (zS g H H)) B R n (o.set c (scaleRow O (O.inv (at2 o c c)) (o.getD c []))) ak):=fun W g hW hr=>by have:=(r.out.grow hW).put a6 (g:=g) (c:=H) (hr.base (by have:=hr.lt.1;omega)) (fun j hj=>by have:=(r.out.row j hj).lt.2;have:=hr.lt.1;omega);rw[de] at this;exact⟨_,this⟩);have aa:=zH (z.row c a6);clear z E J A db dd de bq br bu P yk fk fm;generalize at2 o c c=x at *;have dv:=zH (cf.out wc x ag.out hx d9.out);generalize O.inv x=iv at *;generalize dg:scaleRow O iv (o.getD c [])=sr at *;have d4:=zH dg;clear dg;generalize bk ct c=bc at *;generalize cp ct c=cc at *;go_wp2_with fail;(with_reducible refine dv.out.mono ?_);rintro e2 w2 ⟨rfl,n2,rfl⟩;have ay:Hid (Below wc.heap.size wc (wc.drewN n2)):=qaB (Below.refl _ _) n2;have fo:(wc.drewN n2).cell? (zA R c)=some (zS bc H cc):=yt;have cq:Hid (Row (wc.drewN n2) B bc cc (nz (o.getD c []))):=aa.out.below ay.out aa.out.lt.2;have ad:Hid (wc.heap.size=(wc.drewN n2).heap.size):=rfl;generalize cz:wc.drewN n2=w2 at *;have d8:=zH cz;clear cz;go_wp2_with fail;(with_reducible refine(d3.out w2 iv bc cc _ (ag.out.trans (ay.out.mono af)) (by rw[<- ad.out];exact af) aq ck.out cq.out).mono ?_);rintro e3 w3 ⟨⟨g,rfl,hr3⟩,hb3⟩;rw[<- ad.out,d4.out] at hr3;rw[<- ad.out] at hb3;have az:Hid (Below wc.heap.size wc w3):=ay.out.trans hb3;have fp:=(az.out.cell (p:=(zA R c)) cx).trans yt;have fe:=(az.out.frozen (p:=(zA R c)) cx).trans ft;obtain⟨fc,c3⟩:=a9.out w3 g az.out hr3;have ah:Hid (RelSo3 w B R n q O M0 c (Y ((0:Nat):Int)) (w3.setCell (zA R c) (zS g H H))):=⟨0,_,fc,U0,rfl,c3,bb.out,bd.out,fun k hk=>absurd hk (Nat.not_lt_zero k),(ag.out.trans (az.out.mono af)).setCell (p:=(zA R c)) cw _⟩;clear hr3 hb3 c3 yt fo ft ay cq ad d8 ye hx aq a9 ck aa bb bd;go_wp2_with fail;go_loopw [80] (fun v80 wr=>RelSo3 w B R n q O M0 c v80 wr) (fun v80 _=>n-(intOf v80).toNat);case atStart=>exact ah.out
        case round =>
         obtain⟨i,d,y,hi,rfl,z,E,bg,bm,J⟩:=hrel;have s:=zH z;have C:=zH E;have S:=zH bg;have V:=zH bm;have ac:=zH J;have aj:Hid (d.length=n):=E.1.1;(have be:B<=wr.heap.size:=by have:=z.lt;omega);clear z E bg bm J ah fp fe;by_cases ap:i<n
         . (have ao : i < d.length := by rw [aj.out];exact ap);(have an:c<d.length:=by rw [aj.out];exact K);have X:=(C.out.1.row ap).1;have A:=(C.out.1.row K).1;have yi:=s.out.cell ao;rw [X,D.out] at yi;have b9:=(s.out.row i ao).cell (j:=c) (by rw [qaA,X];exact al);rw [qaC,show (d.getD i []).getD c 0=at2 d i c from rfl] at b9;have bw:=C.out.1.at_ ap al;have i0:(0:Int)<=(i:Int):=U0;have i1:(i:Int)<(n:Int):=U0;by_cases bz:i=c
           . subst bz;have fj:(((i:Nat):Int) != (i:Int))=false:=U2;clear X A;go_wp2_with fail;go_roundw;case rel=>exact⟨i+1,d,y,U0,gn,s.out,C.out,S.out,fun k hk hkc=>V.out k U0 hkc,ac.out⟩
             case measure=>exact mE
           . (have fj : (((i : Nat) : Int) != (c : Int)) = true := by rw [bne_iff_ne];omega);by_cases a4:at2 d i c=0
             . have dl := zH a4;rw [a4] at b9;clear a4 X A bw;go_wp2_with fail;go_roundw
               case rel=>exact⟨i+1,d,y,U0,gn,s.out,C.out,S.out,fun k hk hkc=>by
                by_cases e:k=i
                . rw[e];exact dl.out
                . exact V.out k U0 hkc,ac.out⟩
               case measure=>exact mE
             . (have fu : (((at2 d i c : Nat) : Int) != 0) = true := by rw [bne_iff_ne];omega);have yc:=s.out.cell an;rw [A,D.out] at yc;have a8:=s.out.row i ao;have b3:=s.out.row c an;obtain ⟨hS,hO,hZ⟩:=solI_clear a1.out C.out K S.out ap bz V.out;have d5:=zH hS;have dz:=zH hO;have fa:=zH hZ
               have d6:Hid (∀W:World,Row W B (bk y i) (cp y i) (nz (List.zipWith (subF O (at2 d i c)) (d.getD i []) (d.getD c [])))->wr.grownBy W (some (bk y i))->GridAt W B R n (d.set i (List.zipWith (subF O (at2 d i c)) (d.getD i []) (d.getD c []))) y):=fun W h1 h2=>
                s.out.turn ao (by rw[List.length_zipWith,X,A,Nat.min_self]) h1 h2
               have du:Hid (bk y i≠bk y c):=s.out.nd i c ao an bz;have d0:Hid (bk y i≠R):=s.out.ne a8;(have a2:Hid ((d.getD i []).length=(d.getD c []).length):=by show _=_;rw[X,A]);(have d2:Hid ((d.getD i []).length=H):=by show _=_;rw[X,D.out]);have cm:Hid (∀x∈d.getD i [],x<q):=(C.out.1.row ap).2;have cl:Hid (∀x∈d.getD c [],x<q):=(C.out.1.row K).2;have dn:=zH a8.lt;have dm:=zH b3.lt;have cy:R<wr.heap.size:=s.out.lt.2;(have ce:Hid (∀j,j<H->wr.cell? (zA (bk y c) j)=some (Y (((d.getD c []).getD j 0:Nat):Int))):=fun j hj=>by have:=b3.cell (j:=j) (by rw[qaA,A,D.out];exact hj);rw[qaC] at this;exact this);have co:Hid (RelRe wr B (bk y i) (cp y i) (subF O (at2 d i c)) (d.getD i []) (d.getD c []) (Y ((0:Nat):Int)) wr):=⟨0,U0,rfl,by rw[zwK_zero];exact a8,World.grownBy.refl _ _⟩;obtain⟨wb,rfl⟩:∃wb,wb=wr:=⟨wr,rfl⟩;clear a8 b3 hS hO hZ X A a4 s C S V aj;generalize at2 d i c=a at *;generalize d.getD i []=I at *;generalize d.getD c []=N at *;generalize bk y i=bi at *;generalize cp y i=ci at *;generalize bk y c=fb at *;generalize cp y c=fs at *;go_wp2_with fail;go_loopw [102] (fun v102 wx=>RelRe wb B bi ci (subF O a) I N v102 wx) (fun v102 _=>H-(intOf v102).toNat);case atStart=>exact co.out
               case round =>
                obtain⟨t,ht,rfl,Z,bf⟩:=hrel;have Q:=zH Z;have M:=zH bf;clear Z bf co;have c4:=d2.out;(have fr:H<=65:=by have:=D.out;omega);have bo:Hid (Below B w wr):=ac.out.grown M.out be (fun k hk=>by injection hk with hk;have:=dn.out.1;omega);have fi:B<=wr.heap.size:=Nat.le_trans be M.out.size;by_cases c7:t<H
                . (have dh : t < I.length := by omega);have f0:=(M.out.cell_far (zA R i) cy (fun e=>by injection e with e;exact d0.out e.symm)).trans yi;have fz:=(M.out.cell_far (zA fb t) dm.out.2 (fun e=>by injection e with e;exact du.out e.symm)).trans (ce.out t c7);have yg:=Q.out.cell (j:=t) (by rw [qaA,zwK_len a2.out U0];omega);rw [qaC,zwK_at a2.out dh] at yg;have fg:=Q.out.frozen t;have a3:=zH (zwK_set (f:=subF O a) a2.out dh);have ha:I.getD t 0<q:=Al.getD_ok cm.out c9 t;have hb:N.getD t 0<q:=Al.getD_ok cl.out c9 t;have t0:(0:Int)<=(t:Int):=U0;have t1:(t:Int)<(H:Int):=U0;have cr:Hid (subF O a (I.getD t 0) (N.getD t 0)=O.add (I.getD t 0) (O.neg (O.mul a (N.getD t 0)))):=rfl;rw [cr.out] at a3;clear c4 yi b9 yc ce;generalize I.getD t 0=av at *;generalize N.getD t 0=bv at *;(have HM:Hid (∀ W,SDrew wr W->zC 142 (Cn gb a bv) W fun e w'=>e=.returned (Y ((O.mul a bv:Nat):Int))/\SDrew wr w'):=fun W ⟨n',hW⟩=>by subst hW;refine (cj.out _ a bv (qaB bo.out n') bw hb).mono ?_;rintro e w' ⟨he,k,rfl⟩;exact ⟨he,n'+k,U9⟩);have ch:=dw.out a bv bw hb;(have HS:Hid (∀ W,SDrew wr W->zC 76 (Cn gb av ((O.mul a bv:Nat):Int)) W fun e w'=>e=.returned (Y ((O.add av (O.neg (O.mul a bv)):Nat):Int))/\SDrew wr w'):=fun W ⟨n',hW⟩=>by subst hW;refine (cs.out _ av _ (qaB bo.out n') fi ha ch).mono ?_;rintro e w' ⟨he,k,rfl⟩;exact ⟨he,n'+k,U9⟩);clear cr ch;go_upto_region 21 with fail;refine qaI 19 (SDrew wr) U1 U1 ⟨1,rfl⟩ ?_;simp only [List.take_succ_cons,List.take_zero,List.drop_succ_cons,List.drop_zero]
                  repeat (first
                   | (apply qaJ rfl
                      . intro W hS
                        obtain⟨n',rfl⟩:=hS
                        go_simp
                        rfl
                      go_simp)
                   | (apply qaO rfl
                      . intro W hS
                        go_simp
                        exact⟨rfl,rfl⟩
                      . intro W hS
                        first
                         |exact HM.out W hS
                         |exact HS.out W hS
                      go_simp))
                  refine qaE ?_;intro w2 fh;obtain⟨n',rfl⟩:=fh;generalize O.add av (O.neg (O.mul a bv))=zv at *;go_wp2_with fail;go_roundw;case rel=>refine⟨t+1,U0,gn,?_,grown_trans (grown_trans M.out (grown_drewN wr n' _)) (grown_set _ (zA bi t) _)⟩;rw[<- a3.out,<- qbC];exact Row.set (w:=wr.drewN n') Q.out t _
                  case measure=>exact mE
                . (have dj : t = I.length:=by omega);(have dr:Hid (Row wr B bi ci (nz (List.zipWith (subF O a) I N))):=by have:=Q.out;rw[dj,zwK_all a2.out] at this;exact this);have fx:t=H:=U0;have fq:¬(t:Int)<(H:Int):=U0;clear dj c4;go_wp2_with fail;go_roundw;case rel=>exact⟨i+1,_,y,U0,gn,d6.out wr dr.out M.out,d5.out,dz.out,fa.out,bo.out⟩
                  case measure=>exact mE
         . (obtain rfl : i = n:=by omega);go_wp2_with fail;go_roundw;case rel=>exact⟨c+1,d,y,U0,gn,s.out,solI_next C.out S.out (fun k hk hkc=>V.out k hk hkc),ac.out⟩
           case measure=>exact mE
  . (obtain rfl : c = n := by omega);have d7:Hid (UnitC c c rows):=L.out.2.1;have dy:Hid (NulEq O q c M0 rows):=L.out.2.2;have bt:Hid (Grid q c (c+1) rows):=L.out.1;have cw:B<=R:=r.out.lt.1;(have af:B<=wr.heap.size:=by have:=r.out.lt;omega);have bn:Hid (Below wr.heap.size wr (wr.alloc (.cells zo 3))):=(Below.refl _ _).alloc (Nat.le_refl _) _
    have ai:Hid (RelSo5 w B R c wr.heap.size rows bs (Y ((0:Nat):Int)) (wr.alloc (.cells zo 3))):=⟨0,U0,rfl,by
     have e:scK (fun i=>at2 rows i c) (List.range c) 0=List.replicate c 0:=by simp[scK]
     rw[e]
     exact d1.out wr B af,r.out.grow bn.out,P.out.trans (bn.out.mono af)⟩
    have a7:=dx.out;(have ds:Hid (∀i,i<c->bk bs i≠wr.heap.size):=fun i hi=>by have:=(r.out.row i (by rw[T.out];exact hi)).lt.2;omega);(have ff:R≠wr.heap.size:=by have:=r.out.lt.2;omega);clear L r P bn;go_upto_region 26 with fail;clear a7;generalize wr.alloc (.cells zo 3)=w6 at *;generalize wr.heap.size=g at *;go_wp2_with fail;go_loopw [133] (fun v133 wr=>RelSo5 w B R c g rows bs v133 wr) (fun v133 _=>c-(intOf v133).toNat);case atStart=>exact ai.out
    case round =>
     obtain⟨k,hk,rfl,Z,z,J⟩:=hrel;have U:=zH Z;have r:=zH z;have P:=zH J;clear Z z J ai;by_cases ae:k<c
     . (have ar : k < rows.length:=by rw[T.out];exact ae);have yh:=r.out.cell ar;have ab:=(bt.out.row ae).1;rw[ab,D.out] at yh;have ye:=(r.out.row k ar).cell (j:=c) (by rw[qaA,ab];omega);rw[qaC,show(rows.getD k []).getD c 0=at2 rows k c from rfl] at ye;(have c5:k<(List.range c).length:=by rw[List.length_range];exact ae);have b7:=scK_set (fun i=>at2 rows i c) (List.range c) k c5;rw[show(List.range c).getD k 0=k by simp[List.getD,ae]] at b7;have a3:=zH b7;have fg:=U.out.frozen k;have cg:=U.out.cell (j:=k) (by rw[qaA,scK_len _ _ _ U0];exact c5);have k0:(0:Int)<=(k:Int):=U0;have k1:(k:Int)<(c:Int):=U0;have c0:(0:Int)<=(c:Int):=U0;(have c2:(c:Int)<(H:Int):=by have:=D.out;omega);have dt:Hid (∀u:Value,GridAt (wr.setCell (zA g k) u) B R c rows bs):=fun u=>r.out.else_ (p:=(zA g k)) ff (fun i hi=>ds.out i (by rw[<- T.out];exact hi)) u;have dp:Hid (B<=g):=U.out.lt.1;clear ab b7 ar;generalize hv:at2 rows k c=v at *;have HV:=zH hv;clear hv;go_wp2_with fail;go_roundw;case rel=>refine⟨k+1,U0,gn,?_,dt.out _,P.out.setCell (p:=(zA g k)) dp.out _⟩;rw[<- a3.out,<- qbC];exact Row.set U.out k _
       case measure=>exact mE
     . (obtain rfl:k=c:=by omega);(have dq:Hid (scK (fun i=>at2 rows i k) (List.range k) k=(List.range k).map fun i=>at2 rows i k):=by show _=_;unfold scK;rw[List.length_range,Nat.sub_self,List.replicate_zero,List.append_nil,List.take_of_length_le (by rw[List.length_range];omega)]);(have cn:Hid (Dv.Ok q k ((List.range k).map fun i=>at2 rows i k)/\Solv O q k M0 ((List.range k).map fun i=>at2 rows i k)):=by refine⟨⟨U2,fun x hx=>?_⟩,solv_of bt.out d7.out dy.out fun i hi=>by simp[List.getD,hi]⟩;obtain⟨i,hi,rfl⟩:=List.mem_map.1 hx;exact bt.out.at_ (List.mem_range.1 hi) U0);go_wp2_with fail;go_ret2;exact⟨.inr ⟨g,_,rfl,by rw[<- dq.out];exact U.out,cn.out⟩,P.out⟩
def conF(p m:Nat)(l:List Nat)(d:Nat)(L:List Int)(j i:Nat):Nat:=itN (itN (frN p m l) (d % m)) i (inZ (p^m) (L.getD j 0))
def SsPost(W:World)(lo:Nat)(p m:Nat)(l:List Nat)(d:Nat)(L:List Int)(right:List Nat)(e:Ending)(w':World):Prop :=
 (e = .returned (.tuple #[zL none 0 0,.bool false])\/∃(g : Nat)(out : List Nat),e = .returned (.tuple #[zS g L.length L.length,.bool true])/\Row w' lo g L.length (nz out)/\Dv.Ok (p^m) L.length out/\
   ∃rows,SysI (p^m) L.length L.length (conF p m l d L) right L.length 0 rows/\Solv (opsT p m l) (p^m) L.length rows out)/\Below lo W w'
theorem syssol(j p m d:Nat)(mod:List Int)(md l:List Nat)(L:List Int)(k:Option Addr)(t:Nat)(right:List Nat)(n:Option Addr)(u:Nat)(w:World)(hF:FT p m md l)(v:GFM w w.heap.size j p m mod l (logL l (p^m)))(q:mod.length<=1000000)(o:1<=d)(hd:d<=m)(x:IntsAt w w.heap.size k L)(z:L.length=m / d)(A:IntsAt w w.heap.size n (nz right))(s:∀y∈right,y<p^m)(r:right.length=L.length):
 zC 229 #[zP j,zL k L.length t,Y (d:Int),zL n L.length u] w fun e w1=>∃R,e=.returned (zS R L.length L.length)/\Below w.heap.size w w1/\
  zC 228 #[zP j,zS R L.length L.length] w1 (SsPost w1 w.heap.size p m l d L right):=by
 have b:=hF.small.m2;have c:L.length<=8:=by have:m / d<=m:=Nat.div_le_self _ _;omega
 have h:=system_c j p m d mod md l L k t right n u w hF v q o hd x U0 A s U0;rw[r] at h;refine h.mono ?_;rintro e w1 ⟨⟨R,rows,bs,rfl,hgd,hsys⟩,hb⟩;refine⟨R,rfl,hb,?_⟩;refine(solve_c j w.heap.size p m R L.length md l rows bs w1 hF (v.gf.keep hb) hb.size hgd hsys.1 U0).mono ?_;rintro f i ⟨he,hb2⟩;refine⟨?_,hb2⟩;rcases he with rfl|⟨g,out,rfl,hr,ho,hs⟩
 . exact .inl rfl
 . exact .inr ⟨g,out,rfl,hr,ho,rows,hsys,hs⟩
theorem eachL_lt{p m:Nat}{md l:List Nat}(hF:FT p m md l){d:Nat}(b:1<=d)(c:d<=m)(n:Nat)(x:Int):∀y∈eachL (itN (frN p m l) (d % m)) n (inZ (p^m) x),y<p^m:=fun y hy=>by
 obtain⟨i,_,rfl⟩:=List.mem_map.1 hy
 exact(of_each hF b c (inZ_lt (by have:=(Al.fld_of hF).q1;omega) x) i).1
theorem basis_c(V p m:Nat)(d:Int)(mod:List Int)(md l:List Nat)(L:List Int)(AL:Option Addr)(cL:Nat)(w:World)(hF:FT p m md l)(Z:GFM w w.heap.size V p m mod l (logL l (p ^ m)))(X:mod.length<=1000000)(hL:IntsAt w w.heap.size AL L)(_:L.length<=9223372036854775807):
 zC 191 #[zP V,zL AL L.length cL,Y d] w fun e w'=>(∃z:Int,e=.returned (Y z)/\(z=0->degB m d=true/\L.length=m / d.toNat))/\Below w.heap.size w w':=by
 have i:=zH (isdegree_c V w.heap.size p m d mod l _ w Z (Nat.le_refl _) X hF.small.m2);by_cases c:degB m d=true
 . have C := zH c;rw [c] at i;(obtain ⟨b,rfl,o,q⟩:∃ b:Nat,d=(b:Int)/\1<=b/\b<=m:=by unfold degB at c;simp only [Bool.and_eq_true,decide_eq_true_eq] at c;exact ⟨d.toNat,U0,U0,U0⟩);have t:Hid (∀ W,Below w.heap.size w W->zC 224 #[zP V,Y 0,Y (b:Int)] W fun e w'=>(∃ g,e=.returned (zS g (m / b:Nat) (m / b:Nat))/\Row w' W.heap.size g (m / b) (nz (eachL (itN (frN p m l) (b % m)) (m / b) (inZ (p ^ m) 0))))/\Below W.heap.size W w'):=fun W hW=>each_c 0 b V w.heap.size p m mod md l W hF (Z.keep hW) hW.size X o q
   have k:Hid (∀(W:World)(g:Nat),Below w.heap.size w W->L.length=m / b->Row W w.heap.size g (m / b) (nz (eachL (itN (frN p m l) (b % m)) (m / b) (inZ (p^m) 0)))->zC 229 #[zP V,zL AL L.length cL,Y (b:Int),zS g L.length L.length] W fun e r=>∃R,e=.returned (zS R L.length L.length)/\Below W.heap.size W r/\
    zC 228 #[zP V,zS R L.length L.length] r (SsPost r W.heap.size p m l b L (eachL (itN (frN p m l) (b % m)) (m / b) (inZ (p^m) 0)))):=fun W g hW hl hr=>
    syssol V p m b mod md l L AL cL _ (zO g) L.length W hF ((Z.keep hW).more hW.size) X o q ((hL.keep hW).more hW.size) hl (hr.ints hr.lt.2) (eachL_lt hF o q _ _) (by rw[eachL_len,hl])
   have D:Hid ((b:Int).toNat=b):=rfl;clear Z hF hL c;generalize eachL (itN (frN p m l) (b % m)) (m / b) (inZ (p^m) 0)=right at *;go_enter Tryz.func191,Tryz.ntmps191;go_wp2_with fail;(with_reducible refine i.out.mono ?_);rintro M r ⟨rfl,hb1⟩;have A:=zH hb1;go_wp2_with fail;(with_reducible refine(t.out r hb1).mono ?_);rintro Q y ⟨⟨g,rfl,hr⟩,hb2⟩;have f:Hid (Below w.heap.size w y):=hb1.trans (hb2.mono hb1.size);have I:Hid (Row y w.heap.size g (m / b) (nz right)):=hr.base (Nat.le_trans hb1.size hr.lt.1);clear hb1 hb2 hr i t A;by_cases j:L.length=m / b
   . have K:=zH (k.out y g f.out j I.out);have H:=zH j;rw[<- j];clear k j;generalize v:L.length=n at *;have E:=zH v;clear v;go_wp2_with fail;(with_reducible refine K.out.mono ?_);rintro S O ⟨R,rfl,hb3,hsol⟩;have B:Hid (Below w.heap.size w O):=f.out.trans (hb3.mono f.out.size);have u:=zH hsol;have J:Hid (w.heap.size<=y.heap.size):=f.out.size;clear hb3 hsol K;go_wp2_with fail;(with_reducible refine u.out.mono ?_);rintro T P ⟨he,hb4⟩;have s:Hid (Below w.heap.size w P):=B.out.trans (hb4.mono J.out);clear hb4 u;rcases he with rfl|⟨go,out,rfl,_⟩
     . go_wp2_with fail;go_ret;exact⟨⟨9,rfl,fun h=>by cases h⟩,s.out⟩
     . go_wp2_with fail;go_ret;exact⟨⟨0,rfl,fun _=>⟨C.out,by rw[D.out,E.out];exact H.out⟩⟩,s.out⟩
   . (have N:((L.length:Int) != ((m / b:Nat):Int))=true:=by rw[bne_iff_ne];omega);clear k;generalize m / b=U at *;go_wp2_with fail;go_ret;exact⟨⟨9,rfl,fun h=>by cases h⟩,f.out⟩
 . (have x:degB m d=false:=by simpa using c);rw[x] at i;clear c x Z hF hL;go_enter Tryz.func191,Tryz.ntmps191;go_wp2_with fail;(with_reducible refine i.out.mono ?_);rintro M r ⟨rfl,hb1⟩;go_wp2_with fail;go_ret;exact⟨⟨6,rfl,fun h=>by cases h⟩,hb1⟩
theorem isbasis_c(q p m:Nat)(d:Int)(mod:List Int)(md l:List Nat)(L:List Int)(o:Option Addr)(t:Nat)(w:World)(hF:FT p m md l)(u:GFM w w.heap.size q p m mod l (logL l (p^m)))(s:mod.length<=1000000)(v:IntsAt w w.heap.size o L)(r:L.length<=9223372036854775807):
 zC 139 #[zP q,zL o L.length t,Y d] w fun e w'=>(∃b:Bool,e=.returned (.bool b)/\(b=true->degB m d=true/\L.length=m / d.toNat))/\Below w.heap.size w w':=by
 have g:=zH (basis_c q p m d mod md l L o t w hF u s v r);clear hF u v;go_enter Tryz.func139,Tryz.ntmps139;go_wp2_with fail;(with_reducible refine g.out.mono ?_);rintro k n ⟨⟨z,rfl,hz⟩,hb1⟩;have i:=zH hz;clear hz g;by_cases f:z=0
 . have c:=zH (i.out f);clear i;subst f;go_wp2_with fail;go_ret;exact⟨⟨true,rfl,fun _=>c.out⟩,hb1⟩
 . (have j:(z==0)=false:=by rw[beq_eq_false_iff_ne];exact f);go_wp2_with fail;go_ret;exact⟨⟨false,rfl,fun h=>by cases h⟩,hb1⟩
def CooOk(p m:Nat)(l:List Nat)(d:Nat)(L:List Int)(x:Int)(out:List Nat):Prop:=
 1<=d/\d<=m/\L.length=m / d/\degB m d=true/\Dv.Ok (p^m) L.length out/\∃rows,SysI (p^m) L.length L.length (conF p m l d L) (eachL (itN (frN p m l) (d % m)) (m / d) (inZ (p^m) x)) L.length 0 rows/\Solv (opsT p m l) (p^m) L.length rows out
def CooPost(w:World)(p m:Nat)(l:List Nat)(d:Int)(L:List Int)(x:Int)(e:Ending)(w':World):Prop:=
 (∃(v:Value)(z:Int),e=.returned (.tuple #[v,Y z])/\(v=zL none 0 0\/∃(g:Nat)(out:List Nat),v=zS g L.length L.length/\Row w' w.heap.size g L.length (nz out)/\CooOk p m l d.toNat L x out))/\Below w.heap.size w w'
theorem coordinates_c(V p m:Nat)(d x:Int)(mod:List Int)(md l:List Nat)(L:List Int)(Z:Option Addr)(cL:Nat)(w:World)(hF:FT p m md l)(hG:GFM w w.heap.size V p m mod l (logL l (p ^ m)))(X:mod.length<=1000000)(hL:IntsAt w w.heap.size Z L)(aa:L.length<=9223372036854775807):
 zC 192 #[zP V,zL Z L.length cL,Y d,Y x] w (CooPost w p m l d L x):=by
 have I:=zH (basis_c V p m d mod md l L Z cL w hF hG X hL aa);have t:Hid (∀(W:World)(b:Nat),Below w.heap.size w W->1<=b->b<=m->zC 224 (Cn V x b) W fun e w'=>(∃g,e=.returned (zS g (m / b:Nat) (m / b:Nat))/\Row w' W.heap.size g (m / b) (nz (eachL (itN (frN p m l) (b % m)) (m / b) (inZ (p^m) x))))/\Below W.heap.size W w'):=fun W b hW f h=>each_c x b V w.heap.size p m mod md l W hF (hG.keep hW) hW.size X f h
 have y:Hid (∀(W:World)(g b:Nat),Below w.heap.size w W->1<=b->b<=m->L.length=m / b->Row W w.heap.size g (m / b) (nz (eachL (itN (frN p m l) (b % m)) (m / b) (inZ (p^m) x)))->zC 229 #[zP V,zL Z L.length cL,Y (b:Int),zS g L.length L.length] W fun e q=>∃R,e=.returned (zS R L.length L.length)/\Below W.heap.size W q/\
  zC 228 #[zP V,zS R L.length L.length] q (SsPost q W.heap.size p m l b L (eachL (itN (frN p m l) (b % m)) (m / b) (inZ (p^m) x)))):=fun W g b hW f h hl hr=>
  syssol V p m b mod md l L Z cL _ (zO g) L.length W hF ((hG.keep hW).more hW.size) X f h ((hL.keep hW).more hW.size) hl (hr.ints hr.lt.2) (eachL_lt hF f h _ _) (by rw[eachL_len,hl])
 clear hG hF hL;go_enter Tryz.func192,Tryz.ntmps192;go_wp2_with fail;(with_reducible refine I.out.mono ?_);rintro Q q ⟨⟨z,rfl,hz⟩,hb1⟩;have K:=zH hz;have i:=zH hb1;clear hz hb1 I;by_cases M:z=0
 . subst M;obtain ⟨o,B⟩:=K.out rfl;(obtain ⟨b,rfl,f,h⟩:∃ b:Nat,d=(b:Int)/\1<=b/\b<=m:=by unfold degB at o;simp only [Bool.and_eq_true,decide_eq_true_eq] at o;exact ⟨d.toNat,U0,U0,U0⟩);have c:L.length=m / b:=B;have r:Hid (∀ out:List Nat,Dv.Ok (p ^ m) L.length out->(∃ rows,SysI (p ^ m) L.length L.length (conF p m l b L) (eachL (itN (frN p m l) (b % m)) (m / b) (inZ (p ^ m) x)) L.length 0 rows/\Solv (opsT p m l) (p ^ m) L.length rows out)->CooOk p m l (b:Int).toNat L x out):=fun out h1 h2=>⟨f,h,c,o,h1,h2⟩;have j:=zH (t.out q b i.out f h)
   have k:Hid (∀(W:World)(g:Nat),Below w.heap.size w W->Row W w.heap.size g L.length (nz (eachL (itN (frN p m l) (b % m)) (m / b) (inZ (p^m) x)))->zC 229 #[zP V,zL Z L.length cL,Y (b:Int),zS g L.length L.length] W fun e q=>∃R,e=.returned (zS R L.length L.length)/\Below W.heap.size W q/\
    zC 228 #[zP V,zS R L.length L.length] q (SsPost q W.heap.size p m l b L (eachL (itN (frN p m l) (b % m)) (m / b) (inZ (p^m) x)))):=fun W g h1 h2=>y.out W g b h1 f h c (by rw[c] at h2;exact h2)
   rw[<- c] at j k r;clear o B c t y K;generalize eachL (itN (frN p m l) (b % m)) L.length (inZ (p^m) x)=right at *;go_wp2_with fail;(with_reducible refine j.out.mono ?_);rintro S C ⟨⟨g,rfl,hr⟩,hb2⟩;have n:Hid (Below w.heap.size w C):=i.out.trans (hb2.mono i.out.size);have u:Hid (Row C w.heap.size g L.length (nz right)):=hr.base (Nat.le_trans i.out.size hr.lt.1);clear hb2 hr j i;have J:=zH (k.out C g n.out u.out);clear k u;go_wp2_with fail;(with_reducible refine J.out.mono ?_);rintro T P ⟨R,rfl,hb3,hsol⟩;have D:Hid (Below w.heap.size w P):=n.out.trans (hb3.mono n.out.size);have v:=zH hsol;have A:Hid (w.heap.size<=C.heap.size):=n.out.size;clear hb3 hsol J;go_wp2_with fail;(with_reducible refine v.out.mono ?_);rintro U N ⟨he,hb4⟩;have s:Hid (Below w.heap.size w N):=D.out.trans (hb4.mono A.out);clear hb4 v;rcases he with rfl|⟨go,out,rfl,hrow,hok,hss⟩
   . go_wp2_with fail;go_ret2;exact⟨⟨_,0,rfl,.inl rfl⟩,s.out⟩
   . have E:Hid (Row N w.heap.size go L.length (nz out)):=hrow.base (Nat.le_trans A.out hrow.lt.1);have H:=zH (r.out out hok hss);clear hrow hok hss r;go_wp2_with fail;go_ret2;exact⟨⟨_,0,rfl,.inr ⟨go,out,rfl,E.out,H.out⟩⟩,s.out⟩
 . have O:(z != 0)=true:=bne_iff_ne.2 M;go_wp2_with fail;go_ret2;exact⟨⟨_,z,rfl,.inl rfl⟩,i.out⟩
def BackI(q q1:Nat)(im:Nat->Nat)(t:Nat)(back:List Nat):Prop:=back.length=q/\(∀y∈back,y<q1)/\∀k,k<t->im (back.getD (im k) 0)=im k
theorem backI_0{q b:Nat}(h:0<b)(im:Nat->Nat):BackI q b im 0 (List.replicate q 0):=⟨U2,fun y hy=>by rw[(List.mem_replicate.1 hy).2];exact h,fun k hk=>absurd hk (Nat.not_lt_zero k)⟩
theorem backI_step{q i:Nat}{im:Nat->Nat}{t:Nat}{g:List Nat}(h:BackI q i im t g)(ht:t<i)(j:im t<q):BackI q i im (t+1) (g.set (im t) t):=by
 obtain⟨c,d,f⟩:=h;refine⟨by rw[List.length_set,c],fun y hy=>?_,fun k hk=>?_⟩
 . rcases List.mem_or_eq_of_mem_set hy with h|h
   . exact d y h
   . rw[h];exact ht
 . rw [getD_set _ _ _ _ _ U0];by_cases e:im k=im t
   . rw[if_pos e];exact e.symm
   . rw[if_neg e];by_cases b:k=t
     . exact absurd (by rw[b]) e
     . exact f k U0
theorem CooPost.uni{w:World}{p m:Nat}{md l:List Nat}(hF:FT p m md l){d:Int}{L:List Int}{x:Int}{e:Ending}{w':World}(h:CooPost w p m l d L x e w'):
 (∃(A:Option Addr)(c:Nat)(out:List Nat)(z:Int),e=.returned (.tuple #[zL A out.length c,Y z])/\IntsAt w' w'.heap.size A (nz out)/\(∀y∈out,y<p^m)/\out.length<=8/\(out.length=0\/CooOk p m l d.toNat L x out))/\Below w.heap.size w w':=by
 obtain⟨⟨v,z,rfl,i⟩,f⟩:=h;refine⟨?_,f⟩;rcases i with rfl|⟨g,out,rfl,hr,hok⟩
 . exact⟨none,0,[],z,rfl,fun h=>absurd h (by simp[nz]),fun y hy=>absurd hy U2,U2,.inl rfl⟩
 . have b:=hok.2.2.2.2.1.1;have k:=hF.small.m2;have j:m / d.toNat<=m:=Nat.div_le_self _ _;refine⟨some (zA g 0),L.length,out,z,by rw[b],hr.ints hr.lt.2,hok.2.2.2.2.1.2,?_,.inr hok⟩;rw[b,hok.2.2.1];omega
def RelT1(w3:World)(q q1 g:Nat)(im:Nat->Nat)(v36:Value)(wr:World):Prop:=∃(t:Nat)(back:List Nat),t<=q1/\v36=Y (t:Int)/\Row wr w3.heap.size g q (nz back)/\BackI q q1 im t back/\Below w3.heap.size w3 wr
def RelT2(w5:World)(q:Nat)(T:Nat->List Nat->Prop)(v13 v48:Value)(wr:World):Prop:=∃(x:Nat)(words:List (List Nat)),x<=q/\v48=Y (x:Int)/\words.length=x/\RowsOwn wr w5.heap.size v13 words/\(∀i,i<x->T i (words.getD i []))/\Below w5.heap.size w5 wr/\w5.heap.size<=wr.heap.size
def RelT3(w6:World)(f:Nat->Nat)(out:List Nat)(g:Nat)(v69:Value)(wr:World):Prop:=∃k:Nat,k<=out.length/\v69=Y (k:Int)/\Row wr w6.heap.size g out.length (nz (scK f out k))/\Below w6.heap.size w6 wr
def TrW(p m:Nat)(l:List Nat)(O1:Ops)(m1:Nat)(L:List Int)(back:List Nat)(ni:Nat)(gen:List (List Nat))(x:Nat)(word:List Nat):Prop:=
 ∃out,CooOk p m l m1 L (x:Int) out/\out.length=gen.length/\word=vecM O1 (out.map fun y=>back.getD y 0) gen ni gen.length
def TrPost(w:World)(p m:Nat)(l:List Nat)(p1 m1:Int)(mod1:List Int)(L:List Int)(ni:Nat)(gen:List (List Nat))(e:Ending)(w':World):Prop:=
 Below w.heap.size w w'/\((∃z:Int,z≠0/\e=.returned (.tuple #[zL none 0 0,Y z]))\/∃(A:Option Addr)(c:Nat)(words:List (List Nat))(back:List Nat)(r:Nat),e=.returned (.tuple #[zL A words.length c,Y 0])/\RowsUp w' w.heap.size A (nzs words)/\words.length=p^m/\p1=(p:Int)/\
  r<p^m/\(m1=1\/evN (opsT p m l) (mdOf m1 mod1++[1]) r=0)/\BackI (p^m) (p1.toNat^m1.toNat) (imN (opsT p m l) p m1.toNat r) (p1.toNat^m1.toNat) back/\∀x,x<p^m->TrW p m l (opsT p1.toNat m1.toNat (lOf p1 m1 mod1)) m1.toNat L back ni gen x (words.getD x []))
def CatF(p m:Int)(mod:List Int)(p' m':Int)(mod':List Int)(L:List Int)(nb:Nat)(gb:List (List Nat))(words:List (List Nat))(back:List Nat)(r:Nat):Prop:=
 p'=p/\degB m.toNat m'=true/\L.length=m.toNat / m'.toNat/\gb.length=L.length/\words.length=p.toNat^m.toNat/\r<p.toNat^m.toNat/\(m'=1\/evN (opsT p.toNat m.toNat (lOf p m mod)) (mdOf m' mod'++[1]) r=0)/\
  BackI (p.toNat^m.toNat) (p'.toNat^m'.toNat) (imN (opsT p.toNat m.toNat (lOf p m mod)) p.toNat m'.toNat r) (p'.toNat^m'.toNat) back/\∀x,x<p.toNat^m.toNat->TrW p.toNat m.toNat (lOf p m mod) (opsT p'.toNat m'.toNat (lOf p' m' mod')) m'.toNat L back nb gb x (words.getD x [])
def CatRow(q:Nat)(O:Ops)(L:List Int)(ga words:List (List Nat))(r:List Nat):Prop:=∃u∈ga,∃b:Nat,(∃j,j<L.length/\L.getD j 0=(b:Int))/\b<q/\r=(scaleRow O b u).flatMap fun x=>words.getD x []
def CatPost(w:World)(p m:Int)(mod:List Int)(p' m':Int)(mod':List Int)(L:List Int)(na nb:Nat)(ga gb:List (List Nat))(e:Ending)(w':World):Prop:=
 ∃(words:List (List Nat))(back:List Nat)(r:Nat),ConPost w p' m' mod' (na*nb) (CatF p m mod p' m' mod' L nb gb words back r) (CatRow (p.toNat^m.toNat) (opsT p.toNat m.toNat (lOf p m mod)) L ga words) e w'
theorem translate_c(gb p m:Nat)(mod:List Int)(md l:List Nat)(p1 m1:Int)(d7:List Int)(A1:Option Addr)(c1 ni:Nat)(d8:List (List Int))(G:Option Addr)(cg:Nat)(L:List Int)(AL:Option Addr)(cL:Nat)(w:World)(hF:FT p m md l)(hG:GFM w w.heap.size gb p m mod l (logL l (p ^ m)))(d9:mod.length<=1000000)(ha:CD.At ⟨p1,m1,d7,A1,c1,ni,d8,G,cg⟩ w)(hk:1<=d8.length)(hL:IntsAt w w.heap.size AL L)(fa:L.length<=9223372036854775807):
 zC 140 #[zP gb,Ck p1 m1 A1 d7.length c1 ni G d8.length cg,zL AL L.length cL] w (TrPost w p m l p1 m1 d7 L ni (natR d8)):=by
 obtain⟨a1,a2,a3,a4,a5,a6,a7⟩:=qbW ha.z;dsimp only at a1 a4 a5 a6 a7
 have HX:Hid (SBoxC w (Ca p1 m1 A1 d7.length c1 ni G d8.length cg) (w.alloc (Cf p1 m1 A1 d7.length c1 ni G d8.length cg))):=
  ⟨heap_alloc_new _ _,(Below.refl _ _).alloc (Nat.le_refl _) _,U2⟩
 have d6:=hF.small.q;have d5:=(Al.fld_of hF).q1;have bp:Hid (∀W,Below w.heap.size w W->zC 160 #[Ch p1 m1 A1 d7.length c1,zP gb] W (EmbPost W p1 m1 d7 p (opsT p m l) (p^m))):=fun W hW=>embed_c p1 m1 d7 A1 c1 gb p m mod md l W ((ha.mod.keep hW).more hW.size) U0 hF ((hG.keep hW).more hW.size) d9;have bv:Hid (∀W,Below w.heap.size w W->zC 120 #[zP gb] W fun e w'=>e=.returned (Y ((p^m:Nat):Int))/\W=w'):=fun W hW=>gorder_c gb w.heap.size p m l _ W (hG.gf.keep hW)
 have bm:Hid (∀(W:World)(x:Nat),Below w.heap.size w W->zC 192 #[zP gb,zL AL L.length cL,Y m1,Y (x:Int)] W fun e w'=>(∃(A:Option Addr)(c:Nat)(out:List Nat)(z:Int),e=.returned (.tuple #[zL A out.length c,Y z])/\IntsAt w' w'.heap.size A (nz out)/\(∀y∈out,y<p^m)/\out.length<=8/\(out.length=0\/CooOk p m l m1.toNat L x out))/\Below W.heap.size W w'):=fun W x hW=>
  (coordinates_c gb p m m1 x mod md l L AL cL W hF ((hG.keep hW).more hW.size) d9 ((hL.keep hW).more hW.size) fa).mono fun e w' h=>CooPost.uni hF h
 have bq:Hid (∀(W:World)(x:List Nat)(B g:Nat),Below w.heap.size w W->Row W B g x.length (nz x)->(∀y∈x,y<p1.toNat^m1.toNat)->x.length<=1000->zC 78 #[Ck p1 m1 A1 d7.length c1 ni G d8.length cg,zS g x.length x.length] W (EncPost W ni d8.length x (vecM (opsT p1.toNat m1.toNat (lOf p1 m1 d7)) x (natR d8) ni d8.length))):=fun W x B g hW hr hx hl=>
  encode_c p1 m1 d7 A1 c1 ni d8 G cg x (zO g) x.length W (ha.keep hW) (hr.ints hr.lt.2) hx hl
 have br:Hid (∀r k,r<p^m->imN (opsT p m l) p m1.toNat r k<p^m):=fun r k hr=>imN_lt hF hr m1.toNat k;have D:0<p1.toNat^m1.toNat:=by have:=(Al.fld_of (field_ft a5)).q1;omega
 have ci:p1.toNat^m1.toNat<=256:=(field_ft a5).small.q;have dx:Hid ((natR d8).length=d8.length):=natR_len d8;obtain⟨zb,ai,cl⟩:=makeN (p^m) U0;have c6:=zH ai;have da:=zH cl;have c7:Hid (∀n:Nat,n<=100000->∃zz:Array Value,(∀W,(Instr.makeSlice 23 (Y (n:Int)) (Y (n:Int))).run Tryz.prog W=.ok (zS W.heap.size n n) (W.alloc (.cells zz 3)))/\∀(W:World)(B:Nat),B<=W.heap.size->Row (W.alloc (.cells zz 3)) B W.heap.size n (nz (List.replicate n 0))):=fun n hn=>makeN n hn;obtain⟨T,hT⟩:∃T:List Nat->Nat->List Nat->Prop,T=fun d x word=>TrW p m l (opsT p1.toNat m1.toNat (lOf p1 m1 d7)) m1.toNat L d ni (natR d8) x word:=⟨_,rfl⟩;have HT:=zH hT;have dg:Hid (∀(d:List Nat)(x:Nat)(out:List Nat),CooOk p m l m1.toNat L (x:Int) out->out.length=d8.length->T d x (vecM (opsT p1.toNat m1.toNat (lOf p1 m1 d7)) (out.map fun y=>d.getD y 0) (natR d8) ni d8.length)):=fun d x out h1 h2=>by rw[hT];exact⟨out,h1,by rw[natR_len];exact h2,by rw[natR_len]⟩
 have b2:Hid (∀x:List Nat,(∀y∈x,y<p1.toNat^m1.toNat)->(vecM (opsT p1.toNat m1.toNat (lOf p1 m1 d7)) x (natR d8) ni d8.length).length=ni):=fun x hx=>by have h:=vecM_mem (Al.fld_of (field_ft a5)).self (x:=x) (fun k _=>Al.getD_ok hx D k) a6 D d8.length (Nat.le_refl _);exact h.1
 have dy:Hid (Below w.heap.size w w):=Below.refl _ _;clear hF hG ha hL a4 a5 a6 a7 ai cl hT fa d9;generalize vecM (opsT p1.toNat m1.toNat (lOf p1 m1 d7))=VM at *;generalize CooOk p m l m1.toNat L=CK at *;generalize cj:p^m=q at *;have ah:=zH cj;clear cj;go_enter Tryz.func140,Tryz.ntmps140;go_upto_region 1 with fail;generalize w.alloc (Cf p1 m1 A1 d7.length c1 ni G d8.length cg)=W0 at *;have bw:=zH HX.out.range3;have bn:=zH (bp.out W0 HX.out.2.1);go_wp2_with (refine wpList_load_mid rfl 29 (.tmp 22) rfl w.heap.size 0 rfl (Ci p1 m1 A1 d7.length c1) _ bw.out Tryz.underlying29 rfl fieldSize ?_);(with_reducible refine bn.out.mono ?_);rintro e H ⟨⟨EA,en,ec,z,rfl,hz⟩,hb1⟩;have Q:=zH (HX.out.grow hb1);have HZ:=zH hz;clear hb1 hz HX bn bw bp;by_cases E:z=0;rotate_left
 . have cx:(z != 0)=true:=bne_iff_ne.2 E;have ab:=zH E;clear E;go_wp2_with fail;go_ret2;exact⟨Q.out.2.1,.inl ⟨z,ab.out,rfl⟩⟩
 subst E;obtain⟨_,ch,ce,r,bd,af,a0⟩:=HZ.out rfl;have c9:=zH ch;have ax:=zH af;have V:Hid (∀k,imN (opsT p m l) p m1.toNat r k<q):=fun k=>br.out r k bd;have c5:Hid (imN (opsT p m l) p m1.toNat r=imN (opsT p m l) p m1.toNat r):=rfl;obtain⟨im,a8⟩:∃im,im=imN (opsT p m l) p m1.toNat r:=⟨_,rfl⟩;rw[<- a8] at a0 V;have bs:=zH a8;have bo:Hid (∀k,k<en->∃b o,EA=some (zA b o)/\b<H.heap.size/\H.cell? (zA b (o+k))=some (Y ((im k:Nat):Int))):=fun k hk=>by obtain⟨b,o,e,hb,hc⟩:=a0.at_ (k:=k) (by rw[qaA,List.length_map,List.length_range];exact hk);rw[qaC,show((List.range en).map im).getD k 0=im k by simp[List.getD,hk]] at hc;exact⟨b,o,e,hb,hc⟩
 have dd:=zH bd;have an:Hid (en=p1.toNat^m1.toNat):=ce;clear ch af a0 a8 c5 br HZ bd ce;rw[<- an.out] at D ci b2 bq;have ai:=c6.out;have bt:=zH (bv.out H Q.out.2.1);go_wp2_with (go_at_call 120;(with_reducible refine bt.out.mono ?_);rintro e w' ⟨rfl,rfl⟩);clear ai;go_upto_region 5 with fail;have bg:Hid (Below H.heap.size H (H.alloc (.cells zb 3))):=(Below.refl _ _).alloc (Nat.le_refl _) _;have X:Hid (RelT1 H (q) en H.heap.size im (Y ((0:Nat):Int)) (H.alloc (.cells zb 3))):=⟨0,List.replicate (q) 0,U0,rfl,da.out H H.heap.size (Nat.le_refl _),backI_0 D im,bg.out⟩;have dz:Hid (H.heap.size=H.heap.size):=rfl;clear bg bt;generalize H.alloc (.cells zb 3)=w2 at *;go_wp2_with fail;go_loopw [36] (fun v36 wr=>RelT1 H (q) en H.heap.size im v36 wr) (fun v36 _=>en-(intOf v36).toNat);case atStart=>exact X.out
 case round =>
  obtain⟨t,d,ht,rfl,J,b9,ac⟩:=hrel;have I:=zH J;have S:=zH b9;have s:=zH ac;clear J b9 ac X;by_cases a9:t<en
  . obtain⟨be,oe,rfl,dp,cd⟩:=bo.out t a9;have du:=(s.out.cell (p:=(zA be (oe+t))) dp).trans cd;have cf:=V.out t;have c8:=zH (backI_step S.out a9 cf);have fg:=I.out.frozen (im t);have cg:=I.out.cell (j:=im t) (by rw[qaA,S.out.1];exact cf);have t0:(0:Int)<=(t:Int):=U0;have t1:(t:Int)<(en:Int):=U0;clear cd;generalize im t=y at *;have y0:(0:Int)<=(y:Int):=U0;have y1:(y:Int)<(q:Int):=U0;go_wp2_with fail;go_roundw;case rel=>refine⟨t+1,_,U0,gn,?_,c8.out,s.out.setCell (p:=(zA H.heap.size y)) (Nat.le_refl _) _⟩;rw[<- qbC];exact Row.set I.out y _
    case measure=>exact mE
  . (obtain rfl : t = en := by omega);have O:Hid (Below w.heap.size w wr):=Q.out.2.1.trans (s.out.mono Q.out.2.1.size);have dl:Hid (SBoxC w (Ca p1 m1 A1 d7.length c1 ni G d8.length cg) wr):=Q.out.grow s.out;have bu:=zH (bv.out wr O.out);have Z:Hid (RelT2 wr (q) (T d) (zL none 0 0) (Y ((0:Nat):Int)) wr):=⟨0,[],U0,rfl,rfl,RowsOwn.nil _ _,fun i hi=>absurd hi (Nat.not_lt_zero i),Below.refl _ _,Nat.le_refl _⟩;have cy:Hid (∀ y,d.getD y 0<t):=fun y=>Al.getD_ok S.out.2.1 D y;have U:=zH I.out;clear I s Q D bo V;generalize H.heap.size=gk at *;obtain ⟨P,rfl⟩:∃ P,P=wr:=⟨wr,rfl⟩;go_wp2_with (go_at_call 120;(with_reducible refine bu.out.mono ?_);rintro e w' ⟨rfl,rfl⟩);go_loopw [13,48] (fun v13 v48 wr=>RelT2 P (q) (T d) v13 v48 wr) (fun _ v48 _=>q-(intOf v48).toNat);case atStart=>exact Z.out
    case round =>
     obtain⟨x,f,hx,rfl,bf,bb,ct,ac,ds⟩:=hrel;have M:=zH bf;have db:=zH bb;have b0:=zH ct;have s:=zH ac;obtain⟨au,az,rfl,cw⟩:=bb.up;have b1:=zH cw;clear cw;rw[bf];clear bf bb ct ac Z;have bi:Hid (Below w.heap.size w wr):=O.out.trans (s.out.mono O.out.size);have b7:Hid (SBoxC w (Ca p1 m1 A1 d7.length c1 ni G d8.length cg) wr):=dl.out.grow s.out;by_cases a9:x<q
     . have y1 : wr.cell? (zA w.heap.size 1) = some (Y m1) := cell_of_row _ _ 1 _ _ _ b7.out.1;have bj:=zH (bm.out wr x bi.out);clear bm bu b1;go_wp2_with fail;(with_reducible refine bj.out.mono ?_);rintro e6 C ⟨⟨CA,cc,out,z,rfl,hci,hcq,hc8,hcok⟩,hb6⟩;have av:=zH hb6;have cz:=zH hci;have c4:=zH hcq;have c3:=zH hcok;have b6:Hid (SBoxC w (Ca p1 m1 A1 d7.length c1 ni G d8.length cg) C):=b7.out.grow hb6;clear hb6 hci hcq hcok bj y1;by_cases E:z=0;rotate_left
       . have cx:(z != 0)=true:=bne_iff_ne.2 E;have ab:=zH E;clear E;go_wp2_with fail;go_ret2;exact⟨b6.out.2.1,.inl ⟨z,ab.out,rfl⟩⟩
       subst E;obtain⟨zm,dr,cm⟩:=c7.out out.length U0;have bh:Hid (Below C.heap.size C (C.alloc (.cells zm 3))):=(Below.refl _ _).alloc (Nat.le_refl _) _
       have aa:Hid (RelT3 C (fun y=>d.getD y 0) out C.heap.size (Y ((0:Nat):Int)) (C.alloc (.cells zm 3))):=⟨0,U0,rfl,by
        have e:scK (fun y=>d.getD y 0) out 0=List.replicate out.length 0:=by simp[scK]
        rw[e]
        exact cm C C.heap.size (Nat.le_refl _),bh.out⟩
       have ap:Hid (RowsOwn C P.heap.size (zL au f.length az) f):=db.out.grow av.out;have R:Hid (Below P.heap.size P C):=s.out.trans (av.out.mono ds);have cq:P.heap.size<=C.heap.size:=R.out.size;have al:Hid (Row C gk gk q (nz d)):=(U.out.below s.out U.out.lt.2).below av.out (by have:=U.out.lt.2;have:=s.out.size;omega);clear cm bh;go_upto_region 18 with fail;clear dr;have dw:Hid (C.heap.size=C.heap.size):=rfl;generalize C.alloc (.cells zm 3)=w7 at *;go_wp2_with fail;go_loopw [69] (fun v69 wr=>RelT3 C (fun y=>d.getD y 0) out C.heap.size v69 wr) (fun v69 _=>out.length-(intOf v69).toNat);case atStart=>exact aa.out
       case round =>
        obtain⟨k,d4,rfl,J,b8⟩:=hrel;have v:=zH J;have K:=zH b8;clear J b8 aa;by_cases ad:k<out.length
        . obtain⟨bc,oc,rfl,d3,dq⟩:=(cz.out.keep K.out).at_ (k:=k) (by rw[qaA];exact ad);rw[qaC] at dq;(have dt:out.getD k 0<q:=by rw[Al.getD_at ad];exact c4.out _ (List.getElem_mem ad));have cs:=scK_set (fun y=>d.getD y 0) out k ad;have de:=zH cs;have fg:=v.out.frozen k;have d2:=v.out.cell (j:=k) (by rw[qaA,scK_len _ _ _ U0];exact ad);have yb:=(K.out.cell (p:=(zA gk (out.getD k 0))) al.out.lt.2).trans (al.out.cell (j:=out.getD k 0) (by rw[qaA,S.out.1];exact dt));rw[qaC] at yb;clear cs;generalize out.getD k 0=y at *;have y0:(0:Int)<=(y:Int):=U0;have y1:(y:Int)<(q:Int):=U0;have k0:(0:Int)<=(k:Int):=U0;have k1:(k:Int)<(out.length:Int):=U0;generalize d.getD y 0=d0 at *;go_wp2_with fail;go_roundw;case rel=>refine⟨k+1,U0,gn,?_,K.out.setCell (p:=(zA C.heap.size k)) (Nat.le_refl _) _⟩;rw[<- de.out,<- qbC];exact Row.set v.out k _
          case measure=>exact mE
        . (obtain rfl : k = out.length := by omega);have ay:Hid (SBoxC w (Ca p1 m1 A1 d7.length c1 ni G d8.length cg) wr):=b6.out.grow K.out;have dn:=zH ay.out.range;(have ao:Hid (Row wr C.heap.size C.heap.size (out.map fun y=>d.getD y 0).length (nz (out.map fun y=>d.getD y 0))):=by have h1:=v.out;unfold scK at h1;rw [Nat.sub_self,List.replicate_zero,List.append_nil,List.take_length] at h1;rw [List.length_map];exact h1);(have ba:∀ y∈out.map (fun y=>d.getD y 0),y<t:=fun y hy=>by obtain ⟨u,_,rfl⟩:=List.mem_map.1 hy;exact cy.out u);have hE:=bq.out wr _ C.heap.size C.heap.size ay.out.2.1 ao.out ba (by rw [List.length_map];omega);rw [List.length_map] at hE;have HE:=zH hE;have b3:=zH (b2.out _ ba);have di:Hid (out.length=d8.length->T d x (VM (out.map fun y=>d.getD y 0) (natR d8) ni d8.length)):=fun h=>dg.out d x out (c3.out.resolve_left U0) h;have bz:Hid (RowsOwn wr P.heap.size (zL au f.length az) f):=ap.out.grow K.out;have ak:Hid (Below P.heap.size P wr):=R.out.trans (K.out.mono cq);have cr:P.heap.size<=wr.heap.size:=ak.out.size;clear ba hE v ao K ap R;generalize VM (out.map fun y=>d.getD y 0) (natR d8) ni d8.length=u at *;go_wp2_with (refine wpList_load_mid rfl 32 (.tmp 4) rfl w.heap.size 0 rfl (Ca p1 m1 A1 d7.length c1 ni G d8.length cg) _ dn.out Tryz.underlying32 rfl codeSz ?_);(with_reducible refine HE.out.mono ?_);rintro e8 w8 ⟨hb9,hcase⟩;have dm:=zH (ay.out.grow hb9);rcases hcase with ⟨z,hz,rfl⟩ | ⟨ae,g,rfl,ck⟩
          . have cx:(z != 0)=true:=bne_iff_ne.2 hz;have ab:=zH hz;clear hz hb9;go_wp2_with fail;go_ret2;exact⟨dm.out.2.1,.inl ⟨z,ab.out,rfl⟩⟩
          . rw [List.length_map] at ae;have dj:=zH (di.out ae);obtain ⟨v',w9,ag,ar,cn,N⟩:=bz.out.append cr hb9 (c:=ni) (r:=u) ck (by have:=M.out;omega);obtain ⟨dv,d1,rfl,_⟩:=N.up;rw [b3.out,M.out] at ag;have aq:=zH ag;have bx:=zH N;(have aw:Hid ((f++[u]).length=x+1):=by show _=_;rw [List.length_append,M.out];rfl);rw [aw.out] at aq;have aj:Hid (Below P.heap.size P w9):=ak.out.trans ar;have co:P.heap.size<=w9.heap.size:=aj.out.size;have dh:Hid (∀ i,i<x+1->T d i ((f++[u]).getD i [])):=fun i hi=>by
             by_cases e:i=x
             . subst e;have h1:=getD_snoc_eq f u [];rw[M.out] at h1;rw[h1];exact dj.out
             . rw[getD_snoc_lt (by rw[M.out];omega)];exact b0.out i U0
            clear ae hb9 ck ag ar cn N b3 HE;go_wp2_with (at_builtin;refine qaP rfl (.tmp 91) (.tmp 93) 30 rfl rfl rfl aq.out ?_);go_roundw;case rel=>exact⟨x+1,f++[u],U0,gn,aw.out,by rw[<- aw.out];exact bx.out,dh.out,aj.out,co⟩
            case measure=>exact mE
     . (obtain rfl : x = q:=by omega);go_wp2_with fail;go_ret2;refine⟨bi.out,.inr ⟨au,az,f,d,r,by rw[M.out];rfl,b1.out.lower O.out.size,by rw[M.out,ah.out],c9.out,by rw[ah.out];exact dd.out,ax.out,?_,fun i hi=>?_⟩⟩
       . rw[ah.out,<- an.out,<- bs.out];exact S.out
       . have h1:=b0.out i (by rw[<- ah.out];exact hi);rw[HT.out] at h1;exact h1
end Go.Proofs.YtndipkplnkfoeaaGreat
namespace Go.Proofs.YtndipkplnkfoeaaGreat
open Go.RowKit Pln
open Al
section
variable {p m m1:Nat} {md l md1 l1:List Nat}
def Lf(hF:FT p m md l)(L:List Int)(j:Nat):El (p^m) (opsT p m l) (fld_of hF):=El.of (fld_of hF) (inZ (p^m) (L.getD j 0))
theorem coo_sol(hF:FT p m md l){L:List Int}{x:Nat}{t:List Nat}(u:x<p^m)(h:CooOk p m l m1 L (x:Int) t):Sol (fld_of hF) p m1 L.length (Lf hF L) (El.of (fld_of hF) x) (fun j=>wd (fld_of hF) t j)/\Uni (fld_of hF) p m1 L.length (Lf hF L):=by
 obtain⟨k,n,r,_,_,rows,d,g⟩:=h;have s:=(fld_of hF).q1;have b:∀i j,i<L.length->j<L.length->wd (fld_of hF) (rows.getD i []) j=Fr p (m1*i) (Lf hF L j):=fun i j hi hj=>by rw[<- qcJ,((d.2 i hi).2.1 j hj)];exact(of_each hF k n (inZ_lt U0 (L.getD j 0)) i).2
 have f:∀i,i<L.length->wd (fld_of hF) (rows.getD i []) L.length=Fr p (m1*i) (El.of (fld_of hF) x):=fun i hi=>by rw[<- qcJ,(d.2 i hi).1,eachL_at _ _ _ U0,inZ_nat u];exact(of_each hF k n u i).2
 obtain⟨o,q⟩:=g (fld_of hF);have H:=El.fd (h:=fld_of hF);refine⟨fun i hi=>?_,fun c hc=>q c fun i hi=>?_⟩
 . rw[<- f i hi,<- o i hi];exact H.sm_congr fun j hj=>by rw[b i j hi hj]
 . rw[<- hc i hi];exact H.sm_congr fun j hj=>by rw[b i j hi hj]
theorem coo_in(hF:FT p m md l){L:List Int}{x:Nat}{f:List Nat}(g:x<p ^ m)(h:CooOk p m l m1 L (x:Int) f):∀ j,j<L.length->∃ b:Nat,b<p ^ m/\L.getD j 0=(b:Int):=fun j hj=>by
 have H:=El.fd (h:=fld_of hF)
 have c:0<p:=by have:=hF.small.p1;omega
 have U:=(coo_sol hF g h).2
 by_cases d:0<=L.getD j 0/\L.getD j 0<((p^m:Nat):Int)
 . exact⟨(L.getD j 0).toNat,U0,U0⟩
 . have e : Lf hF L j = 0 := by
    unfold Lf inZ
    rw[if_neg d,El.of_zero]
   have:=U (fun k=>if k=j then 1 else 0) (fun i hi=>by
    rw[H.sm_one (i:=j) hj fun k _ hne=>by rw[if_neg hne,H.mulZ],e,fr_zero c,H.zmul]) j hj
   rw[if_pos rfl] at this
   exact absurd this H.ne
theorem flat_at{n:Nat}{words:List (List Nat)}:∀ {s:List Nat},(∀ x∈s,(words.getD x []).length=n)->∀ {i j:Nat},i<s.length->j<n->(s.flatMap fun x=>words.getD x []).getD (i*n+j) 0=(words.getD (s.getD i 0) []).getD j 0
 |[],_,i,_,hi,_=>absurd hi (Nat.not_lt_zero i)
 |y :: s,h,0,j,_,hj=>by
   rw[List.flatMap_cons,Nat.zero_mul,Nat.zero_add]
   simp only[List.getD]
   rw[List.getElem?_append_left (by have:=h y (List.mem_cons_self ..);simp only[List.getD] at this;omega)]
   rfl
 |y :: s,h,i + 1,j,hi,hj=>by
   have hy:=h y (List.mem_cons_self ..)
   have b:=flat_at (s:=s) (fun x hx=>h x (List.mem_cons_of_mem _ hx)) (i:=i) (j:=j) (by simp at hi;omega) hj
   rw[List.flatMap_cons,Nat.succ_mul,show i*n+n+j=n+(i*n+j) by omega]
   simp only[List.getD] at b hy ⊢
   rw[List.getElem?_append_right U0,hy,Nat.add_sub_cancel_left,b]
   simp
theorem cat_link(hF:FT p m md l)(X:FT p m1 md1 l1)(hp:∀ d,2<=d->d*d<=p->p % d≠0){r r':Nat}(ad:r'<p ^ m)(hE:Emb hF X (El.of (fld_of hF) r'))(ac:∀ x,imN (opsT p m l) p m1 r x=imN (opsT p m l) p m1 r' x){L:List Int}{gb words:List (List Nat)}{Z:List Nat}{nb:Nat}(aa:m1*L.length=m)(ae:0<L.length)(ab:Grid (p ^ m1) gb.length nb gb)(ag:gb.length=L.length){pi:List Nat}(uI:∀ i k,i<gb.length->k<gb.length->at2 gb i (pi.getD k 0)=if i=k then 1 else 0)(pI:∀ k,k<gb.length->pi.getD k 0<nb)(hB:BackI (p ^ m) (p ^ m1) (imN (opsT p m l) p m1 r) (p ^ m1) Z)(hT:∀ x,x<p ^ m->TrW p m l (opsT p m1 l1) m1 L Z nb gb x (words.getD x [])){na:Nat}{ga:List (List Nat)}(af:∀ u∈ga,Dv.Ok (p ^ m) na u):
 ∃φ,Cat (phi hF X (El.of (fld_of hF) r')) nb gb φ/\∀row,CatRow (p^m) (opsT p m l) L ga words row->QCat φ na nb ga (wd (fld_of X) row):=by
 have H:=El.fd (h:=fld_of hF);have O:=El.fd (h:=fld_of X);have W:=(fld_of hF).q1;have T:=(fld_of X).q1;have t:∀x:El (p^m) (opsT p m l) (fld_of hF),∃out,CooOk p m l m1 L (x.n:Int) out/\out.length=gb.length/\words.getD x.n []=vecM (opsT p m1 l1) (out.map fun y=>Z.getD y 0) gb nb gb.length:=fun x=>hT x.n x.lt;obtain⟨o,B⟩:∃o:El (p^m) (opsT p m l) (fld_of hF)->List Nat,∀x,CooOk p m l m1 L (x.n:Int) (o x)/\(o x).length=gb.length/\words.getD x.n []=vecM (opsT p m1 l1) ((o x).map fun y=>Z.getD y 0) gb nb gb.length:=⟨fun x=>Classical.choose (t x),fun x=>Classical.choose_spec (t x)⟩;have q:∀y,Z.getD y 0<p^m1:=fun y=>getD_ok hB.2.1 U0 y;have C:∀x:El (p^m) (opsT p m l) (fld_of hF),El.of (fld_of hF) x.n=x:=fun x=>El.eq (El.of_n x.lt);have U:=(coo_sol hF (El.lt 0) (B 0).1).2;have c:∀k,k<p^m1->phi hF X (El.of (fld_of hF) r') (El.of (fld_of X) k)=El.of (fld_of hF) (imN (opsT p m l) p m1 r k):=fun k hk=>by rw[ac,of_imN hF ad];unfold phi;rw[El.of_n hk]
 have S:∀x,Sol (fld_of hF) p m1 L.length (Lf hF L) x fun j=>phi hF X (El.of (fld_of hF) r') (El.of (fld_of X) (Z.getD ((o x).getD j 0) 0)):=fun x i hi=>by
  have I:=(coo_sol hF x.lt (B x).1).1;rw[C] at I;rw[<- I i hi];refine H.sm_congr fun j hj=>?_;obtain⟨a,R⟩:=fixed_im hE (sol_fix (hF:=hF) hp aa U I j hj);have E:(o x).getD j 0<p^m:=getD_ok (B x).1.2.2.2.2.1.2 U0 j;have J:imN (opsT p m l) p m1 r a.n=(o x).getD j 0:=by have K:=c a.n a.lt;rw[show El.of (fld_of X) a.n=a from El.eq (El.of_n a.lt),R] at K;exact(El.of_inj (h:=fld_of hF) E (by rw[ac];exact imN_lt hF ad m1 a.n) K).symm
  have Q:phi hF X (El.of (fld_of hF) r') (El.of (fld_of X) (Z.getD ((o x).getD j 0) 0))=wd (fld_of hF) (o x) j:=by rw[c _ (q _),<- J,hB.2.2 a.n a.lt,J];rfl
  show Fr p (m1*i) (Lf hF L j)*phi hF X (El.of (fld_of hF) r') (El.of (fld_of X) (Z.getD ((o x).getD j 0) 0))=Fr p (m1*i) (Lf hF L j)*wd (fld_of hF) (o x) j;rw[Q]
 refine⟨_,cat_of hE hp ae U ag uI pI (b:=fun x j=>El.of (fld_of X) (Z.getD ((o x).getD j 0) 0)) S,fun row hrow=>?_⟩;obtain⟨u,N,b,_,s,rfl⟩:=hrow;have f:=af u N
 have g:Dv.Ok (p^m) na (scaleRow (opsT p m l) b u):=⟨by unfold scaleRow;rw[List.length_map,f.1],fun y hy=>by
  obtain⟨z,V,rfl⟩:=List.mem_map.1 hy
  exact(fld_of hF).mulL _ _ s (f.2 z V)⟩
 have D:∀x:El (p^m) (opsT p m l) (fld_of hF),(∀j,wd (fld_of X) (words.getD x.n []) j=sm gb.length fun i=>El.of (fld_of X) (Z.getD ((o x).getD i 0) 0)*wd (fld_of X) (gb.getD i []) j)/\(words.getD x.n []).length=nb:=fun x=>by
  have A:∀k,((o x).map fun y=>Z.getD y 0).getD k 0<p^m1:=fun k=>getD_ok (fun y hy=>by
   obtain⟨z,_,rfl⟩:=List.mem_map.1 hy
   exact q z) U0 k
  rw[(B x).2.2];refine⟨fun j=>?_,(vecM_mem (fld_of X).self (fun k _=>A k) ab U0 gb.length (Nat.le_refl _)).1⟩;rw[vecM_wd (fld_of X) (fun k _=>A k) ab gb.length (Nat.le_refl _) j];refine O.sm_congr fun i hi=>?_;rw[show((o x).map fun y=>Z.getD y 0).getD i 0=Z.getD ((o x).getD i 0) 0 by simp[List.getD,show i<(o x).length by rw[(B x).2.1];exact hi]]
 refine⟨fun i=>wd (fld_of hF) (scaleRow (opsT p m l) b u) i,((InC.mem N).mul (El.of (fld_of hF) b)).congr fun j _=>(wd_scale s f.2 j).symm,fun i j hi hj=>?_⟩;have v:∀x∈scaleRow (opsT p m l) b u,(words.getD x []).length=nb:=fun x hx=>by have:=(D (El.of (fld_of hF) x)).2;rw[El.of_n (g.2 x hx)] at this;exact this
 have e:=flat_at (words:=words) v (i:=i) (j:=j) (by rw[g.1];exact hi) hj;have P:wd (fld_of X) ((scaleRow (opsT p m l) b u).flatMap fun x=>words.getD x []) (i*nb+j)=wd (fld_of X) (words.getD ((scaleRow (opsT p m l) b u).getD i 0) []) j:=by unfold wd;rw[e]
 rw[P];have M:=(D (wd (fld_of hF) (scaleRow (opsT p m l) b u) i)).1 j;rw[show(wd (fld_of hF) (scaleRow (opsT p m l) b u) i).n=(scaleRow (opsT p m l) b u).getD i 0 from El.of_n (getD_ok g.2 U0 i)] at M;exact M
end
end Go.Proofs.YtndipkplnkfoeaaGreat
