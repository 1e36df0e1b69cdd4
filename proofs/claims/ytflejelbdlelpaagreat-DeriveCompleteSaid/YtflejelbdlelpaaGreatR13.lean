/- Parts of the proof. -/
import Derived.Test.YtflejelbdlelpaaGreatR12
set_option maxRecDepth 100000
set_option maxHeartbeats 8000000
namespace Go.Proofs.YtflejelbdlelpaaGreat
open Go.RowKit Pln Go.Proofs.Tryz
section
variable {P:Program} {ops:Array Oper} {S:Wo->Prop}
theorem qeP{Q:Act->Prop}{a:Act}{o:Oper}{rest:List Oper}(i:o.guard=none)(f:TypeId)(x:Operand)(k:o.op=.load f x)(b c:Nat)(m:a.eval x=.pointer (some (zA b c)))(cs:List Value)(d:TypeDesc)(g:∀w,S w->w.rangeAt b c cs)(l:P.underlying f=some d)(hd:d.isRow=true)(j:(P.info? f).map (·.size)=some cs.length)(h:wpKeep P ops S Q rest (a.put o.dst (.agg cs.toArray))):wpKeep P ops S Q (o :: rest) a:=
 qaJ i (fun W hW=>by
  unfold execOp
  simp only[k,m,Instr.loadAt,Instr.sureAddr,Sem.run_bind,Sem.run_pure,Result.andThen_ok,run_loadVar_mid W b c f cs d (g W hW) l hd j]) h
end
theorem codeSize:(prog.info? 27).map (·.size)=some 5:=U1
def lengthZ(n:Int):Int:=if n<1\/64<n then 4 else 0
theorem length_c(n:Int)(w:Wo):zC 41 #[Y n] w fun e w'=>e=.returned (Y (lengthZ n))/\w=w':=by
 by_cases c:n<1
 . (have b:zK (lengthZ n=4):=by show _=_;unfold lengthZ;rw[if_pos U0]);go_enter func41,ntmps41;go_wp2;go_ret;exact⟨qaG b.o.symm,rfl⟩
 . by_cases d : 64 < n
   . (have b:zK (lengthZ n=4):=by show _=_;unfold lengthZ;rw[if_pos U0]);go_enter func41,ntmps41;go_wp2;go_ret;exact⟨qaG b.o.symm,rfl⟩
   . (have b:zK (lengthZ n=0):=by show _=_;unfold lengthZ;rw[if_neg U0]);go_enter func41,ntmps41;go_wp2;go_ret;exact⟨qaG b.o.symm,rfl⟩
theorem gen_c(p m:Int)(h:OA)(n i:Nat)(N:Int)(A:OA)(nz c:Nat)(w:Wo):
 zC 43 #[C7 p m h n i N A nz c] w fun e w'=>e=.returned (Cp N A nz c)/\zB w w':=by
 have d:zK (zB w (w.alloc (C8 p m h n i N A nz c))):=zV.alloc zn _;go_enter func43,ntmps43;have b:zK ((w.alloc (C8 p m h n i N A nz c)).heap.size=w.heap.size+1):=U7;have g:zK (((w.alloc (C8 p m h n i N A nz c)).alloc (C9 N A nz c)).heap[w.heap.size+1]?=some (C9 N A nz c)):=by have:=heap_alloc_new (w.alloc (C8 p m h n i N A nz c)) (C9 N A nz c);rw[b.o] at this;exact this
 have f:zK (zB w ((w.alloc (C8 p m h n i N A nz c)).alloc (C9 N A nz c))):=d.o.alloc (by rw[b.o];omega) _;go_wp2_with (refine qaH rfl 60 (.tmp 2) (.tmp 7) rfl (w.alloc (C8 p m h n i N A nz c)) _ #[Y N,zL A nz c] (by show _=Value.pointer (zO (_));rw[b.o];rfl) rfl matSize rfl sc ?_);refine bodyPost_ret (results_cell_row (P:=prog) rfl _ _ (w.heap.size+1) 60 #[Y N,zL A nz c] (0,0) _ rfl g.o underlying60 rfl matSize) rfl ?_;exact⟨rfl,f.o⟩
def codeZ(p m:Int)(mod:LI)(N:Int)(zs:List LI):Int:=if fieldOK p m mod=false then 1 else if lengthZ N≠0 then 4 else spZ p m mod N zs
def SBoxC(w:Wo)(cs:List Value)(W:Wo):Prop:=W.heap[w.heap.size]?=some (.cells cs.toArray 27 (0,0))/\zB w W/\w.heap.size<W.heap.size
theorem SBoxC.grow{w:Wo}{cs:List Value}{W g:Wo}(h:SBoxC w cs W)(f:zB W g):SBoxC w cs g:=by obtain⟨c,d,b⟩:=h;exact⟨(f.block _ b).trans c,d.trans (f.mono (Nat.le_of_lt b)),Nat.lt_of_lt_of_le b f.size⟩
theorem SBoxC.range{w:Wo}{cs:List Value}{W:Wo}(h:SBoxC w cs W):W.rangeAt w.heap.size 0 cs:=qeL h.1
theorem SBoxC.range3{w:Wo}{v0 v1 v2 c d:Value}{W:Wo}(h:SBoxC w [v0,v1,v2,c,d] W):W.rangeAt w.heap.size 0 [v0,v1,v2]:=fun j v hv=>by
 have b:=qeL h.1
 refine b j v ?_
 rcases j with _|_|_|j
 . exact hv
 . exact hv
 . exact hv
 . simp at hv
theorem codecheck_c(p m:Int)(mod:LI)(C:OA)(D:Nat)(N:Int)(zs:List LI)(A:OA)(c:Nat)(w:Wo)(I:zI w C mod)(J:mod.length<=9223372036854775807)(H:zR w A zs)(E:zs.length<=9223372036854775807):
 zC 27 #[C7 p m C mod.length D N A zs.length c] w fun e w'=>e=.returned (Y (codeZ p m mod N zs))/\zB w w':=by
 have l:zK (SBoxC w (C3 p m C mod.length D N A zs.length c) (w.alloc (C8 p m C mod.length D N A zs.length c))):=
  ⟨heap_alloc_new _ _,zV.alloc zn _,U2⟩
 have s:=zH I;have v:=zH H;clear I H;go_enter func27,ntmps27;go_upto_region 1 with fail;generalize w.alloc (C8 p m C mod.length D N A zs.length c)=y at *;have k:=zH l.o.range3;have x:=zH (fcheck_c p m mod C D y ((s.o.keep l.o.2.1).more l.o.2.1.size) J);go_wp2_with (refine wpList_load_mid rfl 24 (.tmp 4) rfl w.heap.size 0 rfl (C5 p m C mod.length D) _ k.o underlying24 rfl fieldSize ?_);go_fit x.o;rintro e h ⟨rfl,hb1⟩;have f:=zH (l.o.grow hb1);clear hb1 l x k;clear y;cases hok:fieldOK p m mod
 . (have i:zK (codeZ p m mod N zs=1):=by show _=_;unfold codeZ;rw[if_pos hok]);have g:errF false=1:=rfl;rw[g];clear hok g;go_wp2;go_ret;exact⟨qaG i.o.symm,f.o.2.1⟩
 . have g : errF true = 0 := rfl;rw [g];have z:h.cell? (zA w.heap.size 3)=some (Y N):=cell_of_row _ _ 3 _ _ _ f.o.1;clear g;by_cases q:N<1\/64<N
   . (have d:lengthZ N=4:=by unfold lengthZ;rw[if_pos q]);(have i:zK (codeZ p m mod N zs=4):=by show _=_;unfold codeZ;rw[if_neg (by simp[hok]),if_pos (by rw[d];decide)]);(have r:zK (zC 41 #[Y N] h fun e w'=>e=.returned (Y 4)/\h=w'):=by have:=length_c N h;rw[d] at this;exact this);clear hok q d;go_wp2_with (go_at_call 41;go_fit r.o;rintro e w' ⟨rfl,rfl⟩);go_ret;exact⟨qaG i.o.symm,f.o.2.1⟩
   . (have b : lengthZ N = 0 := by unfold lengthZ;rw [if_neg q]);(have i:zK (codeZ p m mod N zs=spZ p m mod N zs):=by show _=_;unfold codeZ;rw [if_neg (by simp [hok]),if_neg (by rw [b];decide)]);(have r:zK (zC 41 #[Y N] h fun e w'=>e=.returned (Y 0)/\h=w'):=by have:=length_c N h;rw [b] at this;exact this)
     have j:zK (∀W,SBoxC w (C3 p m C mod.length D N A zs.length c) W->zC 43 #[C7 p m C mod.length D N A zs.length c] W fun e w'=>e=.returned (Cp N A zs.length c)/\SBoxC w (C3 p m C mod.length D N A zs.length c) w'):=
      fun W hW=>(gen_c p m C mod.length D N A zs.length c W).mono fun e w' ⟨g,hb⟩=>⟨g,hW.grow hb⟩
     have t:zK (∀W,SBoxC w (C3 p m C mod.length D N A zs.length c) W->zC 42 #[C4 p m C mod.length D,Cp N A zs.length c] W fun e w'=>e=.returned (Y (spZ p m mod N zs))/\SBoxC w (C3 p m C mod.length D N A zs.length c) w'):=
      fun W hW=>(scheck_c p m mod C D N zs A c W ((s.o.keep hW.2.1).more hW.2.1.size) J ((v.o.keep hW.2.1).more hW.2.1.size) E U0).mono fun e w' ⟨g,hb⟩=>⟨g,hW.grow hb⟩
     clear hok q b s v;go_upto_region 6 with(go_at_call 41;go_fit r.o;rintro e w' ⟨rfl,rfl⟩);clear z;refine qaD (SBoxC w (C3 p m C mod.length D N A zs.length c)) U1 U1 (f.o.grow zV.drew) ?_
     repeat (first
      | (refine qeP rfl 24 (.tmp 14) rfl w.heap.size 0 rfl (C5 p m C mod.length D) _ (fun W hW => hW.range3) underlying24 rfl fieldSize ?_
         go_simp)
      | (refine qeP rfl 27 (.tmp 1) rfl w.heap.size 0 rfl (C3 p m C mod.length D N A zs.length c) _ (fun W hW => hW.range) underlying27 rfl codeSize ?_
         go_simp)
      | (apply qaJ rfl
         . intro W n
           go_simp
           rfl
         go_simp)
      | (apply qaO rfl
         . intro W n
           go_simp
           exact⟨rfl,rfl⟩
         . intro W n
           first
            |exact j.o W n
            |exact t.o W n
         go_simp))
     refine qaE ?_;intro B u;go_wp2;go_ret;exact⟨qaG i.o.symm,u.2.1⟩
theorem orderM_wide{p m:Nat}(f:2<=p)(d:1<=m)(c:m<=8):orderM p m=if 256<p^m then 0 else((p^m:Nat):Int):=by
 by_cases h:p<=256
 . exact qbX f h d c
 . rw[qbQ U0,if_pos];have b:=qbZ (p:=p) (k:=1) (m:=m) f d;rw[Nat.pow_one] at b;omega
theorem rorder_c(p m:Int)(A:OA)(n c:Nat)(w:Wo):zC 15 #[C4 p m A n c] w fun e w'=>e=.returned (Y (orderM p m))/\zB w w':=by
 have b:zK (zB w (w.alloc (C2 p m A n c))):=zV.alloc zn _;by_cases j:p<2
 . have f:=zH (qbQ (p:=p) (m:=m) (.inl j));go_enter func15,ntmps15;go_wp2;go_ret;exact⟨qaG f.o.symm,b.o⟩
 . by_cases I : m < 1
   . have f:=zH (qbQ (p:=p) (m:=m) (.inr (.inr (.inl I))));go_enter func15,ntmps15;go_wp2;go_ret;exact⟨qaG f.o.symm,b.o⟩
   . by_cases J : 8 < m
     . have f:=zH (qbQ (p:=p) (m:=m) (.inr (.inr (.inr J))));go_enter func15,ntmps15;go_wp2;go_ret;exact⟨qaG f.o.symm,b.o⟩
     . obtain ⟨p,rfl⟩ := Int.eq_ofNat_of_zero_le (by omega : 0 <= p);obtain ⟨m,rfl⟩:=Int.eq_ofNat_of_zero_le (by omega:0<=m);have z:2<=p:=U0;have M:1<=m:=U0;have l:m<=8:=U0;have t:=zH (orderM_wide z M l);have hd:(256:Int) / (p:Int)=((256 / p:Nat):Int):=rfl;have g:zK (∀ q:Nat,256 / p<q ↔ 256<q*p):=fun q=>Nat.div_lt_iff_lt_mul U0;generalize 256 / p=H at *;go_enter func15,ntmps15;go_wp2_with fail;have v:=cell_of_row (w.alloc (C2 p m A n c)) w.heap.size 0 _ _ _ (heap_alloc_new w _);have x:=cell_of_row (w.alloc (C2 p m A n c)) w.heap.size 1 _ _ _ (heap_alloc_new w _);generalize w.alloc (C2 p m A n c)=u at *;have D:u.cell? (zA w.heap.size 0)=some (Y (p:Int)):=v;have E:u.cell? (zA w.heap.size 1)=some (Y (m:Int)):=x;clear v x;go_loop [3,4] (fun a i=>∃ k:Nat,k<=m/\p ^ k<=256/\i=Y k/\a=Y ((p ^ k:Nat):Int)) (fun _ i=>m-(intOf i).toNat);case atStart=>exact ⟨0,U0,U2,rfl,U2⟩
       case round =>
        obtain⟨k,N,O,rfl,rfl⟩:=hrel;by_cases L:k<m
        . have h : zK (p ^ (k + 1) = p ^ k * p) := Nat.pow_succ _ _;have B:=zH (qbZ z (show k+1<=m by omega));generalize p ^ k=q at *;have d:=g.o q;by_cases K:H<q
          . (have C:zK (orderM p m=0):=by show _=_;rw[t.o,if_pos];have j:=B.o;rw[h.o] at j;have:=d.1 K;omega);clear d;go_wp2;go_ret;exact⟨qaG C.o.symm,b.o⟩
          . (have r : q * p<=256:=by omega);have y:(q:Int)*(p:Int)=((q*p:Nat):Int):=(Int.natCast_mul _ _).symm;clear d;generalize q*p=P at *;go_wp2;go_round;case rel=>exact⟨k+1,U0,by rw[h.o];exact r,U3,by rw[h.o]⟩
            case measure=>simp[intOf];omega
        . (obtain rfl:k=m:=by omega);generalize s:p^k=q at *;clear s;go_wp2;go_ret;exact⟨qaG (by rw[t.o,if_neg U0]),b.o⟩
theorem primeB_iff(n:Nat):primeB n=true ↔ ∀ d,2<=d->d<n->n % d≠0:=by
 unfold primeB;rw[List.all_eq_true];constructor
 . intro h d f b;have:=h d (List.mem_range.2 b);simp only[Bool.or_eq_true,Nat.blt_eq,bne_iff_ne,ne_eq] at this;omega
 . intro h d b;have c:=List.mem_range.1 b;simp only[Bool.or_eq_true,Nat.blt_eq,bne_iff_ne,ne_eq];by_cases f:d<2
   . exact .inl f
   . exact .inr (h d U0 c)
theorem rprime_c(n:Nat)(z:n<=1000000)(w:Wo):zC 33 #[Y n] w fun e w'=>e=.returned (.bool (primeB n))/\w=w':=by
 have j:=zH (primeB_iff n);go_enter func33,ntmps33;go_wp2;go_loop [3] (fun v3=>∃k:Nat,2<=k/\(k<=n\/k=2)/\v3=Y k/\∀d,2<=d->d<k->n % d≠0) (fun v3=>n-(intOf v3).toNat);case atStart=>exact⟨2,U0,.inr rfl,rfl,fun d h1 h2=>U0⟩
 case round =>
  obtain⟨k,s,u,rfl,c⟩:=hrel;have b:=zH c;clear c;by_cases g:k<n
  . have y := qaY n k;have t:¬ (k:Int)=0:=U0;(have x:zK (∀ d,d=k->n % d=n % k):=fun d e=>by rw [e]);generalize l:n % k=r at *;have f:=zH l;clear l;by_cases i:r=0
    . (have m:zK (primeB n=false):=by show _=_;rw[<- Bool.not_eq_true,j.o];intro h;exact h k s g (by rw[f.o,i]));subst i;go_wp2;go_ret;exact⟨qaN m.o.symm,rfl⟩
    . (have v : ((r : Int) == 0) = false := by rw [beq_eq_false_iff_ne];omega);have p:zK (∀ d,2<=d->d<k+1->n % d≠0):=fun d h1 h2=>by
       by_cases hd:d=k
       . rw[hd,f.o];exact i
       . exact b.o d h1 U0
      go_wp2;go_round;case rel=>exact⟨k+1,U0,.inl U0,U3,p.o⟩
      case measure=>simp[intOf];omega
  . (have q:=zH<|j.o.2 (fun d h1 h2=>b.o d h1 U0));go_wp2;go_ret;exact⟨qaN q.o.symm,rfl⟩
theorem rdigits_c(x p m:Nat)(w:Wo)(R:x<=1000000000)(T:1<=p)(Q:p<=1000000000)(S:m<=1000):
 zC 79 #[Y x,Y p,Y m] w fun e w'=>e=.returned (zS w.heap.size m m)/\Row w' w.heap.size w.heap.size m (nz (digs p m x))/\zB w w':=by
 obtain⟨D,C,n,q,r⟩:=qaF infoInt;have H:=zH C;have z:=zH n;have A:=zH q;have t:=zH (show D.bytes*m<=281474976710656 by rw[r];omega);have u:=zH (show m<=maxLen by unfold maxLen;omega);clear C n q r;go_enter func79,ntmps79;go_wp2_with (refine wpList_make_full w rfl (.tmp 9) (.tmp 9) 22 rfl w.heap.size 3 D (Y 0) 1 underlying22 H.o z.o A.o .i64 .i64 m m m rfl rfl rfl rfl t.o u.o zn ?_;intro P d i);have v:=zH (Row.of_make d);have s:=zH (qaL i);clear d i;go_loopw [0,8] (fun v0 v13 wr=>RelDig w p m x v0 v13 wr) (fun _ v13 _=>m-(intOf v13).toNat);case atStart=>exact⟨0,U0,U2,rfl,v.o,s.o⟩
 case round =>
  obtain⟨k,K,rfl,rfl,b,B⟩:=hrel;have g:=zH b;have c:=zH B;have O:=b.frozen k;have E:zK (x / p^(k+1)=x / p^k / p):=by rw[Nat.pow_succ,<- Nat.div_div_eq_div_mul];rfl
  have J:x / p^k<=1000000000:=Nat.le_trans (Nat.div_le_self _ _) R;have I:=zH (fun h=>dgK_set p m x k h);have f:=zH (dgK_len p m x k K);by_cases l:k<m
  . have N:=b.cell (j:=k) (by rw[qaA,f.o];exact l);clear b B v s;generalize x / p^k=y at *;have L:0<=(y:Int) / (p:Int):=Int.ediv_nonneg U0 U0;have M:(y:Int) / (p:Int)<=(y:Int):=Int.ediv_le_self _ U0;go_wp2;go_roundw;case rel=>refine⟨k+1,U0,by rw[E.o];go_num,U3,?_,(c.o.setCell zn _)⟩;rw[<- I.o l,<- qbC];exact g.o.set k _
    case measure=>simp[intOf];omega
  . (obtain rfl:k=m:=by omega);clear b B v s;generalize x / p^k=y at *;go_wp2;go_ret;refine⟨rfl,?_,c.o⟩;have:=g.o;unfold dgK at this;rw[Nat.sub_self,List.replicate_zero,List.append_nil] at this;exact this
def RelDv(w:Wo)(B p:Nat)(low md:LN)(g c:Nat)(v9:Value)(wr:Wo):Prop:=
 ∃t i:Nat,t<=md.length+1-low.length/\i+t=md.length/\v9=Y (i:Int)/\Row wr B g c (nz (divGo p low (md++[1]) t))/\Below B w wr
def RelDr(w:Wo)(B p:Nat)(low:LN)(i cc:Nat)(s:LN)(g c:Nat)(v11:Value)(wr:Wo):Prop:=
 ∃j:Nat,j<=low.length/\v11=Y (j:Int)/\Row wr B g c (nz (divRow p low.length low i cc s j))/\Below B w wr
theorem rdivides_c(p:Nat)(low md:LN)(Al Am:OA)(cl cm:Nat)(w:Wo)(hp:2<=p)(bf:p<=256)(hL:zI w Al (nz low))(hM:zI w Am (nz md))(hl:Dig p low.length low)(hm:Dig p md.length md)(bc:1<=low.length)(bd:low.length<=md.length)(be:md.length<=8):
 zC 78 #[zL Al low.length cl,zL Am md.length cm,Y p] w fun e w'=>e=.returned (.bool (dividesM p low md))/\zB w w':=by
 obtain⟨i0,hi,an,ao,ap⟩:=qaF infoInt;have HI:=zH hi;have ac:=zH an;have ad:=zH ao;have ae:=zH ap;obtain⟨b,o,rfl,af,hc⟩:=hM.at_ (k:=0) (by rw[qaA];omega);have HL:=zH hL;have aa:zK ((w.alloc (.cells #[] 3)).ownsRow w.heap.size 3 1 (zS w.heap.size 0 0) 0 []):=World.ownsRow_made w #[] 0 zn ml rfl;have H:zK (∀(j:Nat)(u:Value),((nz md).map (Value.int .i64))[j]?=some u->(w.alloc (.cells #[] 3)).cell? ((⟨b,o,none⟩:Addr).add j)=some u):=(hM.keep (zV.alloc zn _)).news
 have T:zK (∀t,Dig p (md.length+1) (divGo p low (md++[1]) t)):=fun t=>divGo_dig U0 low ⟨U2,fun d hd=>by
  rcases List.mem_append.1 hd with h|h
  . exact hm.2 d h
  . simp at h;omega⟩ t
 have V:zK (∀i cc s,Dig p (md.length+1) s->∀j,Dig p (md.length+1) (divRow p low.length low i cc s j)):=fun i cc s hs j=>qcY U0 _ low i cc hs j;have ar:=zH<|fun j=>qeV U0 hl j
 have m:=zH (qaA md);clear hi an ao ap hM hL hc hm hl;go_enter func78,ntmps78;go_upto_region 3 with(at_builtin;refine wpList_append_lies _ rfl (.tmp 15) (.tmp 16) 22 rfl w.heap.size 3 i0 _ 1 8 underlying22 HI.o ac.o ad.o ae.o rfl dc (zS w.heap.size 0 0) 0 [] rfl aa.o (zA b o) md.length cm ((nz md).map (Value.int .i64)) rfl ?c0 H.o ?c2 ?c1 ?c3 ?c4 ?c5 _ rfl ?_);case c0=>simp[nz]
 case c1=>omega
 case c2=>intro u hu;obtain⟨z,_,rfl⟩:=List.mem_map.1 hu;rfl
 case c3=>unfold maxLen;omega
 case c4=>omega
 case c5=>simp
 intro g1 I w1 L ah Q ai;have M:=zH<|(zV.alloc zn _).grown ah U2 (fun k hk=>by simp[Value.ownBlock] at hk;omega)
 have O:zK (Row w1 w.heap.size g1 I (nz md)):=by show w1.ownsRow _ _ _ _ _ _;rw[m.o];exact L
 have a3:=M.o.size;clear L ah Q ai af;go_upto_region 4 with(at_builtin;refine wpList_append_own_at _ rfl (.tmp 18) (.tmp 19) 22 rfl w.heap.size 3 i0 _ 1 8 underlying22 HI.o ac.o ad.o ae.o rfl dc (zS g1 md.length I) md.length ((nz md).map (Value.int .i64)) rfl (own_of_row O.o m.o) (zA w1.heap.size 0) 1 1 [Y 1] rfl rfl ?d1 ?d2 ?d3 ?d4 ?d5 ?_);case d1=>exact World.news_of_block (cs:=#[Y 1]) (t:=3) (fr:=(0,0)) (heap_alloc_new w1 _)
 case d2=>intro u hu;simp at hu;subst hu;rfl
 case d3=>unfold maxLen;omega
 case d4=>omega
 case d5=>simp;omega
 intro v' w3 v K _ Q;have S:=zH<|(M.o.alloc a3 _).grown K so (fun j hj=>by simp[Value.ownBlock] at hj;have:=O.o.lt;omega)
 have aw:=own_of_append (y:=1) v m.o;obtain⟨g,cg,rfl,f⟩:=aw;have aj:(nz (md++[1])).length=md.length+1:=by simp[nz]
 rw[aj];have ab:zK (RelDv w w.heap.size p low md g cg (Y (md.length:Int)) w3):=⟨0,md.length,Nat.zero_le _,rfl,rfl,f,S.o⟩;clear v K Q f aj O M S H aa;have q:zK (∀t i,i+t=md.length->divGo p low (md++[1]) (t+1)=(divRow p low.length low i ((divGo p low (md++[1]) t).getD i 0) (divGo p low (md++[1]) t) low.length).set i 0):=fun t i h=>by show(divRow p low.length low ((md++[1]).length-1-t) _ _ low.length).set ((md++[1]).length-1-t) 0=_;have e:(md++[1]).length-1-t=i:=so;rw[e]
 have E:zK (dividesM p low md=(divGo p low (md++[1]) (md.length+1-low.length)).all (·==0)):=rfl;have aq:zK (∀W:Wo,zB w W->IntsAt W w.heap.size Al (nz low)):=fun W hW=>HL.o.keep hW;clear HL m;go_wp2;go_loopw [9] (fun v9 wr=>RelDv w w.heap.size p low md g cg v9 wr) (fun v9 _=>(intOf v9+1).toNat-low.length);case atStart=>exact ab.o
 case round =>
  obtain⟨t,i,ht,az,rfl,f,hb⟩:=hrel;have c:=zH f;have D:=zH hb;have l:=T.o t;have r:(nz (divGo p low (md++[1]) t)).length=md.length+1:=by rw[qaA];exact l.1
  have U:=zH l;clear f hb ab;by_cases ai:low.length<=i
  . have av := zH (q.o t i az);(have ay:wr.cell? (zA g i)=some (Y (((divGo p low (md++[1]) t).getD i 0:Nat):Int)):=by rw [<- qaC];exact c.o.cell (by rw [r];omega));have a8:=qeV U0 l i;have X:=zH (fun cc=>V.o i cc _ l);clear l r;generalize (divGo p low (md++[1]) t).getD i 0=cc at *;generalize divGo p low (md++[1]) t=s at *;have Z:zK (RelDr w w.heap.size p low i cc s g cg (Y ((0:Nat):Int)) wr):=⟨0,Nat.zero_le _,rfl,c.o,D.o⟩;have j0:(0:Int)<=(i:Int):=U0;have j1:(i:Int)<((md.length+1:Nat):Int):=U0;go_wp2_with fail;clear ay c D;go_loopw [11] (fun v11 wr=>RelDr w w.heap.size p low i cc s g cg v11 wr) (fun v11 _=>low.length-(intOf v11).toNat);case atStart=>exact Z.o
    case round =>
     obtain⟨j,hj,rfl,f,hb⟩:=hrel;have c:=zH f;have D:=zH hb;have hdr:=X.o cc j;clear f hb Z;by_cases a1:j<low.length
     . obtain ⟨a,rfl⟩ : ∃ a,i = a + low.length := ⟨i - low.length,U0⟩;(have ak:wr.cell? (zA g (a+j))=some (Y (((divRow p low.length low (a+low.length) cc s j).getD (a+j) 0:Nat):Int)):=by rw [<- qaC];exact c.o.cell (by rw [qaA,hdr.1];omega));obtain ⟨bl,ol,rfl,af,a0⟩:=(aq.o wr D.o).at_ (k:=j) (by rw [qaA];exact a1);rw [qaC] at a0;have a9:=ar.o j;have bb:=qeV U0 hdr (a+j);(have au:zK (divRow p low.length low (a+low.length) cc s (j+1)=(divRow p low.length low (a+low.length) cc s j).set (a+j) (((divRow p low.length low (a+low.length) cc s j).getD (a+j) 0+(p-cc)*low.getD j 0) % p)):=by show addAt p _ (a+low.length-low.length+j) _=_;rw [Nat.add_sub_cancel];rfl);have hf:=c.o.frozen (a+j);have T1:zK (Int.tmod ((((divRow p low.length low (a+low.length) cc s j).getD (a+j) 0+(p-cc)*low.getD j 0:Nat):Nat):Int) (p:Int)=((((divRow p low.length low (a+low.length) cc s j).getD (a+j) 0+(p-cc)*low.getD j 0) % p:Nat):Int)):=qaY _ _;clear hdr;generalize divRow p low.length low (a+low.length) cc s j=rj at *;generalize rj.getD (a+j) 0=x at *;generalize low.getD j 0=lj at *;(have E1:zK (IntKind.i64.wrap (((a+low.length:Nat):Int)-(low.length:Int))=(a:Int)):=by show _=_;rw [show ((a+low.length:Nat):Int)-(low.length:Int)=(a:Int) by omega];exact IntWalk.i64_in _ U0);(have E3:zK (IntKind.i64.wrap ((p:Int)-(cc:Int))=((p-cc:Nat):Int)):=by show _=_;rw [Int.natCast_sub U0];exact IntWalk.i64_in _ U0);have a2:p-cc<=256:=U0;(have E2:zK (IntKind.i64.wrap ((a:Int)+(j:Int))=((a+j:Nat):Int)):=by show _=_;rw [Int.natCast_add];exact IntWalk.i64_in _ U0);have a5:(p-cc)*lj<=65536:=Nat.le_trans (Nat.mul_le_mul a2 (show lj<=256 by omega)) U0;(have E4:zK (IntKind.i64.wrap (((p-cc:Nat):Int)*(lj:Int))=(((p-cc)*lj:Nat):Int)):=by show _=_;rw [<- Int.natCast_mul];exact IntWalk.i64_in _ U0);generalize (p-cc)*lj=pl at *;generalize p-cc=pc at *;(have E5:zK (IntKind.i64.wrap ((x:Int)+(pl:Int))=((x+pl:Nat):Int)):=by show _=_;rw [Int.natCast_add];exact IntWalk.i64_in _ U0);have k0:(0:Int)<=((a+j:Nat):Int):=U0;have k1:((a+j:Nat):Int)<(md.length:Int)+1:=U0;have l0:(0:Int)<=(j:Int):=U0;have l1:(j:Int)<(low.length:Int):=U0;have ba:¬ (p:Int)=0:=U0;have a6:¬ p=0:=U0;generalize (x+pl) % p=z at *;generalize x+pl=xp at *;generalize hy:a+j=y at *;generalize B:a+low.length=i at *;have HY:=zH hy;have a7:=zH B;clear hy B;go_upto_region 11 with fail;have e1:=E1.o;have e2:=E2.o;have e3:=E3.o;have e4:=E4.o;have e5:=E5.o;have t1:=T1.out;refine qaI 26 (SDrew wr) U1 U1 ⟨1,rfl⟩ ?_;simp only [List.take_succ_cons,List.take_zero,List.drop_succ_cons,List.drop_zero]
       repeat (apply qaJ rfl
               . intro W hS;obtain⟨n,rfl⟩:=hS;go_simp;rfl
               go_simp)
       refine qaE ?_;intro w2 ax;obtain⟨n,rfl⟩:=ax;clear e1 e2 e3 e4 e5 t1;go_wp2;go_roundw;case rel=>exact⟨j+1,U0,U3,by rw[au.o,<- qbC];exact Row.set (w:=wr.drewN n) c.o y z,(qaB D.o n).setCell (p:=(zA g y)) c.o.lt.1 _⟩
       case measure=>simp[intOf];omega
     . (obtain rfl : j = low.length:=by omega);have hf:=c.o.frozen i;(have ak:wr.cell? (zA g i)=some (Y (((divRow p low.length low i cc s low.length).getD i 0:Nat):Int)):=by rw[<- qaC];exact c.o.cell (by rw[qaA,hdr.1];omega));clear hdr;go_wp2;go_roundw;case rel=>exact⟨t+1,i-1,U0,U0,by rw[show((i-1:Nat):Int)=(i:Int)-1 by omega],by rw[av.o,<- qbC];exact c.o.set i 0,D.o.setCell (p:=(zA g i)) c.o.lt.1 _⟩
       case measure=>simp[intOf];omega
  . (have al : t = md.length + 1 - low.length := by omega);(have HE:zK (dividesM p low md=(divGo p low (md++[1]) t).all (·==0)):=by show _=_;rw [E.o,<- al]);have ag:=l.1;clear al l r U T V q E;generalize divGo p low (md++[1]) t=s at *;have B:(i:Int)<(low.length:Int):=U0;(have A:=zH<|ag);clear ag;go_wp2_with fail;clear B;go_loop [12] (fun v12=>∃ k:Nat,k<=md.length+1/\v12=Y k/\(s.take k).all (·==0)=true) (fun v12=>md.length+1-(intOf v12).toNat);case atStart=>exact ⟨0,U0,rfl,U2⟩
    case round =>
     obtain⟨k,hk,rfl,J⟩:=hrel;have C:=zH J;clear J;by_cases R:k<md.length+1
     . (have ak : wr.cell? (zA g k) = some (Y ((s.getD k 0 : Nat) : Int)) := by rw [<- qaC];exact c.o.cell (by rw [qaA,A.o];exact R));have P:=zH (qbN (·==0) s 0 k (by rw [A.o];exact R));have N:=zH (qbL (·==0) s 0 k (by rw [A.o];exact R));generalize s.getD k 0=z at *;by_cases hz:z=0
       . (have a4 : ((z : Int) != 0) = false:=by rw[hz];rfl);(have HN:zK ((s.take (k+1)).all (·==0)=true):=by show _=_;rw[P.o,C.o,hz];rfl);clear hz P N;go_wp2;go_round;case rel=>exact⟨k+1,U0,U3,HN.o⟩
         case measure=>simp[intOf];omega
       . (have a4:((z:Int) != 0)=true:=by rw[bne_iff_ne];omega);(have HN:zK (dividesM p low md=false):=by show _=_;rw[HE.o];exact N.o (by simpa using hz));clear hz P N;go_wp2;go_ret;exact⟨qaN HN.o.symm,D.o⟩
     . (have HN:zK (dividesM p low md=true):=by show _=_;have:=C.o;rw[List.take_of_length_le (by rw[A.o];omega)] at this;rw[HE.o,this]);go_wp2;go_ret;exact⟨qaN HN.o.symm,D.o⟩
end Go.Proofs.YtflejelbdlelpaaGreat
