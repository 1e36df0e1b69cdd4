/- Parts of the proof. -/
import Derived.Test.YtndipkplnkfoeaaGreatR07
import Derived.Laws.EntriesVeiled
set_option maxRecDepth 100000
set_option maxHeartbeats 8000000
namespace Go.Proofs.YtndipkplnkfoeaaGreat
open Go.RowKit Pln
theorem ft_T:FT 2 1 (mdOf 1 []) lT:=field_ft (p:=2) (m:=1) (mod:=[]) U1
theorem mul_T:mulT lT (logL lT (2^1)) (2^1) 1 1=1:=U1
theorem add_T:addD 2 1 0 1=1:=U1
def mixL(a j:Nat):List Nat:=List.replicate j a++List.replicate (3-j) 0
theorem mixL_len{a j:Nat}(h:j<=3):(mixL a j).length=3:=by unfold mixL;simp;omega
theorem mixL_at{a j:Nat}(h:j<3):(mixL a j).getD j 0=0:=by
 match j,h with
 |0,_=>rfl
 |1,_=>rfl
 |2,_=>rfl
theorem mixL_set{a j:Nat}(h:j<3):(mixL a j).set j a=mixL a (j+1):=by
 match j,h with
 |0,_=>rfl
 |1,_=>rfl
 |2,_=>rfl
theorem mixL_z{j:Nat}(h:j<3):mixL 0 j=mixL 0 (j+1):=by
 match j,h with
 |0,_=>rfl
 |1,_=>rfl
 |2,_=>rfl
def RelFa(l bo Ba Bc By Bg Bf gb G:Nat)(lb:Array Value)(J:Nat->World->Prop)(W:World)(v29:Value)(wr:World):Prop:=
 ∃a:Nat,a<=2/\v29=Y a/\WkS l bo Ba Bc By Bg Bf gb G lb a wr/\J a wr/\SameBut l bo Ba W wr
def RelFb(wo:World)(g c a:Nat)(v40:Value)(wr:World):Prop:=
 ∃j:Nat,j<=3/\v40=Y j/\Row wr wo.heap.size g c (nz (mixL a j))/\Below wo.heap.size wo wr
theorem from0_c(l bo Ba Bc By Bg Bf gb G Bz:Nat)(J:Nat->World->Prop)(hJ:∀ j A B,J j A->Below Bz A B->J j B)(hz:Bz<=Ba)(ag:l<Bz)(ah:bo<Bz)(hY:RndsOk l bo Bz J)(bw cw:Nat)(af:Far l bo Ba bw)(W:World)(hS:WkS l bo Ba Bc By Bg Bf gb G (Co Bc Ba By Bg Bf) 0 W)(h0:J 0 W)(hA:IntsAt W W.heap.size (zO bw) (nz (List.replicate 3 0))):
 zC 168 #[Y 0,zS bw 3 cw,zP Bc,zP Ba,zP By,zP Bg,zP Bf] W (FromOk l bo Ba Bc By Bg Bf gb G (Co Bc Ba By Bg Bf) J 2 W):=by
 have N:Hid (∀(k:Nat)(bw ow cw:Nat)(W:World),k<2->Far l bo Ba bw->WkS l bo Ba Bc By Bg Bf gb G (Co Bc Ba By Bg Bf) k W->J k W->IntsAt W W.heap.size (some (zA bw ow)) (nz (List.replicate 3 k))->zC 168 #[Y 1,zL (some (zA bw ow)) 3 cw,zP Bc,zP Ba,zP By,zP Bg,zP Bf] W (FromOk l bo Ba Bc By Bg Bf gb G (Co Bc Ba By Bg Bf) J (k+1) W)):=
  fun k bw ow cw W hk hf hS h0 hA=>from1_c l bo Ba Bc By Bg Bf gb G Bz _ J hJ hz U0 U0 hY k hk bw ow cw hf W hS h0 hA
 have d:=zH hS;have HJ:=zH hJ;have HA:=zH hA;have HG:=zH hS.gf.at_;have HO:=zH (gorder_e gb W.heap.size 2 1 lT (logL lT (2^1)) W HG.out);have S:W.cell? (zA Bc 4)=some (zS G 1 1):=d.out.code 4 _ rfl;have cg:=d.out.gee.2;have E:Hid (RelFa l bo Ba Bc By Bg Bf gb G (Co Bc Ba By Bg Bf) J W (Y ((0:Nat):Int)) W):=⟨0,U0,rfl,hS,h0,.refl⟩;clear hS hY hJ h0 hA HG;go_enter Tryz.func168,Tryz.ntmps168;go_wp2_with fail;refine HO.out.mono ?_;rintro e w' ⟨rfl,rfl⟩;clear HO cg S d;go_wp2_with fail;go_loopw [29] (fun v29 wr=>RelFa l bo Ba Bc By Bg Bf gb G (Co Bc Ba By Bg Bf) J W v29 wr) (fun v29 _=>2-(intOf v29).toNat);case atStart=>exact E.out
 case round =>
  obtain⟨a,ha,rfl,hS,hj,hE⟩:=hrel;have d:=zH hS;have s:=zH hj;have I:=zH hE;clear hS hj hE E;by_cases aa:a<2
  . (have a0 : (0 : Int) <= (a : Int) := by omega);have a1:(a:Int)<2:=U0;have ac:IntKind.i64.wrap ((a:Int)+1)=(a:Int)+1:=IntWalk.i64_in _ U0;(have D:Hid ((nz (List.replicate 3 0)).length=3):=by show _=_;rw [qaA,List.length_replicate]);have L:=zH (sclone_c (nz (List.replicate 3 0)) (zO bw) cw wr (I.out.ints af HA.out) (by rw [qaA,List.length_replicate];omega) (by rw [qaA,List.length_replicate];omega));rw [D.out] at L;go_wp2_with fail;(with_reducible refine L.out.mono ?_);rintro e w1 ⟨⟨g,c,rfl,b⟩,hb1⟩;have X:=b.lt;have ab:=d.out.lt;have O:Hid (Far l bo Ba g):=⟨U0,U0,U0⟩;have y:Hid (RelFb wr g c a (Y ((0:Nat):Int)) w1):=⟨0,U0,rfl,b,hb1⟩;obtain ⟨_,R,ro,cr,_,v,H⟩:=d.out.gen;have q:=zH H;have S:w1.cell? (zA Bc 4)=some (zS G 1 1):=(d.out.grow hb1).code 4 _ rfl;have cG:w1.cell? (zA G 0)=some (zL (some (zA R ro)) 3 cr):=(hb1.cell (p:=(zA G 0)) (World.block_lt_of_cell? wr _ v)).trans v;clear b hb1 v H L;generalize wr=wo at *;go_wp2_with fail;clear S cG;go_loopw [40] (fun v40 wr=>RelFb wo g c a v40 wr) (fun v40 _=>3-(intOf v40).toNat);case atStart=>exact y.out
    case round =>
     obtain⟨j,Z,rfl,b,hb⟩:=hrel;have t:=zH b;have m:=zH hb;clear b hb y;by_cases f:j<3
     . (have j0 : (0 : Int) <= (j : Int) := by omega);have j1:(j:Int)<3:=U0;have ad:IntKind.i64.wrap ((j:Int)+1)=(j:Int)+1:=IntWalk.i64_in _ U0;have cR:wr.cell? (zA R (ro+j))=some (Y 1):=(m.out.cell (p:=(zA R (ro+j))) (World.block_lt_of_cell? wo _ (q.out j f))).trans (q.out j f);by_cases U:a=0
       . subst U;go_wp2_with fail;go_roundw;case rel=>exact⟨j+1,U0,gn,by rw[<- mixL_z f];exact t.out,m.out⟩
         case measure=>first|(simp[intOf];done)|(simp[intOf];omega)
       . (have x : Hid (a = 1) := by show _ = _;omega);(have ae:((a:Int) != 0)=true:=by rw [bne_iff_ne];omega);have r:=zH ((d.out.grow m.out).gf.at_);have cg:=(d.out.grow m.out).gee.2;(have y1:wr.cell? (zA g j)=some (Y ((0:Nat):Int)):=by have:=t.out.cell (j:=j) (by rw [qaA,mixL_len Z];exact f);rw [qaC,mixL_at f] at this;exact this);have f1:=t.out.frozen j;(have HM:Hid (∀ V,SDrew wr V->zC 142 (Cn gb a 1) V fun e w'=>e=.returned (Y (a:Int))/\SDrew wr w'):=fun V ⟨n,o⟩=>by subst o;rw [x.out];have h:=mul_c 1 1 gb 2 1 wr.heap.size _ lT (wr.drewN n) ft_T (r.out.keep (qaB (Below.refl wr.heap.size wr) n)) U0 U0;rw [mul_T] at h;refine h.mono ?_;rintro e w' ⟨he,k,rfl⟩;exact ⟨he,n+k,U9⟩);(have K:Hid (∀ V,SDrew wr V->zC 143 #[zP gb,Y 0,Y (a:Int)] V fun e w'=>e=.returned (Y (a:Int))/\SDrew wr w'):=fun V ⟨n,o⟩=>by subst o;rw [x.out];have h:=add_c 0 1 gb 2 1 wr.heap.size lT _ (wr.drewN n) ft_T.small (r.out.keep (qaB (Below.refl wr.heap.size wr) n)) U0 U0;rw [add_T] at h;refine h.mono ?_;rintro e w' ⟨he,k,rfl⟩;exact ⟨he,n+k,U9⟩);clear r;go_upto_region 12 with fail;refine qaI 12 (SDrew wr) U1 U1 ⟨1,rfl⟩ ?_;simp only [List.take_succ_cons,List.take_zero,List.drop_succ_cons,List.drop_zero]
         repeat (first
          | (apply qaJ rfl
             . intro V o
               obtain⟨n,rfl⟩:=o
               go_simp
               rfl
             go_simp)
          | (apply qaO rfl
             . intro V o
               go_simp
               exact⟨rfl,rfl⟩
             . intro V o
               first
                |exact HM.out V o
                |exact K.out V o
             go_simp))
         refine qaE ?_;intro w2 T;obtain⟨n,rfl⟩:=T;go_wp2_with fail;go_roundw;case rel=>refine⟨j+1,U0,gn,?_,(m.out.trans ((qaB (Below.refl wr.heap.size wr) n).mono m.out.size)).setCell (p:=(zA g j)) X.1 _⟩;rw[<- mixL_set f,<- qbC];exact Row.set (w:=wr.drewN n) t.out j _
         case measure=>first|(simp[intOf];done)|(simp[intOf];omega)
     . (obtain rfl : j = 3:=by omega);have u:=zH (d.out.grow m.out);have C:=zH (HJ.out a wo wr s.out (m.out.mono (Nat.le_of_lt (Nat.lt_of_le_of_lt hz d.out.lt))));have z:Hid (SameBut l bo Ba W wr):=I.out.trans (.of_below m.out);have i:=zH (N.out a g 0 c wr aa O.out u.out C.out (t.out.ints t.out.lt.2));have cf:=u.out.frm.2;clear d s I m t q;go_wp2_with fail;refine i.out.mono ?_;rintro e w3 ⟨rfl,hs3,hj3',he3⟩;have Q:=zH hs3;have P:=zH hj3';have M:Hid (SameBut l bo Ba W w3):=z.out.trans he3;clear hs3 hj3' he3 cf i u C z;go_wp2_with fail;go_roundw;case rel=>exact⟨a+1,U0,gn,Q.out,P.out,M.out⟩
       case measure=>first|(simp[intOf];done)|(simp[intOf];omega)
  . (obtain rfl:a=2:=by omega);go_wp2_with fail;go_ret;exact⟨rfl,d.out,s.out,I.out⟩
theorem infoStep:(Tryz.prog.info? 40).map (fun i=>(i.zero,i.size,i.bytes))=some (some (.agg #[Y 0,Y 0,Y 0,zL none 0 0,Y 0,zL none 0 0,Y 0,zL none 0 0,zL none 0 0,Y 0,Y 0,zL none 0 0,Y 0,Y 0,Y 0,Y 0,Y 0,zL none 0 0,zL none 0 0,zL none 0 0,zL none 0 0,Y 0,zL none 0 0]),23,344):=U1
theorem wpList_appD{P:Program}{ops:Array Oper}{rest:List Oper}{o:Oper}{a:Act}{w:World}{Q:Exit->Act->World->Prop}(b:o.guard=none)(s x:Operand)(t:TypeId)(c:o.op=.call { callee:=.builtin .append,args:=#[s,x],argTypes:=#[t,t] }){v1 v2 v:Value}{w':World}(f:a.eval s=v1)(g:a.eval x=v2)(d:(Builtin.append_ #[t,t] o.type #[v1,v2]).run P w=.ok v w')(h:wpList P ops Q rest (a.put o.dst v) w'):wpList P ops Q (o :: rest) a w:=
 wpList_plain b fun K hK=>by
  unfold Oper.wp execOp
  simp only[c,resolve,invoke,builtin,Sem.run_bind,Sem.run_pure,Result.andThen_ok,List.map_toArray,List.map_cons,List.map_nil,f,g,d]
  exact hK _ _ h
theorem cells23:∀{cp:List Value},cp.length=23->∃x0 x1 x2 x3 x4 x5 x6 x7 x8 x9 x10 x11 x12 x13 x14 x15 x16 x17 x18 x19 x20 x21 x22:Value,cp=[x0,x1,x2,x3,x4,x5,x6,x7,x8,x9,x10,x11,x12,x13,x14,x15,x16,x17,x18,x19,x20,x21,x22]
 |[x0,x1,x2,x3,x4,x5,x6,x7,x8,x9,x10,x11,x12,x13,x14,x15,x16,x17,x18,x19,x20,x21,x22],_=>⟨x0,x1,x2,x3,x4,x5,x6,x7,x8,x9,x10,x11,x12,x13,x14,x15,x16,x17,x18,x19,x20,x21,x22,rfl⟩
def repS(r low:Int):StD:=⟨r,2,1,[],3,[[1,1,1]],low,[],[],0,0,0,0,0,0,0,0,0,0,0,0,0,[]⟩
def repC(r low:Int)(G:Nat):List Value:=stCells (repS r low) none (zO G) none none none none none none none none 0 1 0 0 0 0 0 0 0 0
theorem rep_stc{r low:Int}{G:Nat}{w:World}{B:Nat}(h:RowsAt w B (zO G) [[1,1,1]]):StC w B (repS r low) (repC r low G):=
 ⟨none,some (zA G 0),none,none,none,none,none,none,none,none,0,1,0,0,0,0,0,0,0,0,rfl,Nat.le_refl _,fun h=>absurd h (by simp[repS]),h,fun h=>absurd h (by simp[repS]),fun h=>absurd h (by simp[repS]),fun h=>absurd h (by simp[repS])⟩
theorem rep_ok(r low:Int):(repS r low).ok:=by unfold StD.ok repS maxLen;simp
def BPost(b:Bool)(w:World)(e:Ending)(w':World):Prop:=e=.returned (.bool b)/\Below w.heap.size w w'
theorem follows_rep(r low:Int)(G:Nat)(w:World)(k:Bool)(j:∀W:World,Below w.heap.size w W->zC 28 #[.agg (repC r low G).toArray] W (BPost k W)):
 zC 17 #[.agg (repC r low G).toArray,zL none 0 0] w (BPost k w):=by have d:=zH (sb_new w (repC r low G));have b:=zH j;clear j;go_enter Tryz.func17,Tryz.ntmps17;go_upto_region 1 with fail;generalize w.alloc (.cells (repC r low G).toArray 40)=h at *;have c:=zH d.out.range;have g:=zH (b.out h d.out.2.1);clear b;go_wp2_with (refine wpList_load_mid rfl 40 (.tmp 2) rfl w.heap.size 0 rfl (repC r low G) _ c.out Tryz.underlying40 rfl stepSize ?_);(with_reducible refine g.out.mono ?_);rintro e i ⟨rfl,hb⟩;have f:=zH (d.out.grow hb);clear hb g d c;go_wp2_with fail;go_ret;exact⟨rfl,f.out.2.1⟩
def ChkPost(bb:Bool)(w:World)(e:Ending)(w':World):Prop:=e=.returned (Y (if bb=true then 0 else 13))/\Below w.heap.size w w'
theorem checkstep_rep(r low:Int)(T:∀ W:World,zC 16 #[Y r] W fun e w'=>e=.returned (Y 0)/\W=w')(O:¬ r=14)(P:¬ r=18)(V:¬ r<0)(U:¬ 20<=r)(S:formZ (repS r low)=0)(G b o n k:Nat)(w:World)(X:k<n)(Z:n<=2)(M:w.rangeAt b (o+k*23) (repC r low G))(_:b<w.heap.size)(R:RowsAt w w.heap.size (zO G) [[1,1,1]])(N:Bool)(L:∀ W:World,Below w.heap.size w W->zC 28 #[.agg (repC r low G).toArray] W (BPost N W)):
 zC 7 #[zL (some (zA b o)) n n,Y k] w (ChkPost N w):=by
 have l:=zH (sb_new w (repC r low G));have j:=zH M;have x:=zH R;have y:=zH T;have q:=zH L;have u:=zH S;have i:Hid ((repC r low G).toArray.all (·.oneCell')=true):=by show _=_;simp[repC,stCells,Value.oneCell']
 have D:¬(k:Int)<0:=U0;have E:¬(n:Int)<=(k:Int):=U0;have H:¬(4096:Int)<(n:Int):=U0;have I:(0:Int)<=(k:Int):=U0;have J:(k:Int)<(n:Int):=U0;have A:(r==14)=false:=beq_false_of_ne O;have B:(r==18)=false:=beq_false_of_ne P;clear M R T L S;go_enter Tryz.func7,Tryz.ntmps7
 go_upto_region 6 with(first
  |(refine wpList_load_mid rfl 40 (.tmp 25) rfl b (o+k*23) rfl (repC r low G) _ j.out Tryz.underlying40 rfl stepSize ?_)
  |(refine qaH rfl 40 (.tmp 5) (.tmp 26) rfl w _ (repC r low G).toArray rfl rfl stepSize rfl i.out ?_))
 generalize w.alloc (.cells (repC r low G).toArray 40)=z at *;have d:=zH l.out.range;have p:=zH (formed_g (repS r low) (repC r low G) z (rep_stc ((x.out.keep l.out.2.1).more l.out.2.1.size)) (rep_ok r low));rw[u.out] at p;go_wp2_with (refine wpList_load_mid rfl 40 (.tmp 5) rfl w.heap.size 0 rfl (repC r low G) _ d.out Tryz.underlying40 rfl stepSize ?_);refine p.out.mono ?_;rintro e C ⟨rfl,hb1⟩;have g:=zH (l.out.grow hb1);clear hb1 l p d j u;have s:C.cell? (zA w.heap.size 0)=some (Y r):=g.out.cell rfl;go_upto_region 11 with fail;refine qaD (SB w w.heap.size (repC r low G)) U1 U1 (g.out.grow (Below.refl _ _).drew) ?_
 repeat (first
  | (apply qaJ rfl
     . intro W f
       have s:W.cell? (zA w.heap.size 0)=some (Y r):=f.cell rfl
       have t:W.cell? (zA w.heap.size 7)=some (zL none 0 0):=f.cell rfl
       go_simp
       try rfl
     go_simp)
  | (apply qbD rfl
     . intro W f
       have s:W.cell? (zA w.heap.size 0)=some (Y r):=f.cell rfl
       have t:W.cell? (zA w.heap.size 7)=some (zL none 0 0):=f.cell rfl
       go_simp
       try rfl
     go_simp)
  | (apply qaO rfl
     . intro W f
       go_simp
       exact⟨rfl,rfl⟩
     . intro W f
       exact(y.out W).mono (by rintro e w' ⟨rfl,rfl⟩;exact⟨rfl,f⟩)
     go_simp)
  |(apply qbI rfl;go_simp))
 refine qaE ?_;intro v f;have c:=zH f;clear f g s;have t:v.cell? (zA w.heap.size 7)=some (zL none 0 0):=c.out.cell rfl;go_upto_region 15 with fail;go_loop [7,66] (fun v7 v66=>v7=zL none 0 0/\v66=Y 0) (fun _ _=>0);case atStart=>exact⟨rfl,rfl⟩
 case round=>
  obtain⟨rfl,rfl⟩:=hrel;go_upto_region 22 with fail;go_loop [87] (fun v87=>v87=Y 0) (fun _=>0);case atStart=>rfl
  case round=>
   subst hrel;have d:=zH c.out.range;have h:=zH (follows_rep r low G v N (fun W hW=>q.out W (c.out.2.1.trans (hW.mono c.out.2.1.size))));go_wp2_with (refine wpList_load_mid rfl 40 (.tmp 5) rfl w.heap.size 0 rfl (repC r low G) _ d.out Tryz.underlying40 rfl stepSize ?_);(with_reducible refine h.out.mono ?_);rintro e K ⟨rfl,hb⟩;have m:=zH (c.out.grow hb);clear hb h d c t;cases N
   . go_wp2_with fail;go_ret;exact⟨rfl,m.out.2.1⟩
   . go_wp2_with fail;go_ret;exact⟨rfl,m.out.2.1⟩
theorem form_rep1:formZ (repS 1 3)=0:=U1
theorem form_rep15:formZ (repS 15 4)=0:=U1
section
variable {P:Program} {S:World->Prop} {K:Act->World->Prop} {o:Oper} {r:List (Nat × Oper)} {a:Act} {w:World}
theorem mixf_make(k:o.guard=none)(l c:Operand)(t:TypeId)(m:o.op=Op.makeSlice t l c)(base:Nat)(e:TypeId)(i:TypeInfo)(z:Value)(size:Nat)(v:P.underlying t=some (.slice e))(x:P.info? e=some i)(y:i.zero=some z)(A:i.size=size)(q p:IntKind)(n:Nat)(C:a.eval l=.int q (n:Int))(B:a.eval c=.int p (n:Int))(s:i.bytes*n<=281474976710656)(u:n<=maxLen)(b4:base<=w.heap.size)(h:∀w',w'.ownsRow base e size (zS w.heap.size n n) n (madeCells z.cells (n*size)).toList->w.grownBy w' none->S w'/\wpMixF P S K r (a.put o.dst (zS w.heap.size n n)) w'):
 wpMixF P S K ((2,o):: r) a w:=by obtain⟨w',b,g,j⟩:=run_make_full (P:=P) w base t e i z size v x y A q p n s u b4;obtain⟨d,f⟩:=h w' g j;refine qdM k ?_ d f;simp[execOp,m,C,B,b,Result.andThen]
end
def CodeFar(l bo Bc G:Nat)(W:World):Prop:=
 Bc≠l/\Bc≠bo/\W.rangeAt Bc 0 (Cr 2 1 3 G 1 1)/\G≠l/\G≠bo/\∃R ro cr,R≠l/\R≠bo/\W.cell? (zA G 0)=some (zL (some (zA R ro)) 3 cr)/\∀j,j<3->W.cell? (zA R (ro+j))=some (Y 1)
theorem range_lt{w:World}{b o:Nat}{v:Value}{cs:List Value}(h:w.rangeAt b o (v :: cs)):b<w.heap.size:=World.block_lt_of_cell? w (zA b (o+0)) (h 0 v rfl)
theorem CodeFar.rows{l m k G:Nat}{W:World}(h:CodeFar l m k G W):RowsAt W W.heap.size (zO G) [[1,1,1]]:=by
 obtain⟨_,_,_,_,_,R,f,g,_,_,c,d⟩:=h;refine fun _=>⟨G,0,rfl,World.block_lt_of_cell? W _ c,fun i hi=>?_⟩;obtain rfl:i=0:=by simpa using hi
 refine⟨some (zA R f),g,c,fun _=>⟨R,f,rfl,World.block_lt_of_cell? W _ (d 0 U0),fun j hj=>?_⟩⟩;have b:j<3:=hj;rw[d j b];match j,b with
 |0,_=>rfl
 |1,_=>rfl
 |2,_=>rfl
theorem codeZ_rep:codeZ 2 1 [] 3 [[1,1,1]]=0:=U1
theorem walk1_c(l bo Bc G:Nat)(J:Nat->World->Prop)(w:World)(hJ:∀j A B,J j A->Below w.heap.size A B->J j B)(hl:l<w.heap.size)(ho:bo<w.heap.size)(hC:CodeFar l bo Bc G w)(hY:RndsOk l bo w.heap.size J)(h0:J 0 w):
 zC 167 #[.func (.yield l) #[] #[],zP Bc] w fun e w'=>(∃v,e=.returned v)/\J 2 w':=by
 have HJ:=zH hJ;have r:=zH hC;have HY:=zH hY;have f:Hid (Below w.heap.size w (w.alloc (.cells #[.func (.yield l) #[] #[]] 188))):=(Below.refl _ _).alloc (Nat.le_refl _) _;have O:Hid ((w.alloc (.cells #[.func (.yield l) #[] #[]] 188)).heap[w.heap.size]?=some (.cells #[.func (.yield l) #[] #[]] 188 (0,0))):=heap_alloc_new _ _;have t:Hid (w.heap.size<(w.alloc (.cells #[.func (.yield l) #[] #[]] 188)).heap.size):=by show _ < _;simp
 clear hJ hC hY;go_enter Tryz.func167,Tryz.ntmps167;go_upto_region 1 with fail;generalize w.alloc (.cells #[.func (.yield l) #[] #[]] 188)=H at *;have i:Hid (H.rangeAt Bc 0 (Cr 2 1 3 G 1 1)):=range_keep_v r.out.2.2.1 (f.out.block Bc (range_lt r.out.2.2.1));have s:Hid (zC 27 #[Da 2 1 3 G 1 1] H fun e w'=>e=.returned (Y (codeZ 2 1 [] 3 [[1,1,1]]))/\Below H.heap.size H w'):=(codecheck_c 2 1 [] none 0 3 [[1,1,1]] (zO G) 1 H (fun h=>absurd h U2) U2 ((r.out.rows.keep f.out).more f.out.size) U2);rw[codeZ_rep] at s;go_wp2_with (refine wpList_load_mid rfl 32 (.tmp 1) rfl Bc 0 rfl (Cr 2 1 3 G 1 1) _ i.out Tryz.underlying32 rfl codeSize ?_);(with_reducible refine s.out.mono ?_);rintro e E ⟨rfl,hb1⟩;have k:=zH (f.out.trans (hb1.mono f.out.size));have P:=zH ((hb1.block w.heap.size t.out).trans O.out);have x:=zH (Nat.lt_of_lt_of_le t.out hb1.size);clear hb1 f O t s i;clear H;have i:Hid (E.rangeAt Bc 0 (Dl 2 1)):=fun j u hu=>by
  refine range_keep_v r.out.2.2.1 (k.out.block Bc (range_lt r.out.2.2.1)) j u ?_;match j,hu with
  |0,hu=>exact hu
  |1,hu=>exact hu
  |2,hu=>exact hu
  |j+3,hu=>simp at hu
 have HN:Hid (zC 72 #[.agg #[Y 2,Y 1,zL none 0 0]] E fun e w'=>(∃gb,e=.returned (.tuple (Dm gb))/\GFUp w' E.heap.size gb 2 1 lT (logL lT (2^1)))/\Below E.heap.size E w'):=(fnew_up 2 1 [] none 0 E (fun h=>absurd h U2) U1);go_wp2_with (refine wpList_load_mid rfl 29 (.tmp 11) rfl Bc 0 rfl (Dl 2 1) _ i.out Tryz.underlying29 rfl fieldSize ?_);(with_reducible refine HN.out.mono ?_);rintro e b ⟨⟨gb,rfl,hg⟩,hb2⟩;have HG:=zH hg;have q:=zH (k.out.trans (hb2.mono k.out.size));have Q:=zH ((hb2.block w.heap.size x.out).trans P.out);have ao:=zH (Nat.lt_of_lt_of_le x.out hb2.size);have L:=zH hb2.size;clear hb2 hg k P HN i;go_upto_region 5 with fail;have T:Hid ((((b.alloc (.cells #[zP gb] 100)).alloc (.cells #[Y 0] 3)).alloc (.cells #[.nilFunc] 188)).heap[b.heap.size]?=some (.cells #[zP gb] 100 (0,0))):=(Below.heap_alloc _ _ _ so).trans ((Below.heap_alloc _ _ _ U2).trans (heap_alloc_new _ _));have U:Hid ((((b.alloc (.cells #[zP gb] 100)).alloc (.cells #[Y 0] 3)).alloc (.cells #[.nilFunc] 188)).heap[b.heap.size+1]?=some (.cells #[zN 0] 3 (0,0))):=(Below.heap_alloc _ _ _ U2).trans (alloc_at U2 _);have m:Hid ((((b.alloc (.cells #[zP gb] 100)).alloc (.cells #[Y 0] 3)).alloc (.cells #[.nilFunc] 188)).heap[b.heap.size+1+1]?=some (.cells [.nilFunc].toArray 188 (0,0))):=alloc_at U2 _;have I:Hid (Below b.heap.size b (((b.alloc (.cells #[zP gb] 100)).alloc (.cells #[Y 0] 3)).alloc (.cells #[.nilFunc] 188))):=(((Below.refl _ _).alloc (Nat.le_refl _) _).alloc U2 _).alloc so _;generalize ((b.alloc (.cells #[zP gb] 100)).alloc (.cells #[Y 0] 3)).alloc (.cells #[.nilFunc] 188)=V at *;have y2:V.cell? (zA (b.heap.size+1+1) 0)=some .nilFunc:=cell_of_row _ _ 0 _ _ _ m.out;have f2:V.frozen? (zA (b.heap.size+1+1) 0)=false:=by simp[World.frozen?,m.out]
 go_upto_region 6 with fail;have c:Hid (Below b.heap.size b (V.setCell (zA (b.heap.size+1+1) 0) (.func (.func 168) #[] (Co Bc (b.heap.size+1) w.heap.size b.heap.size (b.heap.size+1+1))))):=I.out.setCell (p:=(zA (b.heap.size+1+1) 0)) (by show b.heap.size<=b.heap.size+1+1;omega) _;have Z:Hid ((V.setCell (zA (b.heap.size+1+1) 0) (.func (.func 168) #[] (Co Bc (b.heap.size+1) w.heap.size b.heap.size (b.heap.size+1+1)))).heap[b.heap.size]?=some (.cells #[zP gb] 100 (0,0))):=(Below.heap_setCell V (zA (b.heap.size+1+1) 0) _ b.heap.size (by show b.heap.size≠b.heap.size+1+1;omega)).trans T.out;have aa:Hid ((V.setCell (zA (b.heap.size+1+1) 0) (.func (.func 168) #[] (Co Bc (b.heap.size+1) w.heap.size b.heap.size (b.heap.size+1+1)))).heap[b.heap.size+1]?=some (.cells #[zN 0] 3 (0,0))):=(Below.heap_setCell V (zA (b.heap.size+1+1) 0) _ (b.heap.size+1) (by show b.heap.size+1≠b.heap.size+1+1;omega)).trans U.out;have ab:Hid ((V.setCell (zA (b.heap.size+1+1) 0) (.func (.func 168) #[] (Co Bc (b.heap.size+1) w.heap.size b.heap.size (b.heap.size+1+1)))).heap[b.heap.size+1+1]?=some (.cells [(.func (.func 168) #[] (Co Bc (b.heap.size+1) w.heap.size b.heap.size (b.heap.size+1+1)))].toArray 188 (0,0))):=heap_set_same m.out 0 _;generalize V.setCell (zA (b.heap.size+1+1) 0) (.func (.func 168) #[] (Co Bc (b.heap.size+1) w.heap.size b.heap.size (b.heap.size+1+1)))=X at *;clear y2 f2 T U m I;have av:=x.out;have aq:=ao.out;have ar:E.heap.size<=b.heap.size:=L.out;have g:Hid (Below w.heap.size w X):=q.out.trans (c.out.mono q.out.size);have n:Hid (WkS l bo (b.heap.size+1) Bc w.heap.size b.heap.size (b.heap.size+1+1) gb G (Co Bc (b.heap.size+1) w.heap.size b.heap.size (b.heap.size+1+1)) 0 X):=by obtain⟨n1,n2,ae,n3,n4,R,ro,cr,n5,n6,ac,ad⟩:=r.out;have l1:=range_lt ae;have l2:=World.block_lt_of_cell? w _ ac;have l3:=World.block_lt_of_cell? w _ (ad 0 U0);simp only at l2 l3;refine⟨⟨n1,n2,U0⟩,range_keep_v ae (g.out.block Bc l1),⟨⟨n3,n4,U0⟩,R,ro,cr,⟨n5,n6,U0⟩,(g.out.cell (p:=(zA G 0)) l2).trans ac,fun j hj=>(g.out.cell (p:=(zA R (ro+j))) l3).trans (ad j hj)⟩,aa.out,⟨⟨U0,U0,U0⟩,cell_of_row _ _ 0 _ _ _ ((c.out.block w.heap.size aq).trans Q.out)⟩,⟨⟨U0,U0,U0⟩,cell_of_row _ _ 0 _ _ _ Z.out⟩,⟨⟨U0,U0,U0⟩,cell_of_row _ _ 0 _ _ _ ab.out⟩,?_⟩;obtain⟨b0,b1,A3,n3,c3,ge,ce,gl,cl,b2,b3,b4,b5,h1,h2,h3⟩:=HG.out;exact⟨⟨U0,U0,U0⟩,Nat.lt_of_lt_of_le b1 c.out.size,A3,n3,c3,ge,ce,gl,cl,⟨U0,U0,U0⟩,⟨U0,U0,U0⟩,(c.out.block gb b1).trans h1,(h2.keep c.out).more c.out.size,(h3.keep c.out).more c.out.size⟩
 have M:=zH (HJ.out 0 w X h0 g.out);clear Z aa ab c q Q HG r;obtain⟨i0,ag,ah,ai,aj⟩:=qaF infoInt
 have ak:Hid (∀(bw cw:Nat)(W:World),Far l bo (b.heap.size+1) bw->WkS l bo (b.heap.size+1) Bc w.heap.size b.heap.size (b.heap.size+1+1) gb G (Co Bc (b.heap.size+1) w.heap.size b.heap.size (b.heap.size+1+1)) 0 W->J 0 W->IntsAt W W.heap.size (zO bw) (nz (List.replicate 3 0))->
  zC 168 #[Y 0,zS bw 3 cw,zP Bc,zP (b.heap.size+1),zP w.heap.size,zP b.heap.size,zP (b.heap.size+1+1)] W (FromOk l bo (b.heap.size+1) Bc w.heap.size b.heap.size (b.heap.size+1+1) gb G (Co Bc (b.heap.size+1) w.heap.size b.heap.size (b.heap.size+1+1)) J 2 W)):=
  fun bw cw W hf hs hj ha=>from0_c l bo (b.heap.size+1) Bc w.heap.size b.heap.size (b.heap.size+1+1) gb G w.heap.size J HJ.out U0 hl ho HY.out bw cw hf W hs hj ha
 have z:Hid (WkS l bo (b.heap.size+1) Bc w.heap.size b.heap.size (b.heap.size+1+1) gb G (Co Bc (b.heap.size+1) w.heap.size b.heap.size (b.heap.size+1+1)) 0 X.drew):=n.out.same SameBut.drew n.out.cnt;have N:=zH (HJ.out 0 X X.drew M.out (Below.refl _ X).drew);have ap:w.heap.size<=X.drew.heap.size:=g.out.size;have au:b.heap.size+1<X.drew.heap.size:=n.out.lt;clear M n g;refine qaS 4 4 (WkS l bo (b.heap.size+1) Bc w.heap.size b.heap.size (b.heap.size+1+1) gb G (Co Bc (b.heap.size+1) w.heap.size b.heap.size (b.heap.size+1+1)) 0) [(0,0),(1,1),(0,2),(2,3)] default U1 U1 (fun _ _ d _ _ h=>by cases d<;>exact h) z.out ?_;generalize X.drew=Xd at *;simp only[List.map_cons,List.map_nil,List.getD_cons_zero,List.getD_cons_succ];apply qbF rfl
 . intro V hV;have y:=hV.frm.2;go_simp;rfl
 go_simp;apply qaM rfl
 . intro V;go_simp;rfl
 go_simp;apply qbF rfl
 . intro V hV;have y:V.cell? (zA Bc 3)=some (Y 3):=hV.code 3 _ rfl;go_simp;rfl
 go_simp;refine mixf_make rfl (.tmp 19) (.tmp 19) 23 rfl Xd.heap.size 3 i0 (Y 0) 1 Tryz.underlying23 ag ah ai .i64 .i64 3 rfl rfl (by rw[aj];omega) U3 (Nat.le_refl _) ?_;intro w3 o af;have C:=qaL af;have D:=Row.of_make o;have S:=zH (z.out.grow C);have al:=zH (HJ.out 0 Xd w3 N.out (C.mono ap));refine⟨S.out,?_⟩;go_simp;refine qbH ?_;show wpList _ _ _ _ _ _;have K:=zH (ak.out Xd.heap.size 3 w3 ⟨U0,U0,U0⟩ S.out al.out (D.ints D.lt.2));clear o af C D z N ag ah ai aj;go_wp2_with fail;refine K.out.mono ?_;rintro e w4 ⟨rfl,_,hj4,_⟩;have an:=zH hj4;clear hj4 K;go_wp2_with fail;go_end0;exact⟨⟨_,rfl⟩,an.out⟩
end Go.Proofs.YtndipkplnkfoeaaGreat
