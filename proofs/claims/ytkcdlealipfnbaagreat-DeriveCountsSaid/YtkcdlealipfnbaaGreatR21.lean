/- Parts of the proof. -/
import Derived.Test.YtkcdlealipfnbaaGreatR20
set_option maxRecDepth 100000
set_option maxHeartbeats 8000000
namespace Go.Proofs.YtkcdlealipfnbaaGreat
open Go.RowKit Pln Go.Proofs.Tryz
def repS(r low:Int):StD:=⟨r,2,1,[],3,[[1,1,1]],low,[],[],0,0,0,0,0,0,0,0,0,0,0,0,0,[]⟩
def repC(r low:Int)(G:Nat):List Value:=stCells (repS r low) none (zO G) none none none none none none none none 0 1 0 0 0 0 0 0 0 0
theorem rep_stc{r low:Int}{G:Nat}{w:Wo}{B:Nat}(h:RowsAt w B (zO G) [[1,1,1]]):StC w B (repS r low) (repC r low G):=
 ⟨none,some (zA G 0),none,none,none,none,none,none,none,none,0,1,0,0,0,0,0,0,0,0,rfl,Nat.le_refl _,fun h=>absurd h (by simp[repS]),h,fun h=>absurd h (by simp[repS]),fun h=>absurd h (by simp[repS]),fun h=>absurd h (by simp[repS])⟩
theorem rep_ok(r low:Int):(repS r low).ok:=by unfold StD.ok repS maxLen;simp
def BPost(b:Bool)(w:Wo)(e:Ending)(w':Wo):Prop:=e=.returned (.bool b)/\zB w w'
theorem follows_rep(r low:Int)(G:Nat)(w:Wo)(k:Bool)(j:∀W:Wo,zB w W->zC 28 #[.agg (repC r low G).toArray] W (BPost k W)):
 zC 17 #[.agg (repC r low G).toArray,zL none 0 0] w (BPost k w):=by have d:=zH (sb_new w (repC r low G));have b:=zH j;clear j;go_enter func17,ntmps17;go_upto_region 1 with fail;generalize w.alloc (.cells (repC r low G).toArray 40)=h at *;have c:=zH d.o.range;have g:=zH (b.o h d.o.2.1);clear b;go_wp2_with (refine wpList_load_mid rfl 40 (.tmp 2) rfl w.heap.size 0 rfl (repC r low G) _ c.o underlying40 rfl stepSize ?_);go_fit g.o;rintro e i ⟨rfl,hb⟩;have f:=zH (d.o.grow hb);clear hb g d c;go_wp2;go_ret;exact⟨rfl,f.o.2.1⟩
def ChkPost(bb:Bool)(w:Wo)(e:Ending)(w':Wo):Prop:=e=.returned (Y (if bb=true then 0 else 13))/\zB w w'
theorem checkstep_rep(r low:Int)(T:∀ W:Wo,zC 16 #[Y r] W fun e w'=>e=.returned (Y 0)/\W=w')(O:¬ r=14)(P:¬ r=18)(V:¬ r<0)(U:¬ 20<=r)(S:formZ (repS r low)=0)(G b o n k:Nat)(w:Wo)(X:k<n)(Z:n<=2)(M:w.rangeAt b (o+k*23) (repC r low G))(_:b<w.heap.size)(R:zR w (zO G) [[1,1,1]])(N:Bool)(L:∀ W:Wo,zB w W->zC 28 #[.agg (repC r low G).toArray] W (BPost N W)):
 zC 7 #[zL (some (zA b o)) n n,Y k] w (ChkPost N w):=by
 have l:=zH (sb_new w (repC r low G));have j:=zH M;have x:=zH R;have y:=zH T;have q:=zH L;have u:=zH S;have i:zK ((repC r low G).toArray.all (·.oneCell')=true):=by show _=_;simp[repC,stCells,Value.oneCell']
 have D:¬(k:Int)<0:=U0;have E:¬(n:Int)<=(k:Int):=U0;have H:¬(4096:Int)<(n:Int):=U0;have I:(0:Int)<=(k:Int):=U0;have J:(k:Int)<(n:Int):=U0;have A:=beq_false_of_ne O;have B:=beq_false_of_ne P;clear M R T L S;go_enter func7,ntmps7
 go_upto_region 6 with(first
  |(refine wpList_load_mid rfl 40 (.tmp 25) rfl b (o+k*23) rfl (repC r low G) _ j.o underlying40 rfl stepSize ?_)
  |(refine qaH rfl 40 (.tmp 5) (.tmp 26) rfl w _ (repC r low G).toArray rfl rfl stepSize rfl i.o ?_))
 generalize w.alloc (.cells (repC r low G).toArray 40)=z at *;have d:=zH l.o.range;have p:=zH (formed_g (repS r low) (repC r low G) z (rep_stc ((x.o.keep l.o.2.1).more l.o.2.1.size)) (rep_ok r low));rw[u.o] at p;go_wp2_with (refine wpList_load_mid rfl 40 (.tmp 5) rfl w.heap.size 0 rfl (repC r low G) _ d.o underlying40 rfl stepSize ?_);refine p.o.mono ?_;rintro e C ⟨rfl,hb1⟩;have g:=zH (l.o.grow hb1);clear hb1 l p d j u;have s:C.cell? (zA w.heap.size 0)=some (Y r):=g.o.cell rfl;go_upto_region 11 with fail;refine qaD (SB w w.heap.size (repC r low G)) U1 U1 (g.o.grow zV.drew) ?_
 repeat (first
  | (apply qaJ rfl
     . intro W f
       have s:W.cell? (zA w.heap.size 0)=some (Y r):=f.cell rfl
       have t:W.cell? (zA w.heap.size 7)=some (zL none 0 0):=f.cell rfl
       go_simp
       try rfl
     go_simp)
  | (apply qbD rfl
     . intro W f
       have s:W.cell? (zA w.heap.size 0)=some (Y r):=f.cell rfl
       have t:W.cell? (zA w.heap.size 7)=some (zL none 0 0):=f.cell rfl
       go_simp
       try rfl
     go_simp)
  | (apply qaO rfl
     . intro W f
       go_simp
       exact⟨rfl,rfl⟩
     . intro W f
       exact(y.o W).mono (by rintro e w' ⟨rfl,rfl⟩;exact⟨rfl,f⟩)
     go_simp)
  |(apply qbI rfl;go_simp))
 refine qaE ?_;intro v f;have c:=zH f;clear f g s;have t:v.cell? (zA w.heap.size 7)=some (zL none 0 0):=c.o.cell rfl;go_upto_region 15 with fail;go_loop [7,66] (fun v7 v66=>v7=zL none 0 0/\v66=Y 0) (fun _ _=>0);case atStart=>exact⟨rfl,rfl⟩
 case round=>
  obtain⟨rfl,rfl⟩:=hrel;go_upto_region 22 with fail;go_loop [87] (fun v87=>v87=Y 0) (fun _=>0);case atStart=>rfl
  case round=>
   subst hrel;have d:=zH c.o.range;have h:=zH (follows_rep r low G v N (fun W hW=>q.o W (c.o.2.1.trans (hW.mono c.o.2.1.size))));go_wp2_with (refine wpList_load_mid rfl 40 (.tmp 5) rfl w.heap.size 0 rfl (repC r low G) _ d.o underlying40 rfl stepSize ?_);go_fit h.o;rintro e K ⟨rfl,hb⟩;have m:=zH (c.o.grow hb);clear hb h d c t;cases N
   . go_wp2;go_ret;exact⟨rfl,m.o.2.1⟩
   . go_wp2;go_ret;exact⟨rfl,m.o.2.1⟩
theorem form_rep1:formZ (repS 1 3)=0:=U1
theorem form_rep15:formZ (repS 15 4)=0:=U1
end Go.Proofs.YtkcdlealipfnbaaGreat
