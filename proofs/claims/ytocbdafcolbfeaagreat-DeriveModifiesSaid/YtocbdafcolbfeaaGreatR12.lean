/- Parts of the proof. -/
import Derived.Test.YtocbdafcolbfeaaGreatR11
set_option maxRecDepth 100000
set_option maxHeartbeats 8000000
namespace Go.Proofs.YtocbdafcolbfeaaGreat
open Go.RowKit Pln Tryz
theorem ints_of_own{w:Wo}{B n k:Nat}{i:OA}{l:LN}(h:w.ownsRow B 3 1 (zL i n k) n ((nz l).map (Value.int .i64)))(m:l.length=n):IntsUp w B i (nz l):=fun hz=>by
 rw[qaA] at hz
 obtain⟨d,f,e,g⟩:=own_slice' h
 injection e with e1 e2 e3
 subst e1
 obtain⟨R,rfl⟩:=g U0
 have b:=World.ownsRow.lt h R rfl
 refine⟨R,0,rfl,b.1,b.2,fun j hj=>?_⟩
 rw[qaA] at hj
 rw[Nat.zero_add,World.ownsRow.cellAt h j U0]
 have c:j<(nz l).length:=by rw[qaA];exact hj
 simp[List.getD,c]
theorem elGo_piv_lt(O:Ops)(rows:LL):∀ c,∀ x∈(elGo O rows c).piv,x<c
 |0,x,hx=>by simp[elGo] at hx
 | c + 1,x,hx => by
   have ih:=elGo_piv_lt O rows c
   unfold elGo elStep at hx
   split at hx
   . split at hx
     . have:=ih x hx;omega
     . rcases List.mem_append.1 hx with h|h
       . have:=ih x h;omega
       . have : x = c:=by simpa using h
         omega
   . have:=ih x hx;omega
theorem canon2_c(H I p m cols:Nat)(md l:LN)(rows:LL)(A:OA)(c:Nat)(w:Wo)(hF:FT p m md l)(K:GFAt w I H p m l (logL l (p^m)))(E:I<=w.heap.size)(J:zR w A (nzs rows))(D:Grid (p^m) rows.length cols rows)(N:1<=cols)(L:cols<=256)(M:rows.length<=256):
 zC 194 #[zP H,zL A rows.length c,Y cols] w fun e w'=>(∃(R:Nat)(VA:OA)(ck:Nat),e=.returned (.tuple #[zS R (canonM (opsT p m l) rows cols).length (canonM (opsT p m l) rows cols).length,zL VA (canonM (opsT p m l) rows cols).length ck])/\RowsUp w' w.heap.size (zO R) (nzs (canonM (opsT p m l) rows cols))/\IntsUp w' w.heap.size VA (nz (elGo (opsT p m l) rows cols).piv))/\zB w w':=by
 have g:=zH (clone_c rows A c w J (fun r hr=>by have:=(D.2 r hr).1;omega) U0)
 have h:zK (∀(bs:List (Nat × Nat))(b:Wo),zB w b->GridAt b w.heap.size w.heap.size rows.length rows bs->zC 232 #[zP H,zS w.heap.size rows.length rows.length,Y cols,zL none 0 0] b (ElPost b w.heap.size w.heap.size rows.length p m l rows cols)):=
  fun bs b hb hg=>qfQ w.heap.size w.heap.size rows.length H I p m cols md l rows bs b hF (K.keep (hb.mono E)) E hb.size hg D M L
 have n:=zH (canonM_len (opsT p m l) rows cols);have f:=zH (elGo_piv (O:=opsT p m l) rows cols);have q:=zH (elGo_len (O:=opsT p m l) rows cols);have j:=zH (canonM_getD (opsT p m l) rows cols);clear hF K J D;generalize canonM (opsT p m l) rows cols=B at *;go_enter func194,ntmps194;go_wp2_with fail;go_fit g.o;rintro e b ⟨rfl,⟨bs,hg⟩,hb⟩;have y:=zH hg;have s:=zH hb;clear hg hb;go_wp2_with fail;(with_reducible refine(h.o bs b s.o y.o).mono ?_);rintro e C ⟨⟨vp,d,bs2,rfl,hown,hgrid⟩,hb2⟩;obtain⟨VA,ck,rfl⟩:=own_slice hown;have v:zK (IntsUp C w.heap.size VA (nz (elGo (opsT p m l) rows cols).piv)):=(ints_of_own hown rfl).lower (by have:=s.o.size;omega);have k:=zH hgrid;have t:=zH (s.o.trans hb2);clear hown hgrid hb2;have z:=zH<|k.o.rowsAt B (by rw[n.o,q.o];exact f.o.2) (fun i hi=>j.o i (by rw[<- n.o];exact hi))
 have x:=f.o.2;rw[<- n.o] at x;have u:=zH n.o.symm;clear n f q j g h k;rw[u.o];go_wp2;go_ret2;exact⟨⟨_,_,_,rfl,z.o,v.o⟩,t.o⟩
def kerK(O:Ops)(rows:LL)(piv:LN)(cols c:Nat):Nat->LN
 |0=>(List.replicate cols 0).set c 1
 |i+1=>(kerK O rows piv cols c i).set (piv.getD i 0) (O.neg ((rows.getD i []).getD c 0))
theorem kerK_len(O:Ops)(rows:LL)(piv:LN)(cols c:Nat):∀i,(kerK O rows piv cols c i).length=cols
 |0=>by simp[kerK]
 |i+1=>by simp[kerK,kerK_len O rows piv cols c i]
theorem kerK_lt{q n cols:Nat}{O:Ops}(E:OpsEq q O O)(f:1<q){rows:LL}(b:Grid q n cols rows){piv:LN}{c:Nat}(d:c<cols):∀ i,i<=n->∀ x∈kerK O rows piv cols c i,x<q
 |0,_,x,hx=>by
   unfold kerK at hx
   rcases List.mem_or_eq_of_mem_set hx with h|h
   . simp at h;omega
   . omega
 | i + 1,hi,x,hx => by
   unfold kerK at hx
   rcases List.mem_or_eq_of_mem_set hx with h|h
   . exact kerK_lt E f b d i U0 x h
   . rw [h]
     have hr:=b.row (i:=i) U0
     have:(rows.getD i []).getD c 0=(rows.getD i [])[c]'(by rw[hr.1];exact d):=by
      have:∀(l:LN)(hj:c<l.length),l.getD c 0=l[c]:=fun l hj=>by simp[List.getD,hj]
      exact this _ _
     rw[this]
     exact(E.neg _ (hr.2 _ (List.getElem_mem _))).2
def freeC(piv:LN)(c:Nat):LN:=(List.range c).filter fun x=>!decide (x∈piv)
def kerRows(O:Ops)(rows:LL)(piv:LN)(cols:Nat):LL:=(freeC piv cols).map fun c=>kerK O rows piv cols c piv.length
theorem freeC_succ(piv:LN)(c:Nat):freeC piv (c+1)=freeC piv c++if c∈piv then[] else[c]:=by unfold freeC;rw[List.range_succ,List.filter_append];by_cases h:c∈piv<;>simp[h]
theorem freeC_le(piv:LN)(c:Nat):(freeC piv c).length<=c:=by unfold freeC;have:=List.length_filter_le (fun x=>!decide (x∈piv)) (List.range c);simpa using this
theorem freeC_at(piv:LN):∀ (cols c:Nat),c<cols->c∉piv->(freeC piv c).length<(freeC piv cols).length/\(freeC piv cols).getD (freeC piv c).length 0=c
 |0,c,h,_=>by omega
 | n + 1,c,h,hp => by
   rw[freeC_succ]
   by_cases hcn:c=n
   . subst hcn
     rw[if_neg hp]
     exact⟨U2,by simp[List.getD]⟩
   . obtain⟨i1,i2⟩:=freeC_at piv n c U0 hp
     refine⟨by rw[List.length_append];omega,?_⟩
     rw[show(freeC piv n++if n∈piv then[] else[n]).getD (freeC piv c).length 0=(freeC piv n).getD (freeC piv c).length 0 by simp only[List.getD,List.getElem?_append_left i1]]
     exact i2
theorem kerRows_len(O:Ops)(rows:LL)(piv:LN)(cols:Nat):(kerRows O rows piv cols).length=(freeC piv cols).length:=by simp[kerRows]
theorem kerRows_at(O:Ops)(rows:LL)(piv:LN)(cols c:Nat)(f:c<cols)(g:c∉piv):(kerRows O rows piv cols).getD (freeC piv c).length []=kerK O rows piv cols c piv.length:=by
 obtain⟨b,d⟩:=freeC_at piv cols c f g;have e:(freeC piv cols)[(freeC piv c).length]?=some c:=by rw[List.getElem?_eq_getElem b];rw[List.getD,List.getElem?_eq_getElem b] at d;simpa using d
 simp[kerRows,List.getD,e]
theorem kerRows_grid{q n cols:Nat}{O:Ops}(E:OpsEq q O O)(f:1<q){rows:LL}{piv:LN}(g:Grid q n cols rows)(h:piv.length=n):Grid q (kerRows O rows piv cols).length cols (kerRows O rows piv cols):=by
 refine⟨rfl,fun r hr=>?_⟩;unfold kerRows at hr;obtain⟨c,d,rfl⟩:=List.mem_map.1 hr;have b:c<cols:=by have:=(List.mem_filter.1 d).1;simpa using this
 exact⟨kerK_len _ _ _ _ _ _,kerK_lt E f g b _ U0⟩
def kerM(O:Ops)(rows:LL)(cols:Nat):LL:=canonM O (kerRows O (canonM O rows cols) (elGo O rows cols).piv cols) cols
def RelKer(w2:Wo)(piv:LN)(cols:Nat)(kr:LL)(v10 v37:Value)(wr:Wo):Prop:=
 ∃(c:Nat)(bs:List (Nat × Nat)),c<=cols/\v37=Y c/\LGrid wr (w2.heap.size) v10 kr bs (freeC piv c).length/\zB w2 wr
def RelKi(w4:Wo)(O:Ops)(rows:LL)(piv:LN)(cols c:Nat)(v51:Value)(wr:Wo):Prop:=
 ∃i:Nat,i<=piv.length/\v51=Y i/\Row wr w4.heap.size w4.heap.size cols (nz (kerK O rows piv cols c i))/\zB w4 wr
theorem canon_grid{q n cols:Nat}{O:Ops}(E:OpsEq q O O){rows:LL}(g:Grid q n cols rows):Grid q (elGo O rows cols).piv.length cols (canonM O rows cols):=by
 have d:=(qdT E g cols zn).2;have f:=(elGo_piv (O:=O) rows cols).2;refine⟨canonM_len O rows cols,fun r hr=>?_⟩;obtain⟨i,b,rfl⟩:=List.mem_iff_getElem.1 hr;have c:i<(elGo O rows cols).piv.length:=by rw[canonM_len] at b;exact b
 have e:(canonM O rows cols)[i]=(elGo O rows cols).rows.getD i []:=by rw[<- canonM_getD O rows cols i c];simp[List.getD,b]
 rw[e];exact d.row (i:=i) (by rw[g.1] at f;omega)
theorem mem_nz{x:Nat}{l:LN}:((x:Int)∈nz l) ↔ x∈l:=by
 unfold nz;constructor
 . intro h;obtain⟨y,b,e⟩:=List.mem_map.1 h;have:y=x:=U0;rwa [<- this]
 . intro h;exact List.mem_map.2 ⟨x,h,rfl⟩
theorem kernel_c(p m:Int)(mod:LI)(Am:OA)(cm:Nat)(cols:Nat)(rows:LL)(A:OA)(c:Nat)(w:Wo)(hM:zI w Am mod)(hl:mod.length<=9223372036854775807)(hA:zR w A (nzs rows))(h1:1<=cols)(cr:errC p m mod cols (nzs rows)=0):
 zC 156 #[C7 p m Am mod.length cm,Co cols A rows.length c] w (MatPost w cols (kerM (opsT p.toNat m.toNat (lOf p m mod)) rows cols)):=by
 obtain⟨al,hz,q,_,de,hn⟩:=errC_grid cr;rw[Int.toNat_natCast] at q;have hF:=field_ft al;have E:=qdA hF;have cx:1<p.toNat^m.toNat:=by have h1:=hF.small.p1;have h2:=hF.small.m1;exact Nat.one_lt_pow U0 U0
 obtain⟨i0,L,bq,bt,bu⟩:=qaF infoInt;obtain⟨c6,bg,X,Z,aa⟩:=qaF infoInts;have HI:=zH L;have ch:=zH bq;have cj:=zH bt;have b2:=zH bg;have bb:=zH X;have bc:=zH Z;have bd:=zH aa;have bv:=zH (show i0.bytes*cols<=281474976710656 by rw[bu];omega);have d:=zH (show cols<=maxLen by unfold maxLen;omega);have HX:=zH ((box3 w p m Am mod.length cm cols A rows.length c 54 (Cv)).keep (zV.alloc zn (Cb cols A rows.length c)));have az:zK (((((w.alloc (C3 p m Am mod.length cm)).alloc (Cb cols A rows.length c)).alloc (Cq)).alloc (Cb cols A rows.length c)).heap[w.heap.size+1+1+1]?=some (Cb cols A rows.length c)):=alloc_at U2 _;have HM:=zH hM;have HA:=zH hA;have ac:=zH hF;have b1:=zH q;have av:=zH (canon_grid E q);have cd:zK (∀i,i<(elGo (opsT p.toNat m.toNat (lOf p m mod)) rows cols).piv.length->(elGo (opsT p.toNat m.toNat (lOf p m mod)) rows cols).piv.getD i 0<cols):=fun i L=>by
  have:∀(l:LN)(hj:i<l.length),l.getD i 0=l[i]:=fun l hj=>by simp[List.getD,hj]
  rw[this _ L];exact elGo_piv_lt _ _ _ _ (List.getElem_mem _)
 have b6:=zH (kerRows_grid (piv:=(elGo (opsT p.toNat m.toNat (lOf p m mod)) rows cols).piv) E cx (canon_grid E q) rfl);have a3:=zH (kerRows_len (opsT p.toNat m.toNat (lOf p m mod)) (canonM (opsT p.toNat m.toNat (lOf p m mod)) rows cols) (elGo (opsT p.toNat m.toNat (lOf p m mod)) rows cols).piv cols);have b3:=zH (kerRows_at (opsT p.toNat m.toNat (lOf p m mod)) (canonM (opsT p.toNat m.toNat (lOf p m mod)) rows cols) (elGo (opsT p.toNat m.toNat (lOf p m mod)) rows cols).piv cols);have y:=zH (canonM_len (opsT p.toNat m.toNat (lOf p m mod)) rows cols);have b7:zK (kerM (opsT p.toNat m.toNat (lOf p m mod)) rows cols=canonM (opsT p.toNat m.toNat (lOf p m mod)) (kerRows (opsT p.toNat m.toNat (lOf p m mod)) (canonM (opsT p.toNat m.toNat (lOf p m mod)) rows cols) (elGo (opsT p.toNat m.toNat (lOf p m mod)) rows cols).piv cols) cols):=rfl;have a8:=zH (elGo_piv (O:=opsT p.toNat m.toNat (lOf p m mod)) rows cols);have b0:zK ((freeC (elGo (opsT p.toNat m.toNat (lOf p m mod)) rows cols).piv cols).length<=cols):=freeC_le _ _;clear hM hA L bq bt bu bg X Z aa hF E cr;generalize kerM (opsT p.toNat m.toNat (lOf p m mod)) rows cols=s at *;go_enter func156,ntmps156;go_wp2_with fail;generalize (((w.alloc (C3 p m Am mod.length cm)).alloc (Cb cols A rows.length c)).alloc (Cq)).alloc (Cb cols A rows.length c)=W0 at *;have bj:(nzs rows).length<=9223372036854775807:=by rw[nzs_len];omega
 have HC:=zH (open_c p m mod Am cm cols (nzs rows) A c (w.heap.size+1+1+1) 1 W0 ((HM.o.keep HX.o.below).more HX.o.below.size) hl ((HA.o.keep HX.o.below).more HX.o.below.size) bj (by rw[nzs_len];exact az.o));go_fit HC.o;rintro e w1 ⟨hb1,hcase⟩;have g:=zH (HX.o.keep hb1);have ao:=zH ((HA.o.keep g.o.below).more g.o.below.size);clear HX HM HA HC az hb1;clear W0;rcases hcase with⟨S,_⟩|⟨_,cz,_⟩|⟨_,_,gb,rfl,K⟩
 . rw[al] at S;cases S
 . exact absurd hz cz
 clear al hz;have HG:=zH K;have aq:=zH (canon2_c gb w1.heap.size p.toNat m.toNat cols (mdOf m mod) (lOf p m mod) rows A c w1 ac.o K zn ao.o b1.o h1 U0 hn);have dj:=g.o.size;have dl:w.heap.size+1<w1.heap.size:=U0;have a0:w1.cell? (zA (w.heap.size+1) 0)=some (Y (cols:Int)):=cell_of_row _ _ 0 _ _ _ g.o.k1;have a1:w1.cell? (zA (w.heap.size+1) 1)=some (zL A rows.length c):=cell_of_row _ _ 1 _ _ _ g.o.k1;clear K ao;have a6:zK (∀(B:Nat)(W:Wo)(x:Nat),GFAt W B gb p.toNat m.toNat (lOf p m mod) (logL (lOf p m mod) (p.toNat^m.toNat))->x<p.toNat^m.toNat->zC 132 (Ct gb x) W (Quiet (Y (((opsT p.toNat m.toNat (lOf p m mod)).neg x:Nat):Int)) W)):=fun B W x hG hx=>neg_c x gb p.toNat m.toNat B _ _ W ac.o.small hG hx
 have ar:zK (∀(W:Wo)(b:LL)(J:OA)(co:Nat),GFAt W W.heap.size gb p.toNat m.toNat (lOf p m mod) (logL (lOf p m mod) (p.toNat^m.toNat))->zR W J (nzs b)->Grid (p.toNat^m.toNat) b.length cols b->b.length<=256->zC 194 #[zP gb,zL J b.length co,Y (cols:Int)] W fun e w'=>(∃(R:Nat)(VA:OA)(ck:Nat),e=.returned (.tuple #[zS R (canonM (opsT p.toNat m.toNat (lOf p m mod)) b cols).length (canonM (opsT p.toNat m.toNat (lOf p m mod)) b cols).length,zL VA (canonM (opsT p.toNat m.toNat (lOf p m mod)) b cols).length ck])/\RowsUp w' W.heap.size (zO R) (nzs (canonM (opsT p.toNat m.toNat (lOf p m mod)) b cols)))/\zB W w'):=fun W b J co hG hA q hn=>
  (canon2_c gb W.heap.size p.toNat m.toNat cols (mdOf m mod) (lOf p m mod) b J co W ac.o hG zn hA q h1 U0 hn).mono fun e w' ⟨⟨R,VA,ck,h1,h2,_⟩,h3⟩=>⟨⟨R,VA,ck,h1,h2⟩,h3⟩
 generalize opsT p.toNat m.toNat (lOf p m mod)=O at *;generalize (elGo O rows cols).piv=piv at *;generalize canonM O rows cols=I at *;generalize bi:kerRows O I piv cols=b at *;have c9:=zH bi;clear bi;go_wp2_with fail;go_fit aq.o;rintro e w2 ⟨⟨R,VA,ck,rfl,hru,N⟩,hb2⟩;have af:=zH (g.o.keep hb2);have ce:=zH hru.rowsAt;have a9:=zH N.ints;have aw:=zH ((HG.o.keep hb2).more hb2.size);have dm:=hb2.size;have bm:w.heap.size+1<w2.heap.size:=U0;clear g aq hru N HG a0 a1;have a0:w2.cell? (zA (w.heap.size+1) 0)=some (Y (cols:Int)):=cell_of_row _ _ 0 _ _ _ af.o.k1;have a4:zK (RelKer w2 piv cols b (zL none 0 0) (Y ((0:Nat):Int)) w2):=⟨0,[],U0,rfl,⟨rfl,Nat.zero_le _,World.ownsRow_nil _ _ _ _,fun i L=>by simp[freeC] at L,fun i L=>by simp[freeC] at L⟩,Below.refl _ _⟩;clear hb2;go_wp2;go_loopw [10,37] (fun v10 v37 wr=>RelKer w2 piv cols b v10 v37 wr) (fun _ v37 _=>cols-(intOf v37).toNat);case atStart=>exact a4.o
 case round =>
  obtain⟨t,bs,ht,rfl,ak,hb⟩:=hrel;obtain⟨J,co,rfl,_⟩:=own_slice' ak.out;have C:=zH ak;have h:=zH hb;have r:=hb.size;clear ak hb a4;by_cases D:t<cols
  . (have z : zK (zC 77 (D6 VA I.length ck t) wr (Quiet (.bool (decide (t ∈ piv))) wr)) := by have:=contains_c (nz piv) t VA ck wr ((a9.o.keep h.o).more r) (by rw [qaA];have:=a8.o.2;omega);rw [qaA,<- y.o,show decide ((t:Int)∈nz piv)=decide (t∈piv) by simp [mem_nz]] at this;exact this);have c0:=(h.o.cell (p:=(zA (w.heap.size+1) 0)) bm).trans a0;by_cases U:t∈piv
    . rw[decide_eq_true U] at z;(have ab:zK (freeC piv (t+1)=freeC piv t):=by show _=_;rw[freeC_succ,if_pos U,List.append_nil]);clear U;go_wp2_with fail;go_fit z.o;rintro e w3 ⟨rfl,n,rfl⟩;have d:zK (zB wr (wr.drewN n)):=qaB zV n;generalize wr.drewN n=f at *;go_wp2;go_roundw;case rel=>exact⟨t+1,bs,U0,gn,by rw[ab.o];exact C.o.grow d.o,h.o.trans (d.o.mono r)⟩
      case measure=>simp[intOf];omega
    . rw [decide_eq_false U] at z;(have ab:zK ((freeC piv (t+1)).length=(freeC piv t).length+1):=by show _=_;rw [freeC_succ,if_neg U];simp);have a2:=zH (b3.o t D U);(have cq:(freeC piv t).length<b.length:=by rw [a3.o];exact (freeC_at piv cols t D U).1);clear U;go_wp2_with fail;go_fit z.o;rintro e w3 ⟨rfl,n,rfl⟩;have d:zK (zB wr (wr.drewN n)):=qaB zV n;have ad:=zH (C.o.grow d.o);have ap:=zH (h.o.trans (d.o.mono r));have c4:(wr.drewN n).cell? (zA (w.heap.size+1) 0)=some (Y (cols:Int)):=c0;clear d C h z c0;generalize wr.drewN n=f at *;clear r;clear wr;have bn:=ap.o.size;go_upto_region 11 with (refine wpList_make_full f rfl (.tmp 44) (.tmp 44) 23 rfl f.heap.size 3 i0 (Y 0) 1 underlying23 HI.o ch.o cj.o .i64 .i64 cols cols cols rfl rfl rfl rfl bv.o d.o zn ?_;intro w5 T Q);(have ae:zK (Row w5 f.heap.size f.heap.size cols (nz (List.replicate cols 0))):=by have:=Row.of_make T;exact this);(have bw:=zH<|qaL Q);have r0:=ae.o.cell (j:=t) (by rw [qaA,List.length_replicate];exact D);have rf:=ae.o.frozen t;(have ax:zK (RelKi f O I piv cols t (Y ((0:Nat):Int)) (w5.setCell (zA f.heap.size t) (Y 1))):=by refine ⟨0,U0,rfl,?_,bw.o.setCell (p:=(zA f.heap.size t)) zn _⟩;have:=ae.o.set t 1;rw [show (1:Int)=((1:Nat):Int) from rfl,qbC] at this;exact this);(have di:(I.length:Int)=(piv.length:Int):=by rw [y.o]);(have dh:piv.length<=256:=by have:=a8.o.2;omega);have t0:(0:Int)<=(t:Int):=U0;have t1:(t:Int)<(cols:Int):=U0;clear T Q;go_wp2_with fail;generalize w5.setCell (zA f.heap.size t) (Y 1)=W6 at *;clear r0 rf;go_loopw [51] (fun v51 wr=>RelKi f O I piv cols t v51 wr) (fun v51 _=>piv.length-(intOf v51).toNat);case atStart=>exact ax.o
      case round =>
       obtain⟨i,L,rfl,V,hb⟩:=hrel;have HR:=zH V;have h:=zH hb;have r:=hb.size;clear V hb ax;have v:=zH (ap.o.trans (h.o.mono bn));by_cases M:i<piv.length
       . obtain⟨bp,op,rfl,da,cl⟩:=(a9.o.keep v.o).at_ (k:=i) (by rw[qaA];exact M);rw[qaC] at cl;obtain⟨br,dq,Ai,ci,e,db,ai,an⟩:=(ce.o.keep v.o).at_ (i:=i) (by rw[nzs_len,y.o];exact M);injection e with e;injection e with e1 e2 _;subst e1 e2;rw[Nat.zero_add] at ai;rw[nzs_getD] at ai an;have K:=av.o.row (i:=i) M;rw[qaA,K.1] at ai;obtain⟨bx,ox,rfl,dd,cn⟩:=an.at_ (k:=t) (by rw[qaA,K.1];exact D);rw[qaC] at cn;(have bo:(I.getD i []).getD t 0<p.toNat^m.toNat:=by(have:∀(l:LN)(hj:t<l.length),l.getD t 0=l[t]:=fun l hj=>by simp[List.getD,hj]);rw[this _ (by rw[K.1];exact D)];exact K.2 _ (List.getElem_mem _));have N:=cd.o i M;have b8:zK (kerK O I piv cols t (i+1)=(kerK O I piv cols t i).set (piv.getD i 0) (O.neg ((I.getD i []).getD t 0))):=rfl;have b9:=zH (a6.o w2.heap.size wr _ (aw.o.keep v.o) bo);have f0:=HR.o.frozen (piv.getD i 0);have y0:=HR.o.cell (j:=piv.getD i 0) (by rw[qaA,kerK_len];exact N);have dn:(0:Int)<=(i:Int):=U0;have dp:(i:Int)<(piv.length:Int):=U0;have p0:(0:Int)<=((piv.getD i 0:Nat):Int):=U0;have p1:((piv.getD i 0:Nat):Int)<(cols:Int):=U0;clear an K bo;generalize (I.getD i []).getD t 0=x at *;generalize piv.getD i 0=pv at *;go_wp2_with fail;go_fit b9.o;rintro e w7 ⟨rfl,n,rfl⟩;go_wp2;go_roundw;case rel=>refine⟨i+1,U0,gn,?_,(qaB h.o n).setCell (p:=(zA f.heap.size pv)) zn _⟩;rw[b8.o,<- qbC];exact Row.set (w:=wr.drewN n) HR.o pv _
         case measure=>simp[intOf];omega
       . (obtain rfl : i = piv.length:=by omega);(have cf:zK (Row wr f.heap.size f.heap.size cols (nz (b.getD (freeC piv t).length []))):=by show Row _ _ _ _ _;rw[a2.o];exact HR.o);(have cw:(b.getD (freeC piv t).length []).length=cols:=by rw[a2.o,kerK_len]);(have a7:zK ((wr.alloc (.cells #[zS f.heap.size cols cols] 23)).ownsRow w2.heap.size 23 1 (zL J (freeC piv t).length co) (freeC piv t).length ((List.range (freeC piv t).length).map (hdr b bs))):=by have ct:=(ad.o.grow h.o).out;exact World.ownsRow.alloc ct _);have dg:(freeC piv t).length<=t:=freeC_le _ _;have c7:=v.o.size;clear HR;go_wp2_with (at_builtin;refine wpList_append_own_at _ rfl (.tmp 69) (.tmp 71) 30 rfl w2.heap.size 23 c6 _ 1 24 underlying30 b2.o bb.o bc.o bd.o rfl dc (zL J (freeC piv t).length co) (freeC piv t).length ((List.range (freeC piv t).length).map (hdr b bs)) rfl a7.o (zA wr.heap.size 0) 1 1 [zS f.heap.size cols cols] rfl rfl ?c1 ?c2 ?c3 ?c4 ?c5 ?_);case c1=>exact World.news_of_block (cs:=#[zS f.heap.size cols cols]) (t:=23) (fr:=(0,0)) (heap_alloc_new wr _)
         case c2=>intro u hu;simp at hu;subst hu;rfl
         case c3=>unfold maxLen;omega
         case c4=>omega
         case c5=>simp;omega
         intro v' w7 H aj _ be;(have cg:=zH<|ad.o.step cq bn h.o cf.o (by rw[cw];exact H) aj (by simpa using be));(have bz:=zH<|(v.o.alloc U0 _).grown aj so (fun j hj=>(ad.o.out.lt j hj).1));clear H aj be a7;go_wp2;go_roundw;case rel=>exact⟨t+1,_,U0,gn,by rw[ab.o];exact cg.o,bz.o⟩
         case measure=>simp[intOf];omega
  . (obtain rfl:t=cols:=by omega);have bh:=a3.o.symm;(have a5:zK (zR wr J (nzs b)):=by have bf:=C.o;rw[bh] at bf;exact bf.up.rowsAt);have au:=zH (ar.o wr b J co ((aw.o.keep h.o).more r) a5.o b6.o (by rw[<- bh];have:=b0.o;omega));rw[b7.o.symm] at au;have c0:=(h.o.cell (p:=(zA (w.heap.size+1) 0)) bm).trans a0;have ag:=zH (af.o.keep h.o);clear a5 C a0;go_wp2_with fail;go_fit au.o;rintro e w8 ⟨⟨R2,VA2,ck2,rfl,hru2⟩,hb8⟩;have ah:=zH (ag.o.keep hb8);have ay:=zH ah.o.k2;have ba:=zH hru2;have cy:w.heap.size+1+1<wr.heap.size:=ag.o.size;have c8:w8.cell? (zA (w.heap.size+1) 0)=some (Y (t:Int)):=cell_of_row _ _ 0 _ _ _ ah.o.k1;have HY:=zH (ah.o.set (Cm t R2 s.length s.length));clear hb8 hru2 c0 ag af;go_wp2_with (refine wpList_store_row rfl 54 (.tmp 4) (.tmp 85) rfl w8 (w.heap.size+1+1) 54 (Cv) (Cm t R2 s.length s.length) rfl rfl ay.o matSize rfl U3 ?_);refine bodyPost_ret (results_row_one (P:=prog) rfl _ _ (w.heap.size+1+1) 54 (Cm t R2 s.length s.length) (0,0) _ _ rfl rfl HY.o.k2 underlying54 rfl matSize) rfl ?_;exact⟨⟨_,_,rfl,(ba.o.setRow cy _).lower U0⟩,HY.o.below⟩
theorem mgen_c(p m:Int)(h:OA)(n i:Nat)(N:Int)(A:OA)(nz c:Nat)(w:Wo):
 zC 127 #[C8 p m h n i N A nz c] w fun e w'=>e=.returned (Co N A nz c)/\zB w w':=by have d:zK (zB w (w.alloc (C4 p m h n i N A nz c))):=zV.alloc zn _;go_enter func127,ntmps127;have b:zK ((w.alloc (C4 p m h n i N A nz c)).heap.size=w.heap.size+1):=U8;have g:zK (((w.alloc (C4 p m h n i N A nz c)).alloc (Cb N A nz c)).heap[w.heap.size+1]?=some (Cb N A nz c)):=alloc_at b.o _;have f:zK (zB w ((w.alloc (C4 p m h n i N A nz c)).alloc (Cb N A nz c))):=d.o.alloc (by rw[b.o];omega) _;go_wp2_with (refine qaH rfl 54 (.tmp 2) (.tmp 7) rfl (w.alloc (C4 p m h n i N A nz c)) _ (Cz N A nz c) (by show _=Value.pointer (zO (_));rw[b.o];rfl) rfl matSize rfl U3 ?_);refine bodyPost_ret (results_cell_row (P:=prog) rfl _ _ (w.heap.size+1) 54 (Cz N A nz c) (0,0) _ rfl g.o underlying54 rfl matSize) rfl ?_;exact⟨rfl,f.o⟩
structure BoxC (w:Wo) (f a r:List Value) (W:Wo):Prop where
 below:zB w W
 size:w.heap.size+2<W.heap.size
 k0:W.heap[w.heap.size]?=some (.cells f.toArray 29 (0,0))
 k1:W.heap[w.heap.size+1]?=some (.cells a.toArray 54 (0,0))
 k2:W.heap[w.heap.size+1+1]?=some (.cells r.toArray 32 (0,0))
section
variable {w:Wo} {f a r:List Value} {W W':Wo}
theorem BoxC.keep(h:BoxC w f a r W)(c:zB W W'):BoxC w f a r W':=by have b:=h.size;exact⟨h.below.trans (c.mono U0),Nat.lt_of_lt_of_le b c.size,(c.block _ U0).trans h.k0,(c.block _ U0).trans h.k1,(c.block _ U0).trans h.k2⟩
theorem BoxC.set(h:BoxC w f a r W)(b:List Value):BoxC w f a b (W.setRow (w.heap.size+1+1) b.toArray):=
 ⟨qaR h.below U0 _,by simpa using h.size,(setRow_other W _ _ _ U0).trans h.k0,(setRow_other W _ _ _ U0).trans h.k1,setRow_same W _ _ _ _ h.k2⟩
theorem boxC(w:Wo)(f a r:Array Value):BoxC w f.toList a.toList r.toList (((w.alloc (.cells f 29)).alloc (.cells a 54)).alloc (.cells r 32)):=by
 refine⟨((zV.alloc zn _).alloc U2 _).alloc so _,U2,?_,?_,?_⟩
 . exact(heap_alloc_old _ _ so).trans ((heap_alloc_old _ _ U2).trans (heap_alloc_new _ _))
 . exact(heap_alloc_old _ _ U2).trans (alloc_at U2 _)
 . exact alloc_at U2 _
end
theorem canonical2_c(p m:Int)(mod:LI)(Am:OA)(cm:Nat)(cols:Nat)(rows:LL)(A:OA)(c:Nat)(w:Wo)(hM:zI w Am mod)(hl:mod.length<=9223372036854775807)(hA:zR w A (nzs rows))(h1:1<=cols)(Z:errC p m mod cols (nzs rows)=0):
 zC 141 #[C7 p m Am mod.length cm,Co cols A rows.length c] w fun e w'=>(∃(R:Nat)(VA:OA)(ck:Nat),e=.returned (.tuple #[.agg #[Y (cols:Int),zS R (canonM (opsT p.toNat m.toNat (lOf p m mod)) rows cols).length (canonM (opsT p.toNat m.toNat (lOf p m mod)) rows cols).length],zL VA (canonM (opsT p.toNat m.toNat (lOf p m mod)) rows cols).length ck,Y 0])/\RowsUp w' (w.heap.size+1+1+1) (zO R) (nzs (canonM (opsT p.toNat m.toNat (lOf p m mod)) rows cols))/\IntsUp w' (w.heap.size+1+1+1) VA (nz (elGo (opsT p.toNat m.toNat (lOf p m mod)) rows cols).piv))/\zB w w':=by
 obtain⟨j,Q,x,_,U,V⟩:=errC_grid Z;rw[Int.toNat_natCast] at x;have n:=zH ((box3 w p m Am mod.length cm cols A rows.length c 54 (Cv)).keep (zV.alloc zn (Cb cols A rows.length c)));have t:zK (((((w.alloc (C3 p m Am mod.length cm)).alloc (Cb cols A rows.length c)).alloc (Cq)).alloc (Cb cols A rows.length c)).heap[w.heap.size+1+1+1]?=some (Cb cols A rows.length c)):=alloc_at U2 _;have K:=zH hM;have z:=zH hA;have B:=zH (field_ft j);have C:=zH x;clear hM hA Z;go_enter func141,ntmps141;go_wp2_with fail;generalize (((w.alloc (C3 p m Am mod.length cm)).alloc (Cb cols A rows.length c)).alloc (Cq)).alloc (Cb cols A rows.length c)=M at *;have J:=zH (open_c p m mod Am cm cols (nzs rows) A c (w.heap.size+1+1+1) 1 M ((K.o.keep n.o.below).more n.o.below.size) hl ((z.o.keep n.o.below).more n.o.below.size) (by rw[nzs_len];omega) (by rw[nzs_len];exact t.o));go_fit J.o;rintro e l ⟨hb1,hcase⟩;have d:=zH (n.o.keep hb1);have q:=zH ((z.o.keep d.o.below).more d.o.below.size);clear n K z J t hb1;clear M;rcases hcase with⟨f,_⟩|⟨_,H,_⟩|⟨_,_,T,rfl,O⟩
 . rw[j] at f;cases f
 . exact absurd Q H
 clear j Q;have r:=zH (canon2_c T l.heap.size p.toNat m.toNat cols (mdOf m mod) (lOf p m mod) rows A c l B.o O zn q.o C.o h1 U0 V);have W:=d.o.size;have X:w.heap.size+1<l.heap.size:=U0;have N:l.cell? (zA (w.heap.size+1) 0)=some (Y (cols:Int)):=cell_of_row _ _ 0 _ _ _ d.o.k1;have S:l.cell? (zA (w.heap.size+1) 1)=some (zL A rows.length c):=cell_of_row _ _ 1 _ _ _ d.o.k1;clear O q;generalize h:(elGo (opsT p.toNat m.toNat (lOf p m mod)) rows cols).piv=I at *;generalize g:canonM (opsT p.toNat m.toNat (lOf p m mod)) rows cols=b at *;have v:=zH h;have u:=zH g;clear h g;go_wp2_with fail;go_fit r.o;rintro e y ⟨⟨R,VA,ck,rfl,hru,hpv⟩,hb2⟩;have i:=zH (d.o.keep hb2);have E:=zH hru;have D:=zH hpv;have s:=zH i.o.k2;clear hru hpv hb2 r d N S;have N:y.cell? (zA (w.heap.size+1) 0)=some (Y (cols:Int)):=cell_of_row _ _ 0 _ _ _ i.o.k1;have L:=zH (i.o.set (Cm cols R b.length b.length));go_wp2_with (refine wpList_store_row rfl 54 (.tmp 4) (.tmp 34) rfl y (w.heap.size+1+1) 54 (Cv) (Cm cols R b.length b.length) rfl rfl s.o matSize rfl U3 ?_);refine bodyPost_ret (qbV (P:=prog) rfl _ _ (w.heap.size+1+1) 54 (Cm cols R b.length b.length) (0,0) _ _ _ rfl rfl rfl L.o.k2 underlying54 rfl matSize) rfl ?_;rw[v.o,u.o];refine⟨⟨R,VA,ck,rfl,?_,?_⟩,L.o.below⟩
 . have h1:=E.o.setRow (show w.heap.size+1+1<l.heap.size by omega) (Cm cols R b.length b.length);exact h1.lower U0
 . have h1:IntsUp (y.setRow (w.heap.size+1+1) (Cm cols R b.length b.length)) l.heap.size VA (nz I):=D.o.of_blocks U2 fun k hk _=>setRow_other y (w.heap.size+1+1) k _ U0;exact h1.lower U0
def Num(w:Wo)(B:Nat)(v:Value)(l:LN):Prop:=w.ownsRow B 3 1 v l.length ((nz l).map (Value.int .i64))
section
variable {w w':Wo} {B:Nat} {v:Value} {l:LN}
theorem Num.nil(w:Wo)(B:Nat):Num w B (zL none 0 0) []:=World.ownsRow_nil _ _ _ _
theorem Num.grow(h:Num w B v l)(b:zB w w'):Num w' B v l:=
 World.ownsRow.kept h (row:=none) ⟨b.os,b.tape,b.output,b.size,fun j hj _=>b.block j hj⟩ (by cases v.ownBlock<;>simp)
theorem Num.slice(h:Num w B v l):∃VA ck,v=zL VA l.length ck:=own_slice h
theorem Num.up{b:OA}{c:Nat}(h:Num w B (zL b l.length c) l):IntsUp w B b (nz l):=ints_of_own h rfl
theorem Num.step{w2:Wo}{v':Value}{x:Nat}(h:w2.ownsRow B 3 1 v' (l.length+1) ((nz l).map (Value.int .i64)++[Y (x:Int)])):Num w2 B v' (l++[x]):=by unfold Num;rw[List.length_append,nz,List.map_append,List.map_append];exact h
end
def RelRest(w:Wo)(set:LN)(n:Nat)(v5 v8:Value)(wr:Wo):Prop:=∃c:Nat,c<=n/\v8=Y c/\Num wr w.heap.size v5 (freeC set c)/\zB w wr
theorem rest_c(set:LN)(n:Nat)(A:OA)(ca:Nat)(w:Wo)(X:zI w A (nz set))(Z:set.length<=1000000)(hn:n<=1000000):
 zC 129 (D6 A set.length ca n) w fun e w'=>(∃VA ck,e=.returned (zL VA (freeC set n).length ck)/\IntsUp w' w.heap.size VA (nz (freeC set n)))/\zB w w':=by
 obtain⟨S,L,x,y,z⟩:=qaF infoInt;have O:=zH L;have E:=zH x;have H:=zH y;have I:=zH z;have N:=zH X;clear X L x y z;go_enter func129,ntmps129;go_wp2;go_loopw [5,8] (fun v5 v8 wr=>RelRest w set n v5 v8 wr) (fun _ v8 _=>n-(intOf v8).toNat);case atStart=>exact⟨0,U0,rfl,Num.nil _ _,Below.refl _ _⟩
 case round =>
  obtain⟨c,W,rfl,d,K⟩:=hrel;obtain⟨VA,ck,rfl⟩:=d.slice;have h:=zH d;have p:=zH K;have l:=K.size;clear d K;by_cases R:c<n
  . (have g : zK (zC 77 (D6 A set.length ca c) wr (Quiet (.bool (decide (c ∈ set))) wr)) := by have:=contains_c (nz set) c A ca wr ((N.o.keep p.o).more l) (by rw [qaA];omega);rw [qaA,show decide ((c:Int)∈nz set)=decide (c∈set) by simp [mem_nz]] at this;exact this);by_cases m:c∈set
    . rw[decide_eq_true m] at g;(have i:zK (freeC set (c+1)=freeC set c):=by show _=_;rw[freeC_succ,if_pos m,List.append_nil]);clear m;go_wp2_with fail;go_fit g.o;rintro e U ⟨rfl,k,rfl⟩;have b:zK (zB wr (wr.drewN k)):=qaB zV k;generalize wr.drewN k=B at *;go_wp2;go_roundw;case rel=>exact⟨c+1,U0,gn,by rw[i.o];exact h.o.grow b.o,p.o.trans (b.o.mono l)⟩
      case measure=>simp[intOf];omega
    . rw[decide_eq_false m] at g;(have i:zK (freeC set (c+1)=freeC set c++[c]):=by show _=_;rw[freeC_succ,if_neg m]);(have Q:=freeC_le set c);clear m;go_wp2_with fail;go_fit g.o;rintro e U ⟨rfl,k,rfl⟩;have b:zK (zB wr (wr.drewN k)):=qaB zV k;have r:=zH (h.o.grow b.o);have q:=zH (p.o.trans (b.o.mono l));clear h p b;generalize wr.drewN k=B at *;have P:=q.o.size;have s:zK ((B.alloc (.cells #[Y (c:Int)] 3)).ownsRow w.heap.size 3 1 (zL VA (freeC set c).length ck) (freeC set c).length ((nz (freeC set c)).map (Value.int .i64))):=World.ownsRow.alloc r.o _;go_wp2_with (at_builtin;refine wpList_append_own_at _ rfl (.tmp 15) (.tmp 17) 23 rfl w.heap.size 3 S _ 1 8 underlying23 O.o E.o H.o I.o rfl dc (zL VA (freeC set c).length ck) (freeC set c).length ((nz (freeC set c)).map (Value.int .i64)) rfl s.o (zA B.heap.size 0) 1 1 [Y (c:Int)] rfl rfl ?d1 ?d2 ?d3 ?d4 ?d5 ?_);case d1=>exact World.news_of_block (cs:=#[Y (c:Int)]) (t:=3) (fr:=(0,0)) (heap_alloc_new B _)
      case d2=>intro u M;simp at M;subst M;rfl
      case d3=>unfold maxLen;omega
      case d4=>omega
      case d5=>simp;omega
      intro T V f v _ J;(have D:zK (Num V w.heap.size T (freeC set (c+1))):=by show Num _ _ _ _;rw[i.o];exact Num.step f);(have C:=zH<|(q.o.alloc U0 _).grown v so (fun j hj=>(World.ownsRow.lt r.o j hj).1));clear f v J s;go_wp2;go_roundw;case rel=>exact⟨c+1,U0,gn,D.o,C.o⟩
      case measure=>simp[intOf];omega
  . (obtain rfl:c=n:=by omega);go_wp2;go_ret;exact⟨⟨VA,ck,rfl,h.o.up⟩,p.o⟩
end Go.Proofs.YtocbdafcolbfeaaGreat
namespace Go.Proofs.YtocbdafcolbfeaaGreat
open Go.RowKit Pln
theorem MatPost.len{w:Wo}{n:Int}{rows:LL}{e:Ending}{w':Wo}(h:MatPost w n rows e w'){k:Nat}(b:rows.length=k):(∃(A':OA)(c':Nat),e=.returned (.tuple #[Co n A' k c',Y 0])/\RowsUp w' w.heap.size A' (nzs rows))/\zB w w':=by subst b;exact h
def RelS1(w2:Wo)(n:Nat)(v32:Value)(wr:Wo):Prop:=∃k:Nat,k<=n/\v32=Y k/\wr=w2
def RelS2(w2:Wo)(set:LN)(n:Nat)(v12 v62:Value)(wr:Wo):Prop:=∃c:Nat,c<=n/\v62=Y c/\Num wr w2.heap.size v12 (freeC set c)/\zB w2 wr
section
variable {P:Program} {S:Wo->Prop} {K:Act->Wo->Prop} {o:Oper} {r:List (Nat × Oper)} {a:Act} {w:Wo}
theorem qcA(j:o.guard=none)(f:TypeId)(x y:Operand)(l:o.op=.store f x y)(b:Nat)(t:TypeId)(c d:Array Value)(n:a.eval x=zP b)(p:a.eval y=.agg d)(i:w.heap[b]?=some (.cells c t (0,0)))(k:(P.info? f).map (·.size)=some d.size)(m:c.size=d.size)(g:d.all (·.oneCell')=true)(h:wpMixF P S K r (a.put o.dst undef) (w.setRow b d)):wpMixF P S K ((3,o):: r) a w:=
 mixf_store j (by
  unfold execOp
  simp only[l,n,p,Instr.storeAt,Instr.sureAddr,Sem.run_bind,Sem.run_pure,Result.andThen_ok,run_storeVar_row w b t f c d i k m g]) h
end
theorem BoxC.setA{w:Wo}{f a r:List Value}{W:Wo}(h:BoxC w f a r W)(b:List Value):BoxC w f b r (W.setRow (w.heap.size+1) b.toArray):=
 ⟨qaR h.below U0 _,by simpa using h.size,(setRow_other W _ _ _ U0).trans h.k0,setRow_same W _ _ _ _ h.k1,(setRow_other W _ _ _ U0).trans h.k2⟩
end Go.Proofs.YtocbdafcolbfeaaGreat
namespace Go.Proofs.YtocbdafcolbfeaaGreat
open Go.RowKit Pln Tryz
def Far(l bo Ba b:Nat):Prop:=b≠l/\b≠bo/\b≠Ba
def SameBut(l bo Ba:Nat)(W W':Wo):Prop:=W.heap.size<=W'.heap.size/\∀b,b<W.heap.size->Far l bo Ba b->W'.heap[b]?=W.heap[b]?
section
variable {l bo Ba:Nat} {W W' W'':Wo}
theorem SameBut.refl:SameBut l bo Ba W W:=⟨Nat.le_refl _,fun _ _ _=>rfl⟩
theorem SameBut.trans(h:SameBut l bo Ba W W')(c:SameBut l bo Ba W' W''):SameBut l bo Ba W W'':=
 ⟨Nat.le_trans h.1 c.1,fun b hb hf=>(c.2 b (Nat.lt_of_lt_of_le hb h.1) hf).trans (h.2 b hb hf)⟩
theorem SameBut.of_below(h:zB W W'):SameBut l bo Ba W W':=⟨h.size,fun b hb _=>h.block b hb⟩
theorem SameBut.drew:SameBut l bo Ba W W.drew:=⟨Nat.le_refl _,fun _ _ _=>rfl⟩
theorem SameBut.set(u:Value):SameBut l bo Ba W (W.setCell (zA Ba 0) u):=⟨U2,fun b _ hf=>Below.heap_setCell W (zA Ba 0) u b hf.2.2⟩
theorem SameBut.cell(h:SameBut l bo Ba W W'){p:Addr}(c:Far l bo Ba p.block){v:Value}(b:W.cell? p=some v):W'.cell? p=some v:=
 (World.cell?_of_block (h.2 p.block (World.block_lt_of_cell? W _ b) c)).trans b
theorem SameBut.range(h:SameBut l bo Ba W W'){b o:Nat}{cs:List Value}(d:Far l bo Ba b)(c:W.rangeAt b o cs):W'.rangeAt b o cs:=fun j v hv=>h.cell (p:=(zA b (o+j))) d (c j v hv)
theorem SameBut.ints(h:SameBut l bo Ba W W'){b o:Nat}{zs:LI}(m:Far l bo Ba b)(k:zI W (some (zA b o)) zs):zI W' (some (zA b o)) zs:=fun hz=>by
 obtain⟨g,i,c,d,f⟩:=k hz
 injection c with c
 injection c with e1 e2
 subst e1
 subst e2
 exact⟨b,o,rfl,Nat.lt_of_lt_of_le d h.1,fun j hjl=>h.cell (p:=(zA b (o+j))) m (f j hjl)⟩
end
def lT:LN:=genM (mulM 2 1 (mdOf 1 [])) (2^1)
def GFFar(l bo Ba gb:Nat)(W:Wo):Prop:=
 Far l bo Ba gb/\gb<W.heap.size/\∃(A3:OA)(n3 c3 ge ce gl cl:Nat),Far l bo Ba ge/\Far l bo Ba gl/\W.heap[gb]?=some (D3 2 1 A3 n3 c3 ((2^1:Nat):Int) ge lT.length ce gl (logL lT (2^1)).length cl)/\
  zI W (zO ge) (nz lT)/\zI W (zO gl) (nz (logL lT (2^1)))
theorem GFFar.same{l bo Ba s:Nat}{W W':Wo}(h:GFFar l bo Ba s W)(r:SameBut l bo Ba W W'):GFFar l bo Ba s W':=by obtain⟨d,f,g,q,i,ge,j,m,k,b,c,n,o,p⟩:=h;exact⟨d,Nat.lt_of_lt_of_le f r.1,g,q,i,ge,j,m,k,b,c,(r.2 s f d).trans n,r.ints b o,r.ints c p⟩
theorem GFFar.at_{l bo Ba o:Nat}{W:Wo}(h:GFFar l bo Ba o W):GFAt W W.heap.size o 2 1 lT (logL lT (2^1)):=by obtain⟨_,m,b,n,c,ge,d,g,f,_,_,i,j,k⟩:=h;exact⟨m,b,n,c,ge,d,g,f,i,j,k⟩
structure WkS (l bo Ba Bc By Bg Bf gb G:Nat) (lb:Array Value) (k:Nat) (W:Wo):Prop where
 fc:Far l bo Ba Bc
 code:W.rangeAt Bc 0 (Cp 2 1 3 G 1 1)
 gen:Far l bo Ba G/\∃R ro cr,Far l bo Ba R/\W.cell? (zA G 0)=some (zL (some (zA R ro)) 3 cr)/\∀j,j<3->W.cell? (zA R (ro+j))=some (Y 1)
 cnt:W.heap[Ba]?=some (.cells #[Y (k:Int)] 3 (0,0))
 yld:Far l bo Ba By/\W.cell? (zA By 0)=some (.func (.yield l) #[] #[])
 gee:Far l bo Ba Bg/\W.cell? (zA Bg 0)=some (zP gb)
 frm:Far l bo Ba Bf/\W.cell? (zA Bf 0)=some (.func (.func 168) #[] lb)
 gf:GFFar l bo Ba gb W
section
variable {l bo Ba Bc By Bg Bf gb G k:Nat} {lb:Array Value} {W W':Wo}
theorem WkS.same(h:WkS l bo Ba Bc By Bg Bf gb G lb k W)(m:SameBut l bo Ba W W'){n:Nat}(o:W'.heap[Ba]?=some (.cells #[Y (n:Int)] 3 (0,0))):WkS l bo Ba Bc By Bg Bf gb G lb n W':=by obtain⟨b,R,i,d,c,f,g⟩:=h.gen;exact⟨h.fc,m.range h.fc h.code,⟨b,R,i,d,c,m.cell b f,fun j hj=>m.cell c (g j hj)⟩,o,⟨h.yld.1,m.cell h.yld.1 h.yld.2⟩,⟨h.gee.1,m.cell h.gee.1 h.gee.2⟩,⟨h.frm.1,m.cell h.frm.1 h.frm.2⟩,h.gf.same m⟩
theorem WkS.lt(h:WkS l bo Ba Bc By Bg Bf gb G lb k W):Ba<W.heap.size:=(Array.getElem?_eq_some_iff.1 h.cnt).1
theorem WkS.grow(h:WkS l bo Ba Bc By Bg Bf gb G lb k W)(b:zB W W'):WkS l bo Ba Bc By Bg Bf gb G lb k W':=h.same (.of_below b) ((b.block Ba h.lt).trans h.cnt)
theorem WkS.set(h:WkS l bo Ba Bc By Bg Bf gb G lb k W)(b:Nat):WkS l bo Ba Bc By Bg Bf gb G lb b (W.setCell (zA Ba 0) (Y (b:Int))):=h.same (.set _) (heap_set_same h.cnt 0 _)
end
def RndOk(l bo:Nat)(J:Nat->Wo->Prop)(k:Nat)(W:Wo)(e:Ending)(W':Wo):Prop:=e=.returned (.bool true)/\J (k+1) W'/\W.heap.size<=W'.heap.size/\∀b,b<W.heap.size->b≠l->b≠bo->W'.heap[b]?=W.heap[b]?
def RndsOk(l bo Bz:Nat)(J:Nat->Wo->Prop):Prop:=
 ∀(k g c:Nat)(W:Wo),k<2->J k W->Bz<=W.heap.size->Row W Bz g c (nz (List.replicate 3 k))->YieldAt Fence.wide 0 prog l (Cm k g 3 c) W (RndOk l bo J k W)
def FromOk(l bo Ba Bc By Bg Bf gb G:Nat)(lb:Array Value)(J:Nat->Wo->Prop)(k:Nat)(W:Wo)(e:Ending)(W':Wo):Prop:=
 e=.returned (.bool true)/\WkS l bo Ba Bc By Bg Bf gb G lb k W'/\J k W'/\SameBut l bo Ba W W'
theorem from1_c(l bo Ba Bc By Bg Bf gb G Bz:Nat)(lb:Array Value)(J:Nat->Wo->Prop)(hJ:∀j A B,J j A->Below Bz A B->J j B)(hz:Bz<=Ba)(ab:Ba≠l)(ac:Ba≠bo)(hY:RndsOk l bo Bz J)(k:Nat)(hk:k<2)(bw ow cw:Nat)(ad:Far l bo Ba bw)(W:Wo)(hS:WkS l bo Ba Bc By Bg Bf gb G lb k W)(h0:J k W)(hA:zI W (some (zA bw ow)) (nz (List.replicate 3 k))):
 zC 168 #[Y 1,zL (some (zA bw ow)) 3 cw,zP Bc,zP Ba,zP By,zP Bg,zP Bf] W (FromOk l bo Ba Bc By Bg Bf gb G lb J (k+1) W):=by
 obtain⟨i,M⟩:∃i,zK (i=k+1):=⟨_,rfl⟩;rw[<- M.o];have S:(i:Int)=(k:Int)+1:=by have:=M.o;omega
 have s:=zH hS;have X:=zH hY;have K:=zH hJ;have aa:IntKind.i64.wrap ((i:Int)-1)=(k:Int):=by rw[IntWalk.i64_in _ U0];omega
 have c4:W.cell? (zA Bc 4)=some (zS G 1 1):=s.o.code 4 _ rfl;have ca:W.cell? (zA Ba 0)=some (Y (k:Int)):=cell_of_row _ _ 0 _ _ _ s.o.cnt;have fa:W.frozen? (zA Ba 0)=false:=by simp[World.frozen?,s.o.cnt]
 have d:=zH (s.o.set i);have q:=zH (K.o k W _ h0 ((Below.refl Bz W).setCell (p:=(zA Ba 0)) hz (Y (i:Int))));rw[S] at d q;have m:zK (SameBut l bo Ba W (W.setCell (zA Ba 0) (Y ((k:Int)+1)))):=SameBut.set _;have t:=zH (m.o.ints ad hA);have D:zK (Bz<=(W.setCell (zA Ba 0) (Y ((k:Int)+1))).heap.size):=by show _<=_;have:=s.o.lt;simp;omega
 clear hS hY hJ h0 hA;refine(callsIn_wide (n:=0)).1 ?_;refine callsIn_of_wp func168 rfl trivial ?_;simp only[ntmps168,List.size_toArray,List.length_cons,List.length_nil,Nat.reduceAdd,Nat.reduceSub,Array.replicate_succ,Array.replicate_zero,List.push_toArray,List.append_toArray,List.nil_append,List.cons_append];clear S;repeat(first|go_values|gi_guarded|gi_step|gi_upon)
 generalize W.setCell (zA Ba 0) (Y ((k:Int)+1))=r at *;clear c4 ca fa s;refine qdK 5 5 (WkS l bo Ba Bc By Bg Bf gb G lb i) [(0,0),(0,1),(1,2),(1,3),(2,4)] default noBar_wide U1 U1 U1 (d.o.same SameBut.drew d.o.cnt) ?_;have x:=zH (K.o _ r r.drew q.o (Below.refl Bz r).drew);have u:=zH<|m.o.trans .drew
 have h:zK (Bz<=r.drew.heap.size):=D.o;have H:=zH (qfO (nz (List.replicate 3 k)) (some (zA bw ow)) cw r.drew (t.o.grow zn (Below.refl _ r).drew) (by rw[qaA,List.length_replicate];omega) (by rw[qaA,List.length_replicate];omega));have z:zK ((nz (List.replicate 3 k)).length=3):=by show _=_;rw[qaA,List.length_replicate]
 rw[z.o] at H;have C:=zH<|d.o.same SameBut.drew d.o.cnt
 clear q m D t d;generalize r.drew=Wd at *;simp only[List.map_cons,List.map_nil,List.getD_cons_zero,List.getD_cons_succ];apply qbF rfl
 . intro V Q;have y:=Q.yld.2;go_simp;rfl
 go_simp;apply qbF rfl
 . intro V Q;have y:V.cell? (zA Ba 0)=some (Y (i:Int)):=cell_of_row _ _ 0 _ _ _ Q.cnt;go_simp;rfl
 go_simp;apply qaM rfl
 . intro V;go_simp;rfl
 go_simp;apply qaM rfl
 . intro V;go_simp;rfl
 go_simp;apply qbE rfl
 . go_simp;exact⟨rfl,rfl⟩
 with_reducible refine H.o.mono ?_
 rintro e P ⟨⟨g,c,rfl,hrow⟩,hb2⟩;have f:=zH (C.o.grow hb2);have L:=zH (K.o _ Wd P x.o (hb2.mono h.o));have I:=zH<|u.o.trans (.of_below hb2)
 have O:=zH<|Nat.le_trans h.o hb2.size
 have N:=zH (hrow.base (Nat.le_trans h.o hrow.lt.1));refine⟨_,rfl,f.o,?_⟩;go_simp;refine qbH ?_;show wpListIn _ _ _ _ _ _ _ _;clear hrow hb2 C x u h H;obtain⟨fn,U,E,R,hy,T⟩:=X.o k g c P hk L.o O.o N.o;gi_wp2_with ((try refine⟨rfl,?_⟩);refine T.mono ?_;clear T;rintro e Z ⟨rfl,hJ3,hsz3,hsm3⟩);go_ret;have v:SameBut l bo Ba P Z:=⟨hsz3,fun b hb hf=>hsm3 b hb hf.1 hf.2.1⟩;exact⟨rfl,f.o.same v ((hsm3 Ba f.o.lt ab ac).trans f.o.cnt),M.o ▸ hJ3,I.o.trans v⟩
end Go.Proofs.YtocbdafcolbfeaaGreat
namespace Go.Proofs.YtocbdafcolbfeaaGreat
open Pln
namespace Dv
structure Ar (p:Nat) (O:Ops):Prop where
 pos:0<p
 add:∀x y,x<p->y<p->O.add x y=(x+y) % p
 mul:∀x y,x<p->y<p->O.mul x y=x*y % p
def combO(O:Ops):LN->LN->LL->LN
 |out,x :: xs,r :: rs=>combO O (if x=0 then out else addRow O out x r) xs rs
 |out,_,_=>out
def dotO(O:Ops):Nat->LN->LN->Nat
 |s,x :: r,y :: t=>dotO O (O.add s (O.mul x y)) r t
 |s,_,_=>s
end Dv
end Go.Proofs.YtocbdafcolbfeaaGreat
namespace Go.Proofs.YtocbdafcolbfeaaGreat
open Go.RowKit Pln Tryz
def RelDot(w:Wo)(q:Nat)(O:Ops)(u v:LN)(v7 v14:Value)(wr:Wo):Prop:=
 ∃k s n:Nat,k<=u.length/\v7=Y s/\v14=Y k/\s<q/\Dv.dotO O s (u.drop k) (v.drop k)=Dv.dotO O 0 u v/\wr=w.drewN n
theorem dotO_step{O:Ops}{u v:LN}{k s r:Nat}(d:k<u.length)(f:k<v.length)(h:Dv.dotO O s (u.drop k) (v.drop k)=r):Dv.dotO O (O.add s (O.mul (u.getD k 0) (v.getD k 0))) (u.drop (k+1)) (v.drop (k+1))=r:=by
 rw[List.drop_eq_getElem_cons d,List.drop_eq_getElem_cons f] at h;unfold Dv.dotO at h;have b:u.getD k 0=u[k]:=by simp[List.getD,d]
 have c:v.getD k 0=v[k]:=by simp[List.getD,f]
 rw[b,c];exact h
theorem dot_c(gb p m B:Nat)(md l u v:LN)(Au Av:OA)(cu cv:Nat)(w:Wo)(hF:FT p m md l)(hG:GFAt w B gb p m l (logL l (p ^ m)))(ac:v.length=u.length)(hu:∀ x∈u,x<p ^ m)(hv:∀ x∈v,x<p ^ m)(hU:IntsAt w B Au (nz u))(hV:IntsAt w B Av (nz v))(hl:u.length<=1000):
 zC 138 #[zP gb,zL Au u.length cu,zL Av u.length cv] w (Quiet (Y ((Dv.dotO (opsT p m l) 0 u v:Nat):Int)) w):=by
 have P:0<p^m:=by have:=hF.small.p1;exact Nat.pow_pos U0
 have R:zK (∀x y n,x<p^m->y<p^m->zC 142 (Cf gb x y) (w.drewN n) (Quiet (Y (((opsT p m l).mul x y:Nat):Int)) (w.drewN n))):=
  fun x y n g h=>mul_c x y gb p m B md l (w.drewN n) hF hG g h
 have S:zK (∀x y n,x<p^m->y<p^m->zC 143 (Cf gb x y) (w.drewN n) (Quiet (Y (((opsT p m l).add x y:Nat):Int)) (w.drewN n))):=
  fun x y n g h=>add_c x y gb p m B l _ (w.drewN n) hF.small hG g h
 have J:zK (∀x y,x<p^m->y<p^m->(opsT p m l).mul x y<p^m):=fun x y g h=>mulT_lt hF g h;have H:zK (∀x y,x<p^m->y<p^m->(opsT p m l).add x y<p^m):=fun x y _ _=>qdR (by have:=hF.small.p1;omega) m x y;have M:zK (∀k,k<u.length->v.getD k 0<p^m):=fun k D=>by
  have A:k<v.length:=U0;have:v.getD k 0=v[k]:=by simp[List.getD,A]
  rw[this];exact hv _ (List.getElem_mem A)
 have L:zK (∀k,k<u.length->u.getD k 0<p^m):=fun k D=>by
  have:u.getD k 0=u[k]:=by simp[List.getD,D]
  rw[this];exact hu _ (List.getElem_mem D)
 have T:=zH hU;have U:=zH hV;have d:=zH ac;clear hF hG hv hu hU hV ac;generalize opsT p m l=O at *;generalize p^m=q at *;go_enter func138,ntmps138;go_wp2;go_loopw [7,14] (fun v7 v14 wr=>RelDot w q O u v v7 v14 wr) (fun _ v14 _=>u.length-(intOf v14).toNat);case atStart=>exact⟨0,0,0,U0,rfl,rfl,P,rfl,rfl⟩
 case round =>
  obtain⟨k,s,n,D,rfl,rfl,V,f,rfl⟩:=hrel;have c:=zH f;clear f;by_cases b:k<u.length
  . obtain ⟨bu,ou,rfl,aa,r⟩ := T.o.at_ (k := k) (by rw [qaA];exact b);obtain ⟨bv,ov,rfl,ab,t⟩:=U.o.at_ (k:=k) (by rw [qaA,d.o];exact b);rw [qaC] at r t;have K:=zH (dotO_step b (by rw [d.o];exact b) c.o);have g:=L.o k b;have h:=M.o k b;have k0:(0:Int)<=(k:Int):=U0;have k1:(k:Int)<(u.length:Int):=U0;have hw:IntKind.i64.wrap ((k:Int)+1)=(k:Int)+1:=IntWalk.i64_in _ U0;generalize u.getD k 0=x at *;generalize v.getD k 0=y at *;(have I:zK (∀ W,SDrew (w.drewN n) W->W.cell? (zA bu (ou+k))=some (Y x)/\W.cell? (zA bv (ov+k))=some (Y y)):=fun W ⟨j,hW⟩=>by subst hW;exact ⟨r,t⟩);(have Z:zK (∀ W,SDrew (w.drewN n) W->zC 142 (Cf gb x y) W fun e w'=>e=.returned (Y ((O.mul x y:Nat):Int))/\SDrew (w.drewN n) w'):=fun W ⟨j,hW⟩=>by subst hW;rw [World.drewN_drewN];refine (R.o x y _ g h).mono ?_;rintro e w' ⟨he,i,rfl⟩;exact ⟨he,j+i,by rw [World.drewN_drewN,World.drewN_drewN,Nat.add_assoc]⟩);have C:=J.o x y g h;(have E:zK (∀ W,SDrew (w.drewN n) W->zC 143 (Cf gb s ((O.mul x y:Nat):Int)) W fun e w'=>e=.returned (Y ((O.add s (O.mul x y):Nat):Int))/\SDrew (w.drewN n) w'):=fun W ⟨j,hW⟩=>by subst hW;rw [World.drewN_drewN];refine (S.o s _ _ V C).mono ?_;rintro e w' ⟨he,i,rfl⟩;exact ⟨he,j+i,by rw [World.drewN_drewN,World.drewN_drewN,Nat.add_assoc]⟩);have Q:=H.o s _ V C;clear r t R S T U;go_upto_region 5 with fail;refine qaD (SDrew (w.drewN n)) U1 U1 ⟨1,rfl⟩ ?_
    repeat (first
     | (apply qaJ rfl
        . intro W z
          obtain⟨y0,y1⟩:=I.o W z
          go_simp
          try rfl
        go_simp)
     | (apply qaO rfl
        . intro W z
          go_simp
          exact⟨rfl,rfl⟩
        . intro W z
          first
           |exact Z.o W z
           |exact E.o W z
        go_simp))
    refine qaE ?_;intro w2 N;obtain⟨j,rfl⟩:=N;rw[World.drewN_drewN];go_wp2;go_roundw;case rel=>exact⟨k+1,_,_,U0,rfl,gn,Q,K.o,rfl⟩
    case measure=>simp[intOf];omega
  . (obtain rfl:k=u.length:=by omega);(have X:zK (Dv.dotO O 0 u v=s):=by show _=_;have:=c.o;rw[List.drop_length] at this;rw[<- this];rfl);go_wp2;go_ret;exact⟨qaG (by rw[X.o]),n,rfl⟩
theorem gorder_e(c B p m:Nat)(l f:LN)(w:Wo)(d:GFAt w B c p m l f):
 zC 120 #[zP c] w fun e w'=>e=.returned (Y ((p^m:Nat):Int))/\w=w':=by obtain⟨_,_,_,_,_,_,_,_,b,_,_,_,_⟩:=d.cells;generalize p^m=q at *;clear d;go_enter func120,ntmps120;go_wp2;go_ret;exact⟨rfl,rfl⟩
end Go.Proofs.YtocbdafcolbfeaaGreat
namespace Go.Proofs.YtocbdafcolbfeaaGreat
open Go.RowKit Tryz
structure StD where
 rule:Int
 p:Int
 m:Int
 mod:LI
 n:Int
 gen:List LI
 low:Int
 frm:LI
 at_:LI
 bp:Int
 bm:Int
 bmod:Nat
 r0:Int
 r1:Int
 r2:Int
 r3:Int
 r4:Int
 points:Nat
 mults:Nat
 perm:Nat
 scale:Nat
 frob:Int
 sets:List LI
def StD.ok(d:StD):Prop:=
 d.mod.length<=maxLen/\d.gen.length<=maxLen/\d.frm.length<=maxLen/\d.at_.length<=maxLen/\d.bmod<=maxLen/\d.points<=maxLen/\d.mults<=maxLen/\d.perm<=maxLen/\d.scale<=maxLen/\d.sets.length<=maxLen
def stCells(d:StD)(Am Ag Af Aa Ab Ap Aq Ar As At:OA)(cm cg cf ca cb cp cq cr cs ct:Nat):List Value :=
 [Y d.rule,Y d.p,Y d.m,zL Am d.mod.length cm,Y d.n,zL Ag d.gen.length cg,Y d.low,zL Af d.frm.length cf,zL Aa d.at_.length ca,
   Y d.bp,Y d.bm,zL Ab d.bmod cb,Y d.r0,Y d.r1,Y d.r2,Y d.r3,Y d.r4,zL Ap d.points cp,zL Aq d.mults cq,zL Ar d.perm cr,zL As d.scale cs,Y d.frob,zL At d.sets.length ct]
def StC(w:Wo)(B:Nat)(d:StD)(cs:List Value):Prop:=
 ∃(Am Ag Af Aa Ab Ap Aq Ar As At:OA)(cm cg cf ca cb cp cq cr cs' ct:Nat),cs=stCells d Am Ag Af Aa Ab Ap Aq Ar As At cm cg cf ca cb cp cq cr cs' ct/\d.gen.length<=cg/\
  IntsAt w B Am d.mod/\RowsAt w B Ag d.gen/\IntsAt w B Af d.frm/\IntsAt w B Aa d.at_/\RowsAt w B At d.sets
def StsAt(w:Wo)(B:Nat)(A:OA)(ds:List StD):Prop:=
 0<ds.length->∃b o,A=some (zA b o)/\b<B/\∀i d,ds[i]?=some d->∃cs,w.rangeAt b (o+i*23) cs/\StC w B d cs
theorem StC.len{w:Wo}{B:Nat}{d:StD}{cs:List Value}(h:StC w B d cs):cs.length=23:=by obtain⟨_,_,_,_,_,_,_,_,_,_,_,_,_,_,_,_,_,_,_,_,rfl,_⟩:=h;rfl
theorem StC.one{w:Wo}{B:Nat}{d:StD}{cs:List Value}(h:StC w B d cs):∀v∈cs,v.oneCell'=true:=by obtain⟨_,_,_,_,_,_,_,_,_,_,_,_,_,_,_,_,_,_,_,_,rfl,_⟩:=h;unfold stCells;simp only[List.mem_cons,List.not_mem_nil,or_false,forall_eq_or_imp,forall_eq];simp[Value.oneCell']
theorem StC.keep{w w':Wo}{B:Nat}{d:StD}{cs:List Value}(h:StC w B d cs)(A:Below B w w'):StC w' B d cs:=by obtain⟨j,i,g,c,f,k,l,Ar,m,At,p,o,n,ca,cb,cp,q,r,b,s,e,z,t,u,v,x,y⟩:=h;exact⟨j,i,g,c,f,k,l,Ar,m,At,p,o,n,ca,cb,cp,q,r,b,s,e,z,t.keep A,u.keep A,v.keep A,x.keep A,y.keep A⟩
theorem StsAt.keep{w w':Wo}{B:Nat}{A:OA}{m:List StD}(h:StsAt w B A m)(n:Below B w w'):StsAt w' B A m:=fun hz=>by
 obtain⟨b,o,e,c,l⟩:=h hz
 refine⟨b,o,e,c,fun i d hd=>?_⟩
 obtain⟨f,g,k⟩:=l i d hd
 exact⟨f,fun j v hv=>(n.cell (p:=(zA b (o+i*23+j))) c).trans (g j v hv),k.keep n⟩
theorem StsAt.at_{w:Wo}{B:Nat}{A:OA}{j:List StD}(h:StsAt w B A j){i:Nat}(k:i<j.length):∃b o cs,A=some (zA b o)/\b<B/\w.rangeAt b (o+i*23) cs/\StC w B (j[i]'k) cs:=by obtain⟨b,o,e,c,g⟩:=h U0;obtain⟨cs,d,f⟩:=g i _ (List.getElem?_eq_getElem k);exact⟨b,o,cs,e,c,d,f⟩
theorem stepSize:(prog.info? 40).map (·.size)=some 23:=U1
def SB(w:Wo)(b:Nat)(cs:List Value)(W:Wo):Prop:=W.heap[b]?=some (.cells cs.toArray 40 (0,0))/\zB w W/\w.heap.size<=b/\b<W.heap.size
section
variable {w:Wo} {b:Nat} {cs:List Value} {W W':Wo}
theorem SB.grow(h:SB w b cs W)(i:zB W W'):SB w b cs W':=by obtain⟨d,f,g,c⟩:=h;exact⟨(i.block _ c).trans d,f.trans (i.mono U0),g,Nat.lt_of_lt_of_le c i.size⟩
theorem SB.cell(h:SB w b cs W){k:Nat}{v:Value}(c:cs[k]?=some v):W.cell? (zA b k)=some v:=by rw[cell_of_row W b k _ _ _ h.1];simpa using c
theorem SB.range(h:SB w b cs W):W.rangeAt b 0 cs:=qeS h.1
theorem SB.sub(h:SB w b cs W)(o:Nat)(f:List Value)(hd:∀j,j<f.length->cs[o+j]?=f[j]?):W.rangeAt b o f:=fun j v hv=>by
 have d:=(List.getElem?_eq_some_iff.1 hv).1
 have c:=hd j d
 rw[hv] at c
 have:=qeS h.1 (o+j) v c
 rw[Nat.zero_add] at this
 exact this
end
theorem sb_new(w:Wo)(cs:List Value):SB w w.heap.size cs (w.alloc (.cells cs.toArray 40)):=⟨heap_alloc_new _ _,zV.alloc zn _,Nat.le_refl _,U2⟩
theorem StC.more{w:Wo}{B B':Nat}{d:StD}{cs:List Value}(h:StC w B d cs)(A:B<=B'):StC w B' d cs:=by obtain⟨j,i,g,c,f,k,l,Ar,m,At,p,o,n,ca,cb,cp,q,r,b,s,e,z,t,u,v,x,y⟩:=h;exact⟨j,i,g,c,f,k,l,Ar,m,At,p,o,n,ca,cb,cp,q,r,b,s,e,z,t.more A,u.more A,v.more A,x.more A,y.more A⟩
theorem StC.lift{w W:Wo}{d:StD}{cs:List Value}(h:StC w w.heap.size d cs)(c:zB w W):StC W W.heap.size d cs:=(h.keep c).more c.size
theorem range_keep_v{w w':Wo}{b o:Nat}{cs:List Value}(h:w.rangeAt b o cs)(c:w'.heap[b]?=w.heap[b]?):w'.rangeAt b o cs:=fun j v hv=>(World.cell?_of_block (a:=(zA b (o+j))) c).trans (h j v hv)
end Go.Proofs.YtocbdafcolbfeaaGreat
namespace Go.Proofs.YtocbdafcolbfeaaGreat
open Go.RowKit Pln Tryz
def formZ(d:StD):Int:=if codeZ d.p d.m d.mod d.n d.gen≠0 then codeZ d.p d.m d.mod d.n d.gen else if d.low<1\/d.n+1<d.low then 6 else 0
theorem codeZ_n{p m:Int}{mod:LI}{n:Int}{zs:List LI}(h:codeZ p m mod n zs=0):fieldOK p m mod=true/\lengthZ n=0/\spZ p m mod n zs=0:=by
 unfold codeZ at h;split at h
 . cases h
 . rename_i h1;split at h
   . cases h
   . rename_i h2;exact⟨by simpa using h1,by simpa using h2,h⟩
theorem formed_g(d:StD)(cs:List Value)(w:Wo)(h:StC w w.heap.size d cs)(hk:d.ok):
 zC 15 #[.agg cs.toArray] w fun e w'=>e=.returned (Y (formZ d))/\zB w w':=by
 obtain⟨k,i,C,A,B,D,E,Ar,H,At,r,q,L,ca,cb,cp,M,O,s,P,rfl,_,Q,R,U,V,W⟩:=h;have f:=zH (sb_new w (stCells d k i C A B D E Ar H At r q L ca cb cp M O s P));have K:=zH Q;have I:=zH R;have t:zK (formZ d=if codeZ d.p d.m d.mod d.n d.gen≠0 then codeZ d.p d.m d.mod d.n d.gen else if d.low<1\/d.n+1<d.low then 6 else 0):=rfl;have T:zK (codeZ d.p d.m d.mod d.n d.gen=0->1<=d.n/\d.n<=64):=fun h=>by
  have:=(codeZ_n h).2.1;unfold lengthZ at this;split at this
  . cases this
  . omega
 obtain⟨x,y,_⟩:=hk;have e:maxLen=9223372036854775807:=rfl;rw[e] at x y;clear Q R U V W e;go_enter func15,ntmps15;go_upto_region 1 with fail;generalize w.alloc (.cells (stCells d k i C A B D E Ar H At r q L ca cb cp M O s P).toArray 40)=u at *;have l:zK (u.rangeAt w.heap.size 1 (C2 d.p d.m k d.mod.length r d.n i d.gen.length q)):=f.o.sub 1 _ (fun j hj=>by rcases j with _|_|_|_|_|j<;>first|rfl|(simp at hj;omega));have J:=zH (codecheck_c d.p d.m d.mod k r d.n d.gen i q u ((K.o.keep f.o.2.1).more f.o.2.1.size) x ((I.o.keep f.o.2.1).more f.o.2.1.size) y);clear K I x y;generalize codeZ d.p d.m d.mod d.n d.gen=z at *;go_wp2_with (refine wpList_load_mid rfl 32 (.tmp 4) rfl w.heap.size 1 rfl (C2 d.p d.m k d.mod.length r d.n i d.gen.length q) _ l.o underlying32 rfl codeSize ?_);go_fit J.o;rintro e S ⟨rfl,hb1⟩;have b:=zH (f.o.grow hb1);clear hb1 f J l;clear u;have y6:S.cell? (zA w.heap.size 6)=some (Y d.low):=b.o.cell rfl;have y4:S.cell? (zA w.heap.size 4)=some (Y d.n):=b.o.cell rfl;by_cases v:z=0
 . subst v;obtain ⟨n1,n2⟩:=T.o rfl;have g:=t.o;rw [if_neg U2] at g;generalize d.low=low at *;generalize d.n=N at *;have hw:IntKind.i64.wrap (N+1)=N+1:=IntWalk.i64_in _ U0;have c:=zH g;clear g t;by_cases Z:low<1
   . go_wp2;go_ret;exact⟨qaG (by rw[c.o,if_pos (.inl Z)]),b.o.2.1⟩
   . by_cases X : N + 1 < low
     . go_wp2;go_ret;exact⟨qaG (by rw[c.o,if_pos (.inr X)]),b.o.2.1⟩
     . go_wp2;go_ret;exact⟨qaG (by rw[c.o,if_neg U0]),b.o.2.1⟩
 . have aa:=bne_iff_ne.2 v;have g:=t.o;rw[if_pos v] at g;have c:=zH g;clear g t;go_wp2;go_ret;exact⟨qaG (by rw[c.o]),b.o.2.1⟩
def TB(w:Wo)(cs ds:List Value)(t:TypeId)(W:Wo):Prop:=W.heap[w.heap.size]?=some (.cells cs.toArray t (0,0))/\W.heap[w.heap.size+1]?=some (.cells ds.toArray t (0,0))/\zB w W/\w.heap.size+1<W.heap.size
section
variable {w:Wo} {cs ds:List Value} {t:TypeId} {W W':Wo}
theorem TB.grow(h:TB w cs ds t W)(g:zB W W'):TB w cs ds t W':=by obtain⟨b,c,d,f⟩:=h;exact⟨(g.block _ U0).trans b,(g.block _ U0).trans c,d.trans (g.mono U0),Nat.lt_of_lt_of_le f g.size⟩
theorem TB.below(h:TB w cs ds t W):zB w W:=h.2.2.1
theorem TB.cell(h:TB w cs ds t W){k:Nat}{v:Value}(b:cs[k]?=some v):W.cell? (zA w.heap.size k)=some v:=by rw[cell_of_row W w.heap.size k _ _ _ h.1];simpa using b
theorem TB.cell1(h:TB w cs ds t W){k:Nat}{v:Value}(b:ds[k]?=some v):W.cell? (zA (w.heap.size+1) k)=some v:=by rw[cell_of_row W (w.heap.size+1) k _ _ _ h.2.1];simpa using b
theorem TB.sub(h:TB w cs ds t W)(o:Nat)(d:List Value)(hd:∀j,j<d.length->cs[o+j]?=d[j]?):W.rangeAt w.heap.size o d:=fun j v hv=>by
 have c:=(List.getElem?_eq_some_iff.1 hv).1
 have b:=hd j c
 rw[hv] at b
 have:=qeS h.1 (o+j) v b
 rw[Nat.zero_add] at this
 exact this
theorem TB.sub1(h:TB w cs ds t W)(o:Nat)(d:List Value)(hd:∀j,j<d.length->ds[o+j]?=d[j]?):W.rangeAt (w.heap.size+1) o d:=fun j v hv=>by
 have c:=(List.getElem?_eq_some_iff.1 hv).1
 have b:=hd j c
 rw[hv] at b
 have:=qeS h.2.1 (o+j) v b
 rw[Nat.zero_add] at this
 exact this
end
theorem tb_new(w:Wo)(cs ds:List Value)(t:TypeId):TB w cs ds t ((w.alloc (.cells cs.toArray t)).alloc (.cells ds.toArray t)):=by refine⟨(Below.heap_alloc _ _ _ U2).trans (heap_alloc_new _ _),?_,((zV.alloc zn _).alloc U2 _),U2⟩;have:=heap_alloc_new (w.alloc (.cells cs.toArray t)) (.cells ds.toArray t);rw[show(w.alloc (.cells cs.toArray t)).heap.size=w.heap.size+1 by simp] at this;exact this
def RelPS(w:Wo)(cs ds:List Value)(t:TypeId)(mod mod':LI)(v:Value)(wr:Wo):Prop:=∃k:Nat,k<=mod.length/\v=Y k/\TB w cs ds t wr/\mod.take k=mod'.take k
theorem take_ext{l d:LI}{k:Nat}(h:l.take k=d.take k)(f:k<l.length)(g:k<d.length)(e:l.getD k 0=d.getD k 0):l.take (k+1)=d.take (k+1):=by
 rw[List.take_add_one,List.take_add_one,h,List.getElem?_eq_getElem f,List.getElem?_eq_getElem g];have b:l.getD k 0=l[k]:=by simp[List.getD,f]
 have c:d.getD k 0=d[k]:=by simp[List.getD,g]
 rw[b,c] at e;rw[e]
theorem psame_c(p m p' m':Int)(mod aa:LI)(A A':OA)(c c':Nat)(w:Wo)(hA:zI w A mod)(ab:zI w A' aa)(hl:mod.length<=9223372036854775807):
 zC 81 #[C7 p m A mod.length c,C7 p' m' A' aa.length c'] w fun e w'=>e=.returned (.bool (decide (p=p'/\m=m'/\mod=aa)))/\zB w w':=by
 have f:=zH (tb_new w (C5 p m A mod.length c) (C5 p' m' A' aa.length c') 29);have M:=zH hA;have B:=zH ab;have N:=zH (rfl:decide (p=p'/\m=m'/\mod=aa)=decide (p=p'/\m=m'/\mod=aa));clear hA ab;generalize v:decide (p=p'/\m=m'/\mod=aa)=u at *;have g:=zH v;clear v N;go_enter func81,ntmps81;go_upto_region 1 with fail;generalize (w.alloc (C3 p m A mod.length c)).alloc (C3 p' m' A' aa.length c')=r at *;have R:r.cell? (zA w.heap.size 0)=some (Y p):=f.o.cell rfl;have S:r.cell? (zA w.heap.size 1)=some (Y m):=f.o.cell rfl;have T:r.cell? (zA w.heap.size 2)=some (zL A mod.length c):=f.o.cell rfl;have U:r.cell? (zA (w.heap.size+1) 0)=some (Y p'):=f.o.cell1 rfl;have V:r.cell? (zA (w.heap.size+1) 1)=some (Y m'):=f.o.cell1 rfl;have H:r.cell? (zA (w.heap.size+1) 2)=some (zL A' aa.length c'):=f.o.cell1 rfl;by_cases n:p=p'
 . have K := bne_eq_false_iff_eq.2 n;by_cases q:m=m'
   . have J := bne_eq_false_iff_eq.2 q;by_cases d:mod.length=aa.length
     . (have I : ((mod.length : Int) != (aa.length : Int)) = false := by simp [d]);have P:=zH n;have O:=zH q;have j:=zH d;clear n q d;go_upto_region 4 with fail;go_loopw [31] (fun v31 wr=>RelPS w (C5 p m A mod.length c) (C5 p' m' A' aa.length c') 29 mod aa v31 wr) (fun v31 _=>mod.length-(intOf v31).toNat);case atStart=>exact ⟨0,U0,rfl,f.o,rfl⟩
       case round =>
        clear R S T U V H f K J I;obtain⟨k,hk,rfl,L,y⟩:=hrel;have f:=zH L;have t:=zH y;clear L y;by_cases x:k<mod.length
        . have H : wr.cell? (zA (w.heap.size + 1) 2) = some (zL A' aa.length c') := f.o.cell1 rfl;obtain ⟨b,o,rfl,hb,hc⟩:=(M.o.keep f.o.below).at_ x;(have l:k<aa.length:=by have:=j.o;omega);obtain ⟨b',o',rfl,W,X⟩:=(B.o.keep f.o.below).at_ l;have D:=zH (take_ext t.o x l);have C:zK (mod.getD k 0≠aa.getD k 0->mod≠aa):=fun h e=>h (by rw [e]);generalize mod.getD k 0=z at *;generalize aa.getD k 0=Z at *;have k0:(0:Int)<=(k:Int):=U0;have k1:(k:Int)<(mod.length:Int):=U0;have k2:(k:Int)<(aa.length:Int):=U0;by_cases s:z=Z
          . have E:=bne_eq_false_iff_eq.2 s.symm;have Q:=zH (D.o s);clear s;go_wp2;go_roundw;case rel=>exact⟨k+1,U0,gn,f.o,Q.o⟩
            case measure=>simp[intOf];omega
          . have E:=bne_iff_ne.2 (Ne.symm s);(have i:zK (u=false):=by show _=_;rw[<- g.o];exact decide_eq_false fun h=>C.o s h.2.2);clear s;go_wp2;go_ret;rw[i.o];exact⟨rfl,f.o.below⟩
        . (obtain rfl:k=mod.length:=by omega);(have i:zK (u=true):=by show _=_;rw[<- g.o];refine decide_eq_true ⟨P.o,O.o,?_⟩;have:=t.o;rw[List.take_length,List.take_of_length_le (by have:=j.o;omega)] at this;exact this);go_wp2;go_ret;rw[i.o];exact⟨rfl,f.o.below⟩
     . (have I:((mod.length:Int) != (aa.length:Int))=true:=by simpa using(fun h=>d U0));(have i:zK (u=false):=by show _=_;rw[<- g.o];exact decide_eq_false fun h=>d (by rw[h.2.2]));clear n q d;go_wp2;go_ret;rw[i.o];exact⟨rfl,f.o.below⟩
   . have J:=bne_iff_ne.2 q;(have i:zK (u=false):=by show _=_;rw[<- g.o];exact decide_eq_false fun h=>q h.2.1);clear n q;go_wp2;go_ret;rw[i.o];exact⟨rfl,f.o.below⟩
 . have K:=bne_iff_ne.2 n;(have i:zK (u=false):=by show _=_;rw[<- g.o];exact decide_eq_false fun h=>n h.1);clear n;go_wp2;go_ret;rw[i.o];exact⟨rfl,f.o.below⟩
theorem dsame_c(p m S R:Int)(mod Q:LI)(A U:OA)(c Z:Nat)(N X:Int)(zs T:List LI)(G V:OA)(g g':Nat)(w:Wo)(hA:zI w A mod)(aa:zI w U Q)(hl:mod.length<=9223372036854775807)(hG:zR w G zs)(ab:zR w V T)(ac:zs.length<=9223372036854775807)(hr:∀ k,k<zs.length->(zs.getD k []).length<=9223372036854775807):
 zC 32 #[C8 p m A mod.length c N G zs.length g,C8 S R U Q.length Z X V T.length g'] w fun e w'=>∃b,e=.returned (.bool b)/\zB w w'/\(b=true->p=S/\m=R/\mod=Q/\N=X/\zs=T):=by
 have f:=zH (tb_new w (C2 p m A mod.length c N G zs.length g) (C2 S R U Q.length Z X V T.length g') 32);have B:=zH hA;have t:=zH aa;have C:=zH hG;have x:=zH ab;have E:=zH hr;clear hA aa hG ab hr;go_enter func32,ntmps32;go_upto_region 1 with fail;generalize (w.alloc (C4 p m A mod.length c N G zs.length g)).alloc (C4 S R U Q.length Z X V T.length g')=y at *;have q:zK (y.rangeAt w.heap.size 0 (C5 p m A mod.length c)):=f.o.sub 0 _ (fun j hj=>by rcases j with _|_|_|j<;>first|rfl|(simp at hj;omega));have r:zK (y.rangeAt (w.heap.size+1) 0 (C5 S R U Q.length Z)):=f.o.sub1 0 _ (fun j hj=>by rcases j with _|_|_|j<;>first|rfl|(simp at hj;omega));have z:=zH (psame_c p m S R mod Q A U c Z y ((B.o.keep f.o.below).more f.o.below.size) ((t.o.keep f.o.below).more f.o.below.size) hl);have i:zK (decide (p=S/\m=R/\mod=Q)=true->p=S/\m=R/\mod=Q):=fun h=>of_decide_eq_true h;generalize decide (p=S/\m=R/\mod=Q)=J at *
 go_wp2_with (first
  |(refine wpList_load_mid rfl 29 (.tmp 5) rfl w.heap.size 0 rfl (C5 p m A mod.length c) _ q.o underlying29 rfl fieldSize ?_)
  |(refine wpList_load_mid rfl 29 (.tmp 7) rfl (w.heap.size+1) 0 rfl (C5 S R U Q.length Z) _ r.o underlying29 rfl fieldSize ?_))
 refine z.o.mono ?_;rintro e l ⟨rfl,hb1⟩;have d:=zH (f.o.grow hb1);clear hb1 z f q r;have H:l.cell? (zA w.heap.size 3)=some (Y N):=d.o.cell rfl;have I:l.cell? (zA w.heap.size 4)=some (zL G zs.length g):=d.o.cell rfl;have K:l.cell? (zA (w.heap.size+1) 3)=some (Y X):=d.o.cell1 rfl;have L:l.cell? (zA (w.heap.size+1) 4)=some (zL V T.length g'):=d.o.cell1 rfl;cases J
 . go_wp2;go_ret;exact⟨_,rfl,d.o.below,fun h=>by cases h⟩
 . by_cases s : N = X
   . have M:=beq_iff_eq.2 s;have n:=zH (sequalf_c zs T G V g g' l ((C.o.keep d.o.below).more d.o.below.size) ((x.o.keep d.o.below).more d.o.below.size) ac E.o);have v:zK (decide (zs=T)=true->zs=T):=fun h=>of_decide_eq_true h;have D:=zH s;clear s;generalize decide (zs=T)=O at *;go_wp2_with fail;refine n.o.mono ?_;rintro e P ⟨rfl,nq,rfl⟩;have u:=zH (d.o.below.trans ((qaB (Below.refl l.heap.size l) nq).mono d.o.below.size));clear n H I K L;go_wp2;go_ret;exact⟨_,rfl,u.o,fun h=>⟨(i.o U2).1,(i.o U2).2.1,(i.o U2).2.2,D.o,v.o h⟩⟩
   . have M:=beq_false_of_ne s;go_wp2;go_ret;exact⟨_,rfl,d.o.below,fun h=>by cases h⟩
end Go.Proofs.YtocbdafcolbfeaaGreat
namespace Go.Proofs.YtocbdafcolbfeaaGreat
open Go.RowKit Pln
structure FormIs (d:StD):Prop where
 field:fieldOK d.p d.m d.mod=true
 n1:1<=d.n
 n2:d.n<=64
 rows:nzs (natR d.gen)=d.gen
 grid:Grid (d.p.toNat^d.m.toNat) (natR d.gen).length d.n.toNat (natR d.gen)
 len:d.gen.length<=256
 low1:1<=d.low
 low2:d.low<=d.n+1
theorem form_is{d:StD}(h:formZ d=0):FormIs d:=by
 unfold formZ at h;split at h
 . rename_i hz;exact absurd h hz
 . rename_i hz;have g:=Classical.byContradiction hz;obtain ⟨i,b,c⟩:=codeZ_n g;have j:1<=d.n/\d.n<=64:=by
    unfold lengthZ at b;split at b
    . cases b
    . omega
   have f:errC d.p d.m d.mod d.n d.gen=0:=by
    unfold spZ at c;split at c
    . rename_i he;exact absurd c he
    . rename_i he;exact Classical.byContradiction he
   unfold errC at f;rw[if_pos i] at f;obtain⟨k,l,q,r,o⟩:=check_grid f;split at h
   . cases h
   . rename_i hl;exact⟨i,j.1,j.2,k,l,o,U0,U0⟩
end Go.Proofs.YtocbdafcolbfeaaGreat
namespace Go.Proofs.YtocbdafcolbfeaaGreat
open Go.RowKit Pln Tryz
theorem premises_1(w:Wo):zC 16 #[Y 1] w fun e w'=>e=.returned (Y 0)/\w=w':=by go_enter func16,ntmps16;go_wp2;go_ret;exact⟨rfl,rfl⟩
theorem premises_15(w:Wo):zC 16 #[Y 15] w fun e w'=>e=.returned (Y 0)/\w=w':=by go_enter func16,ntmps16;go_wp2;go_ret;exact⟨rfl,rfl⟩
theorem infoStep:(prog.info? 40).map (fun i=>(i.zero,i.size,i.bytes))=some (some (.agg #[Y 0,Y 0,Y 0,zL none 0 0,Y 0,zL none 0 0,Y 0,zL none 0 0,zL none 0 0,Y 0,Y 0,zL none 0 0,Y 0,Y 0,Y 0,Y 0,Y 0,zL none 0 0,zL none 0 0,zL none 0 0,zL none 0 0,Y 0,zL none 0 0]),23,344):=U1
theorem wpList_appD{P:Program}{ops:Array Oper}{rest:List Oper}{o:Oper}{a:Act}{w:Wo}{Q:Exit->Act->Wo->Prop}(b:o.guard=none)(s x:Operand)(t:TypeId)(c:o.op=.call { callee:=.builtin .append,args:=#[s,x],argTypes:=#[t,t] }){v1 v2 v:Value}{w':Wo}(f:a.eval s=v1)(g:a.eval x=v2)(d:(Builtin.append_ #[t,t] o.type #[v1,v2]).run P w=.ok v w')(h:wpList P ops Q rest (a.put o.dst v) w'):wpList P ops Q (o :: rest) a w:=
 wpList_plain b fun K hK=>by
  unfold Oper.wp execOp
  simp only[c,resolve,invoke,builtin,Sem.run_bind,Sem.run_pure,Result.andThen_ok,List.map_toArray,List.map_cons,List.map_nil,f,g,d]
  exact hK _ _ h
theorem cells23:∀{cp:List Value},cp.length=23->∃x0 x1 x2 x3 x4 x5 x6 x7 x8 x9 x10 x11 x12 x13 x14 x15 x16 x17 x18 x19 x20 x21 x22:Value,cp=[x0,x1,x2,x3,x4,x5,x6,x7,x8,x9,x10,x11,x12,x13,x14,x15,x16,x17,x18,x19,x20,x21,x22]
 |[x0,x1,x2,x3,x4,x5,x6,x7,x8,x9,x10,x11,x12,x13,x14,x15,x16,x17,x18,x19,x20,x21,x22],_=>⟨x0,x1,x2,x3,x4,x5,x6,x7,x8,x9,x10,x11,x12,x13,x14,x15,x16,x17,x18,x19,x20,x21,x22,rfl⟩
end Go.Proofs.YtocbdafcolbfeaaGreat
namespace Go.Proofs.YtocbdafcolbfeaaGreat
open Pln
namespace Al
structure Fld (q:Nat) (O:Ops):Prop where
 q1:1<q
 addL:∀x y,x<q->y<q->O.add x y<q
 mulL:∀x y,x<q->y<q->O.mul x y<q
 negL:∀x,x<q->O.neg x<q
 invL:∀x,x<q->x≠0->O.inv x<q
 addC:∀x y,x<q->y<q->O.add x y=O.add y x
 addA:∀x y z,x<q->y<q->z<q->O.add (O.add x y) z=O.add x (O.add y z)
 addZ:∀x,x<q->O.add 0 x=x
 addN:∀x,x<q->O.add x (O.neg x)=0
 mulC:∀x y,x<q->y<q->O.mul x y=O.mul y x
 mulA:∀x y z,x<q->y<q->z<q->O.mul (O.mul x y) z=O.mul x (O.mul y z)
 mulU:∀x,x<q->O.mul 1 x=x
 mulZ:∀x,x<q->O.mul 0 x=0
 dist:∀x y z,x<q->y<q->z<q->O.mul x (O.add y z)=O.add (O.mul x y) (O.mul x z)
 inv:∀x,x<q->x≠0->O.mul x (O.inv x)=1
theorem addD_s(p k x y:Nat):addD p (k+1) x y=(x % p+y % p) % p+p*addD p k (x / p) (y / p):=rfl
theorem negD_s(p k x:Nat):negD p (k+1) x=(p-x % p) % p+p*negD p k (x / p):=rfl
theorem addD_mod{p:Nat}(_:0<p)(k x y:Nat):addD p (k+1) x y % p=(x+y) % p:=by rw[addD_s,Nat.add_mul_mod_self_left,Nat.mod_mod,<- Nat.add_mod]
theorem addD_div{p:Nat}(b:0<p)(k x y:Nat):addD p (k+1) x y / p=addD p k (x / p) (y / p):=by rw[addD_s,Nat.add_mul_div_left _ _ b,Nat.div_eq_of_lt (Nat.mod_lt _ b),Nat.zero_add]
theorem addD_comm(p:Nat):∀ k x y,addD p k x y=addD p k y x
 |0,_,_=>rfl
 |k + 1,x,y=>by
   rw[addD_s,addD_s,addD_comm p k,Nat.add_comm (x % p)]
theorem addD_assoc{p:Nat}(b:0<p):∀ k x y z,addD p k (addD p k x y) z=addD p k x (addD p k y z)
 |0,_,_,_=>rfl
 |k + 1,x,y,z=>by
   show(addD p (k+1) x y % p+z % p) % p+p*addD p k (addD p (k+1) x y / p) (z / p)=(x % p+addD p (k+1) y z % p) % p+p*addD p k (x / p) (addD p (k+1) y z / p)
   rw[addD_mod b,addD_div b,addD_mod b,addD_div b,addD_assoc b k,<- Nat.add_mod,<- Nat.add_mod,Nat.add_assoc]
theorem addD_id{p:Nat}(b:0<p):∀ k x,x<p ^ k->addD p k 0 x=x
 |0,x,h=>by
   simp at h
   subst h
   rfl
 |k + 1,x,h=>by
   have h1:x / p<p^k:=by rw[Nat.div_lt_iff_lt_mul b];rwa [Nat.pow_succ] at h
   rw[addD_s,Nat.zero_mod,Nat.zero_add,Nat.mod_mod,Nat.zero_div,addD_id b k _ h1]
   exact Nat.mod_add_div x p
theorem addD_neg{p:Nat}(f:0<p):∀ k x,addD p k x (negD p k x)=0
 |0,_=>rfl
 | k + 1,x => by
   have h1:negD p (k+1) x % p=(p-x % p) % p:=by
    rw[negD_s,Nat.add_mul_mod_self_left,Nat.mod_mod]
   have b:negD p (k+1) x / p=negD p k (x / p):=by
    rw[negD_s,Nat.add_mul_div_left _ _ f,Nat.div_eq_of_lt (Nat.mod_lt _ f),Nat.zero_add]
   have d:x % p<p:=Nat.mod_lt _ f
   show(x % p+negD p (k+1) x % p) % p+p*addD p k (x / p) (negD p (k+1) x / p)=0
   rw[h1,b,addD_neg f k]
   have c:(x % p+(p-x % p) % p) % p=0:=by
    rw[Nat.add_mod_mod,show x % p+(p-x % p)=p by omega,Nat.mod_self]
   rw[c]
   rfl
def zw(p:Nat)(a b:LN):LN:=List.zipWith (fun x y=>(x+y) % p) a b
theorem zw_dig{p m:Nat}(h:0<p){a b:LN}(f:a.length=m)(g:b.length=m):Dig p m (zw p a b):=by refine⟨by simp[zw,f,g],fun d hd=>?_⟩;unfold zw at hd;obtain⟨i,c,rfl⟩:=List.mem_iff_getElem.1 hd;rw[List.getElem_zipWith];exact Nat.mod_lt _ h
theorem zw_F{p m:Nat}{a b:LN}(d:a.length=m)(f:b.length=m):Cg p (F (zw p a b)) (fun j=>1*F a j+F b j):=by
 refine Cg.mk fun j=>?_;unfold F zw;by_cases c:j<m
 . (have e:(List.zipWith (fun x y=>(x+y) % p) a b).getD j 0=(a.getD j 0+b.getD j 0) % p:=by simp[List.getD,List.getElem?_zipWith,List.getElem?_eq_getElem (show j<a.length by omega),List.getElem?_eq_getElem (show j<b.length by omega)]);rw[e];simp
 . rw[qaZ so,qaZ U0,qaZ U0];simp
theorem mulL_dist{p m:Nat}(j:0<p)(md a b c:LN)(k:a.length=m)(l:b.length=m)(n:c.length=m):Pln.mulL p m md a (zw p b c)=zw p (Pln.mulL p m md a b) (Pln.mulL p m md a c):=by have d:=qaW (m:=m) j md a b;have f:=qaW (m:=m) j md a c;have g:=qaW (m:=m) j md a (zw p b c);have i:=zw_dig j l n;have h:=zw_dig j d.1 f.1;refine F_inj (g.1.trans h.1.symm) g.2 h.2 ?_;refine(qbJ j md a _ k i.1).trans (Cg.trans ?_ (zw_F d.1 f.1).symm);refine(mz_cg (Cg.refl _ _) (zw_F l n)).trans (Cg.trans (Cg.of_eq ?_) (Cg.lin 1 (qbJ j md a b k l).symm (qbJ j md a c k n).symm));unfold mz;exact qdZ m (F md) 1 (F b) (F c) (F a) m
theorem digs_add{p:Nat}(b:0<p)(m x y:Nat):digs p m (addD p m x y)=zw p (digs p m x) (digs p m y):=by have h:=zw_dig b (qaK p m x) (qaK p m y);rw[addD_val];have:=qcR b _ h.2;rw[h.1] at this;exact this
theorem val_zw{p:Nat}(h:0<p){m:Nat}{a b:LN}(f:Dig p m a)(g:Dig p m b):val p (zw p a b)=addD p m (val p a) (val p b):=by have c:=qcR h _ f.2;have d:=qcR h _ g.2;rw[f.1] at c;rw[g.1] at d;rw[addD_val,c,d];rfl
theorem mulM_dist{p m:Nat}(b:0<p)(md:LN)(x y z:Nat):mulM p m md x (addD p m y z)=addD p m (mulM p m md x y) (mulM p m md x z):=by unfold mulM;rw[digs_add b,mulL_dist b md _ _ _ (qaK p m x) (qaK p m y) (qaK p m z)];exact val_zw b (qaW b md _ _) (qaW b md _ _)
theorem fld_of{p m:Nat}{md l:LN}(h:FT p m md l):Fld (p^m) (opsT p m l):=by
 have d:0<p:=by have:=h.small.p1;omega
 have H:=qaV (p:=p) (m:=m) (by have:=h.small.p1;omega) h.small.m1 md;have E:∀x y,x<p^m->y<p^m->(opsT p m l).mul x y=mulM p m md x y:=fun x y b c=>h.tab.mul_eq H b c;have M:∀x y,x<p^m->y<p^m->(opsT p m l).mul x y<p^m:=fun x y b c=>mulT_lt h b c;have A:∀x y,(opsT p m l).add x y<p^m:=fun x y=>qdR d m x y;refine⟨H.q1,fun x y _ _=>A x y,M,fun x _=>qdP d m x,fun x b g=>(h.tab.inv H g b).2.1,fun x y _ _=>addD_comm p m x y,fun x y z _ _ _=>addD_assoc d m x y z,fun x b=>addD_id d m x b,fun x _=>addD_neg d m x,?_,?_,?_,?_,?_,?_⟩
 . intro x y b c;rw[E x y b c,E y x c b];exact H.comm x y
 . intro x y z b c f;rw[E _ z (M x y b c) f,E x y b c,E x _ b (M y z c f),E y z c f];exact H.assoc x y z
 . intro x b;rw[E 1 x H.q1 b];exact H.one x b
 . intro x b;rw[E 0 x (by have:=H.q1;omega) b];exact H.zero x
 . intro x y z b c f;rw[E x _ b (A y z),E x y b c,E x z b f];exact mulM_dist d md x y z
 . intro x b g;exact(E x _ b (h.tab.inv H g b).2.1).trans (h.tab.inv H g b).1
theorem addD_small{p:Nat}(_:0<p){m:Nat}(g:1<=m){a b:Nat}(c:a<p)(d:b<p):addD p m a b=(a+b) % p:=by obtain⟨k,rfl⟩:∃k,m=k+1:=⟨m-1,U0⟩;rw[addD_s,Nat.mod_eq_of_lt c,Nat.mod_eq_of_lt d,Nat.div_eq_of_lt c,Nat.div_eq_of_lt d,addD_zero];rfl
end Al
end Go.Proofs.YtocbdafcolbfeaaGreat
namespace Go.Proofs.YtocbdafcolbfeaaGreat
open Go.RowKit Pln
def GFM(w:Wo)(B gb p m:Nat)(mod:LI)(l lg:LN):Prop:=
 gb<B/\∃(A3:OA)(c3 ge ce gl cl:Nat),w.heap[gb]?=some (D3 p m A3 mod.length c3 ((p^m:Nat):Int) ge l.length ce gl lg.length cl)/\
  IntsAt w B A3 mod/\IntsAt w B (zO ge) (nz l)/\IntsAt w B (zO gl) (nz lg)
theorem GFM.gf{w:Wo}{B o p m:Nat}{mod:LI}{l q:LN}(h:GFM w B o p m mod l q):GFAt w B o p m l q:=by obtain⟨i,b,c,ge,d,g,f,j,_,k,n⟩:=h;exact⟨i,b,_,c,ge,d,g,f,j,k,n⟩
theorem GFM.keep{w w':Wo}{B r p m:Nat}{mod:LI}{l s:LN}(h:GFM w B r p m mod l s)(q:Below B w w'):GFM w' B r p m mod l s:=by obtain⟨b,c,d,ge,f,i,g,j,o,k,n⟩:=h;exact⟨b,c,d,ge,f,i,g,(q.block r b).trans j,o.keep q,k.keep q,n.keep q⟩
theorem GFM.more{w:Wo}{B B' r p m:Nat}{mod:LI}{l s:LN}(h:GFM w B r p m mod l s)(q:B<=B'):GFM w B' r p m mod l s:=by obtain⟨o,b,c,ge,d,g,f,i,n,j,k⟩:=h;exact⟨U0,b,c,ge,d,g,f,i,n.more q,j.more q,k.more q⟩
theorem fnew_any(p m:Int)(mod:LI)(A:OA)(c:Nat)(w:Wo)(d:zI w A mod)(b:fieldOK p m mod=true):
 zC 72 #[C7 p m A mod.length c] w fun e w'=>(∃gb,e=.returned (.tuple (D4 gb))/\w.heap.size<=gb/\
  GFM w' w'.heap.size gb p.toNat m.toNat mod (genM (mulM p.toNat m.toNat (mdOf m mod)) (p.toNat^m.toNat)) (logL (genM (mulM p.toNat m.toNat (mdOf m mod)) (p.toNat^m.toNat)) (p.toNat^m.toNat)))/\zB w w':=
 (fnew_fm p m mod A c w d b).mono fun _ _ ⟨⟨gb,he,h0,h1,A3,c3,ge,ce,gl,cl,_,_,_,_,h2,h3⟩,hb⟩=>⟨⟨gb,he,h0,h1,A3,c3,ge,ce,gl,cl,h2,h3⟩,hb⟩
structure BoxK (w:Wo) (a r:List Value) (W:Wo):Prop where
 below:zB w W
 size:w.heap.size+1<W.heap.size
 k0:W.heap[w.heap.size]?=some (.cells a.toArray 32 (0,0))
 k1:W.heap[w.heap.size+1]?=some (.cells r.toArray 32 (0,0))
section
variable {w:Wo} {a r:List Value} {W W':Wo}
theorem BoxK.keep(h:BoxK w a r W)(c:zB W W'):BoxK w a r W':=by have b:=h.size;exact⟨h.below.trans (c.mono U0),Nat.lt_of_lt_of_le b c.size,(c.block _ U0).trans h.k0,(c.block _ U0).trans h.k1⟩
theorem BoxK.set(h:BoxK w a r W)(b:List Value):BoxK w a b (W.setRow (w.heap.size+1) b.toArray):=
 ⟨qaR h.below U0 _,by simpa using h.size,(setRow_other W _ _ _ U0).trans h.k0,setRow_same W _ _ _ _ h.k1⟩
theorem boxK(w:Wo)(a r:Array Value):BoxK w a.toList r.toList ((w.alloc (.cells a 32)).alloc (.cells r 32)):=
 ⟨(zV.alloc zn _).alloc U2 _,U2,(heap_alloc_old _ _ U2).trans (heap_alloc_new _ _),alloc_at U2 _⟩
end
def RelSh(w1:Wo)(N:Nat)(SM:LL)(v7 v8:Value)(wx:Wo):Prop:=
 ∃(b:Nat)(A1:OA)(c1:Nat),v7=zP b/\v8=Y 0/\wx.heap[b]?=some (.cells (Cn N A1 SM.length c1).toArray 54 (0,0))/\zR wx A1 (nzs SM)/\zB w1 wx
structure GS (w:Wo) (b B g0 c0:Nat) (n:Int) (rows:LL) (k:Nat) (v:Value) (bs:List (Nat × Nat)) (row:LN) (W:Wo):Prop where
 below:zB w W
 lo:w.heap.size<=b/\w.heap.size<=g0/\b<B/\g0<B/\b≠g0/\B<=W.heap.size
 box:W.heap[b]?=some (.cells [Y n,v].toArray 54 (0,0))
 grid:LGrid W B v rows bs k
 run:Row W w.heap.size g0 c0 (nz row)
structure BoxG (w:Wo) (a r:List Value) (W:Wo):Prop where
 below:zB w W
 size:w.heap.size+1<W.heap.size
 k0:W.heap[w.heap.size]?=some (.cells a.toArray 87 (0,0))
 k1:W.heap[w.heap.size+1]?=some (.cells r.toArray 32 (0,0))
end Go.Proofs.YtocbdafcolbfeaaGreat
namespace Go.Proofs.YtocbdafcolbfeaaGreat
open Go.RowKit Pln Tryz
def sumO(O:Ops):Nat->LN->Nat
 |s,[]=>s
 |s,x :: r=>sumO O (O.add s x) r
theorem sumO_step{O:Ops}{u:LN}{k s r:Nat}(c:k<u.length)(h:sumO O s (u.drop k)=r):sumO O (O.add s (u.getD k 0)) (u.drop (k+1))=r:=by
 rw[List.drop_eq_getElem_cons c] at h;have b:u.getD k 0=u[k]:=by simp[List.getD,c]
 rw[b];exact h
theorem sumO_lt{O:Ops}{q:Nat}(h:∀x y,x<q->y<q->O.add x y<q):∀(u:LN)(s:Nat),s<q->(∀x∈u,x<q)->sumO O s u<q
 |[],_,hs,_=>hs
 |x :: r,s,hs,hu=>sumO_lt h r _ (h s x hs (hu x List.mem_cons_self)) fun y hy=>hu y (List.mem_cons_of_mem _ hy)
def RelSmO(w:Wo)(q:Nat)(O:Ops)(u:LN)(v5 v10:Value)(wr:Wo):Prop:=
 ∃k s n:Nat,k<=u.length/\v5=Y s/\v10=Y k/\s<q/\sumO O s (u.drop k)=sumO O 0 u/\wr=w.drewN n
theorem sum_c(P p m B:Nat)(md l u:LN)(Q:OA)(cu:Nat)(w:Wo)(hF:FT p m md l)(R:GFAt w B P p m l (logL l (p ^ m)))(T:∀ x∈u,x<p ^ m)(S:IntsAt w B Q (nz u))(U:u.length<=1000000):
 zC 133 #[zP P,zL Q u.length cu] w (Quiet (Y ((sumO (opsT p m l) 0 u:Nat):Int)) w):=by
 have z:0<p^m:=by have:=hF.small.p1;exact Nat.pow_pos U0
 have C:zK (∀x y n,x<p^m->y<p^m->zC 143 (Cf P x y) (w.drewN n) (Quiet (Y (((opsT p m l).add x y:Nat):Int)) (w.drewN n))):=
  fun x y n g hy=>add_c x y P p m B l _ (w.drewN n) hF.small R g hy
 have i:zK (∀x y,x<p^m->y<p^m->(opsT p m l).add x y<p^m):=fun x y _ _=>qdR (by have:=hF.small.p1;omega) m x y;have t:zK (∀k,k<u.length->u.getD k 0<p^m):=fun k v=>by
  have:u.getD k 0=u[k]:=by simp[List.getD,v]
  rw[this];exact T _ (List.getElem_mem v)
 have D:=zH S;clear hF R T S;generalize opsT p m l=O at *;generalize p^m=q at *;go_enter func133,ntmps133;go_wp2;go_loopw [5,10] (fun v5 v10 wr=>RelSmO w q O u v5 v10 wr) (fun _ v10 _=>u.length-(intOf v10).toNat);case atStart=>exact⟨0,0,0,U0,rfl,rfl,z,rfl,rfl⟩
 case round =>
  obtain⟨k,s,n,v,rfl,rfl,E,c,rfl⟩:=hrel;have b:=zH c;clear c;by_cases f:k<u.length
  . obtain⟨I,L,rfl,J,d⟩:=D.o.at_ (k:=k) (by rw[qaA];exact f);rw[qaC] at d;have r:=zH (sumO_step f b.o);have g:=t.o k f;have M:(0:Int)<=(k:Int):=U0;have N:(k:Int)<(u.length:Int):=U0;generalize u.getD k 0=x at *;have A:=i.o s _ E g;have K:(w.drewN n).cell? (zA I (L+k))=some (Y x):=d;have h:=zH (C.o s x n E g);clear d C D;go_wp2_with fail;go_fit h.o;rintro e w' ⟨rfl,j,rfl⟩;rw[World.drewN_drewN];go_wp2;go_roundw;case rel=>exact⟨k+1,_,_,U0,rfl,gn,A,r.o,rfl⟩
    case measure=>simp[intOf];omega
  . (obtain rfl:k=u.length:=by omega);(have H:zK (sumO O 0 u=s):=by show _=_;have:=b.o;rw[List.drop_length] at this;rw[<- this];rfl);go_wp2;go_ret;exact⟨qaG (by rw[H.o]),n,rfl⟩
end Go.Proofs.YtocbdafcolbfeaaGreat
