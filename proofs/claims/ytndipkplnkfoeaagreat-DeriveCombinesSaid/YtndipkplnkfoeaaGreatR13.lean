/- Parts of the proof. -/
import Derived.Test.YtndipkplnkfoeaaGreatR07
import Derived.Test.YtndipkplnkfoeaaGreatRows
import Derived.Deep.Slices
import Derived.ProofKit
import Derived.OpenShut
import Derived.Deep.DeepHandedRow
import Derived.Test.YtndipkplnkfoeaaGreatR11
set_option maxRecDepth 100000
set_option maxHeartbeats 8000000
namespace Go.Proofs.YtndipkplnkfoeaaGreat
open Go.RowKit Pln
theorem ints_of_own{w:World}{B n k:Nat}{i:Option Addr}{l:List Nat}(h:w.ownsRow B 3 1 (zL i n k) n ((nz l).map (Value.int .i64)))(m:l.length=n):IntsUp w B i (nz l):=fun hz=>by
 rw[qaA] at hz
 obtain⟨d,f,e,g⟩:=own_slice' h
 injection e with e1 e2 e3
 subst e1
 obtain⟨R,rfl⟩:=g U0
 have b:=World.ownsRow.lt h R rfl
 refine⟨R,0,rfl,b.1,b.2,fun j hj=>?_⟩
 rw[qaA] at hj
 rw[Nat.zero_add,World.ownsRow.cellAt h j U0]
 have c:j<(nz l).length:=by rw[qaA];exact hj
 simp[List.getD,c]
theorem elGo_piv_lt(O:Ops)(rows:List (List Nat)):∀ c,∀ x∈(elGo O rows c).piv,x<c
 |0,x,hx=>by simp[elGo] at hx
 | c + 1,x,hx => by
   have ih:=elGo_piv_lt O rows c
   unfold elGo elStep at hx
   split at hx
   . split at hx
     . have:=ih x hx;omega
     . rcases List.mem_append.1 hx with h | h
       . have:=ih x h;omega
       . have : x = c:=by simpa using h
         omega
   . have:=ih x hx;omega
theorem canon2_c(H I p m C:Nat)(md l:List Nat)(rows:List (List Nat))(A:Option Addr)(c:Nat)(w:World)(hF:FT p m md l)(K:GFAt w I H p m l (logL l (p^m)))(E:I<=w.heap.size)(J:RowsAt w w.heap.size A (nzs rows))(D:Grid (p^m) rows.length C rows)(N:1<=C)(L:C<=256)(M:rows.length<=256):
 zC 194 #[zP H,zL A rows.length c,Y C] w fun e w'=>(∃(R:Nat)(VA:Option Addr)(ck:Nat),e=.returned (.tuple #[zS R (canonM (opsT p m l) rows C).length (canonM (opsT p m l) rows C).length,zL VA (canonM (opsT p m l) rows C).length ck])/\RowsUp w' w.heap.size (zO R) (nzs (canonM (opsT p m l) rows C))/\IntsUp w' w.heap.size VA (nz (elGo (opsT p m l) rows C).piv))/\Below w.heap.size w w':=by
 have g:=zH (clone_c rows A c w J (fun r hr=>by have:=(D.2 r hr).1;omega) U0)
 have h:Hid (∀(bs:List (Nat × Nat))(b:World),Below w.heap.size w b->GridAt b w.heap.size w.heap.size rows.length rows bs->zC 232 #[zP H,zS w.heap.size rows.length rows.length,Y C,zL none 0 0] b (ElPost b w.heap.size w.heap.size rows.length p m l rows C)):=
  fun bs b hb hg=>eliminate_c w.heap.size w.heap.size rows.length H I p m C md l rows bs b hF (K.keep (hb.mono E)) E hb.size hg D M L
 have n:=zH (canonM_len (opsT p m l) rows C);have f:=zH (elGo_piv (O:=opsT p m l) rows C);have o:=zH (elGo_len (O:=opsT p m l) rows C);have j:=zH (canonM_getD (opsT p m l) rows C);clear hF K J D;generalize canonM (opsT p m l) rows C=x at *;go_enter Tryz.func194,Tryz.ntmps194;go_wp2_with fail;(with_reducible refine g.out.mono ?_);rintro e b ⟨rfl,⟨bs,hg⟩,hb⟩;have z:=zH hg;have q:=zH hb;clear hg hb;go_wp2_with fail;(with_reducible refine(h.out bs b q.out z.out).mono ?_);rintro e y ⟨⟨vp,d,bs2,rfl,hown,hgrid⟩,hb2⟩;obtain⟨VA,ck,rfl⟩:=own_slice hown;have u:Hid (IntsUp y w.heap.size VA (nz (elGo (opsT p m l) rows C).piv)):=(ints_of_own hown rfl).lower (by have:=q.out.size;omega);have k:=zH hgrid;have s:=zH (q.out.trans hb2);clear hown hgrid hb2;have B:Hid (RowsUp y w.heap.size (zO w.heap.size) (nzs x)):=k.out.rowsAt x (by rw[n.out,o.out];exact f.out.2) (fun i hi=>j.out i (by rw[<- n.out];exact hi));have v:(elGo (opsT p m l) rows C).piv.length<=rows.length:=f.out.2;rw[<- n.out] at v;have t:=zH n.out.symm;clear n f o j g h k;rw[t.out];go_wp2_with fail;go_ret2;exact⟨⟨_,_,_,rfl,B.out,u.out⟩,s.out⟩
def kerK(O:Ops)(rows:List (List Nat))(piv:List Nat)(cols c:Nat):Nat->List Nat
 |0=>(List.replicate cols 0).set c 1
 |i+1=>(kerK O rows piv cols c i).set (piv.getD i 0) (O.neg ((rows.getD i []).getD c 0))
theorem kerK_len(O:Ops)(rows:List (List Nat))(piv:List Nat)(b c:Nat):∀i,(kerK O rows piv b c i).length=b
 |0=>by simp[kerK]
 |i+1=>by simp[kerK,kerK_len O rows piv b c i]
theorem kerK_lt{q n b:Nat}{O:Ops}(E:OpsEq q O O)(g:1<q){rows:List (List Nat)}(d:Grid q n b rows){piv:List Nat}{c:Nat}(f:c<b):∀ i,i<=n->∀ x∈kerK O rows piv b c i,x<q
 |0,_,x,hx=>by
   unfold kerK at hx
   rcases List.mem_or_eq_of_mem_set hx with h|h
   . simp at h;omega
   . omega
 | i + 1,hi,x,hx => by
   unfold kerK at hx
   rcases List.mem_or_eq_of_mem_set hx with h|h
   . exact kerK_lt E g d f i U0 x h
   . rw [h]
     have hr:=d.row (i:=i) U0
     have:(rows.getD i []).getD c 0=(rows.getD i [])[c]'(by rw[hr.1];exact f):=by
      have:∀(l:List Nat)(hj:c<l.length),l.getD c 0=l[c]:=fun l hj=>by simp[List.getD,hj]
      exact this _ _
     rw[this]
     exact(E.neg _ (hr.2 _ (List.getElem_mem _))).2
def freeC(piv:List Nat)(c:Nat):List Nat:=(List.range c).filter fun x=>!decide (x∈piv)
def kerRows(O:Ops)(rows:List (List Nat))(piv:List Nat)(cols:Nat):List (List Nat):=(freeC piv cols).map fun c=>kerK O rows piv cols c piv.length
theorem freeC_succ(piv:List Nat)(c:Nat):freeC piv (c+1)=freeC piv c++if c∈piv then[] else[c]:=by unfold freeC;rw[List.range_succ,List.filter_append];by_cases h:c∈piv<;>simp[h]
theorem freeC_le(piv:List Nat)(c:Nat):(freeC piv c).length<=c:=by unfold freeC;have:=List.length_filter_le (fun x=>!decide (x∈piv)) (List.range c);simpa using this
theorem freeC_at(piv:List Nat):∀ (cols c:Nat),c<cols->c∉piv->(freeC piv c).length<(freeC piv cols).length/\(freeC piv cols).getD (freeC piv c).length 0=c
 |0,c,h,_=>by omega
 | n + 1,c,h,hp => by
   rw[freeC_succ]
   by_cases hcn:c=n
   . subst hcn
     rw[if_neg hp]
     exact⟨U2,by simp[List.getD]⟩
   . obtain⟨i1,i2⟩:=freeC_at piv n c U0 hp
     refine⟨by rw[List.length_append];omega,?_⟩
     rw[show(freeC piv n++if n∈piv then[] else[n]).getD (freeC piv c).length 0=(freeC piv n).getD (freeC piv c).length 0 by simp only[List.getD,List.getElem?_append_left i1]]
     exact i2
theorem kerRows_len(O:Ops)(rows:List (List Nat))(piv:List Nat)(b:Nat):(kerRows O rows piv b).length=(freeC piv b).length:=by simp[kerRows]
theorem kerRows_at(O:Ops)(rows:List (List Nat))(piv:List Nat)(f c:Nat)(g:c<f)(h:c∉piv):(kerRows O rows piv f).getD (freeC piv c).length []=kerK O rows piv f c piv.length:=by
 obtain⟨b,d⟩:=freeC_at piv f c g h;have e:(freeC piv f)[(freeC piv c).length]?=some c:=by rw[List.getElem?_eq_getElem b];rw[List.getD,List.getElem?_eq_getElem b] at d;simpa using d
 simp[kerRows,List.getD,e]
theorem kerRows_grid{q n f:Nat}{O:Ops}(E:OpsEq q O O)(g:1<q){rows:List (List Nat)}{piv:List Nat}(h:Grid q n f rows)(i:piv.length=n):Grid q (kerRows O rows piv f).length f (kerRows O rows piv f):=by
 refine⟨rfl,fun r hr=>?_⟩;unfold kerRows at hr;obtain⟨c,d,rfl⟩:=List.mem_map.1 hr;have b:c<f:=by have:=(List.mem_filter.1 d).1;simpa using this
 exact⟨kerK_len _ _ _ _ _ _,kerK_lt E g h b _ U0⟩
def kerM(O:Ops)(rows:List (List Nat))(cols:Nat):List (List Nat):=canonM O (kerRows O (canonM O rows cols) (elGo O rows cols).piv cols) cols
def RelKer(w2:World)(piv:List Nat)(cols:Nat)(kr:List (List Nat))(v10 v37:Value)(wr:World):Prop:=
 ∃(c:Nat)(bs:List (Nat × Nat)),c<=cols/\v37=Y c/\LGrid wr (w2.heap.size) v10 kr bs (freeC piv c).length/\Below w2.heap.size w2 wr
def RelKi(w4:World)(O:Ops)(rows:List (List Nat))(piv:List Nat)(cols c:Nat)(v51:Value)(wr:World):Prop:=
 ∃i:Nat,i<=piv.length/\v51=Y i/\Row wr w4.heap.size w4.heap.size cols (nz (kerK O rows piv cols c i))/\Below w4.heap.size w4 wr
theorem canon_grid{q n g:Nat}{O:Ops}(E:OpsEq q O O){rows:List (List Nat)}(h:Grid q n g rows):Grid q (elGo O rows g).piv.length g (canonM O rows g):=by
 have d:=(qdT E h g (Nat.le_refl _)).2;have f:=(elGo_piv (O:=O) rows g).2;refine⟨canonM_len O rows g,fun r hr=>?_⟩;obtain⟨i,b,rfl⟩:=List.mem_iff_getElem.1 hr;have c:i<(elGo O rows g).piv.length:=by rw[canonM_len] at b;exact b
 have e:(canonM O rows g)[i]=(elGo O rows g).rows.getD i []:=by rw[<- canonM_getD O rows g i c];simp[List.getD,b]
 rw[e];exact d.row (i:=i) (by rw[h.1] at f;omega)
theorem mem_nz{x:Nat}{l:List Nat}:((x:Int)∈nz l) ↔ x∈l:=by
 unfold nz;constructor
 . intro h;obtain⟨y,b,e⟩:=List.mem_map.1 h;have:y=x:=U0;rwa [<- this]
 . intro h;exact List.mem_map.2 ⟨x,h,rfl⟩
theorem kernel_c(p m:Int)(mod:List Int)(Am:Option Addr)(cm:Nat)(cr:Nat)(rows:List (List Nat))(A:Option Addr)(c:Nat)(w:World)(hM:IntsAt w w.heap.size Am mod)(hl:mod.length<=9223372036854775807)(hA:RowsAt w w.heap.size A (nzs rows))(h1:1<=cr)(dr:errC p m mod cr (nzs rows)=0):
 zC 156 #[Ch p m Am mod.length cm,Cy cr A rows.length c] w (MatPost w cr (kerM (opsT p.toNat m.toNat (lOf p m mod)) rows cr)):=by
 obtain⟨al,hz,o,_,de,hn⟩:=errC_grid dr;rw[Int.toNat_natCast] at o;have hF:=field_ft al;have E:=qdA hF;have cx:1<p.toNat^m.toNat:=by have h1:=hF.small.p1;have h2:=hF.small.m1;exact Nat.one_lt_pow U0 U0
 obtain⟨i0,L,bq,bt,bu⟩:=qaF infoInt;obtain⟨c6,bg,X,Z,aa⟩:=qaF infoInts;have HI:=zH L;have ch:=zH bq;have cj:=zH bt;have b2:=zH bg;have bb:=zH X;have bc:=zH Z;have bd:=zH aa;have bv:=zH (show i0.bytes*cr<=281474976710656 by rw[bu];omega);have f:=zH (show cr<=maxLen by unfold maxLen;omega);have HX:=zH ((box3 w p m Am mod.length cm cr A rows.length c 54 (Dk)).keep ((Below.refl _ _).alloc (Nat.le_refl _) (Cp cr A rows.length c)));have az:Hid (((((w.alloc (Ce p m Am mod.length cm)).alloc (Cp cr A rows.length c)).alloc (Dj)).alloc (Cp cr A rows.length c)).heap[w.heap.size+1+1+1]?=some (Cp cr A rows.length c)):=alloc_at U2 _;have HM:=zH hM;have HA:=zH hA;have ac:=zH hF;have b1:=zH o;have av:=zH (canon_grid E o);have cd:Hid (∀i,i<(elGo (opsT p.toNat m.toNat (lOf p m mod)) rows cr).piv.length->(elGo (opsT p.toNat m.toNat (lOf p m mod)) rows cr).piv.getD i 0<cr):=fun i L=>by
  have:∀(l:List Nat)(hj:i<l.length),l.getD i 0=l[i]:=fun l hj=>by simp[List.getD,hj]
  rw[this _ L];exact elGo_piv_lt _ _ _ _ (List.getElem_mem _)
 have b6:=zH (kerRows_grid (piv:=(elGo (opsT p.toNat m.toNat (lOf p m mod)) rows cr).piv) E cx (canon_grid E o) rfl);have a3:=zH (kerRows_len (opsT p.toNat m.toNat (lOf p m mod)) (canonM (opsT p.toNat m.toNat (lOf p m mod)) rows cr) (elGo (opsT p.toNat m.toNat (lOf p m mod)) rows cr).piv cr);have b3:=zH (kerRows_at (opsT p.toNat m.toNat (lOf p m mod)) (canonM (opsT p.toNat m.toNat (lOf p m mod)) rows cr) (elGo (opsT p.toNat m.toNat (lOf p m mod)) rows cr).piv cr);have v:=zH (canonM_len (opsT p.toNat m.toNat (lOf p m mod)) rows cr);have b7:Hid (kerM (opsT p.toNat m.toNat (lOf p m mod)) rows cr=canonM (opsT p.toNat m.toNat (lOf p m mod)) (kerRows (opsT p.toNat m.toNat (lOf p m mod)) (canonM (opsT p.toNat m.toNat (lOf p m mod)) rows cr) (elGo (opsT p.toNat m.toNat (lOf p m mod)) rows cr).piv cr) cr):=rfl;have a8:=zH (elGo_piv (O:=opsT p.toNat m.toNat (lOf p m mod)) rows cr);have b0:Hid ((freeC (elGo (opsT p.toNat m.toNat (lOf p m mod)) rows cr).piv cr).length<=cr):=freeC_le _ _;clear hM hA L bq bt bu bg X Z aa hF E dr;generalize kerM (opsT p.toNat m.toNat (lOf p m mod)) rows cr=r at *;go_enter Tryz.func156,Tryz.ntmps156;go_wp2_with fail;generalize (((w.alloc (Ce p m Am mod.length cm)).alloc (Cp cr A rows.length c)).alloc (Dj)).alloc (Cp cr A rows.length c)=W0 at *;have bj:(nzs rows).length<=9223372036854775807:=by rw[nzs_len];omega
 have HC:=zH (open_c p m mod Am cm cr (nzs rows) A c (w.heap.size+1+1+1) 1 W0 ((HM.out.keep HX.out.below).more HX.out.below.size) hl ((HA.out.keep HX.out.below).more HX.out.below.size) bj (by rw[nzs_len];exact az.out));(with_reducible refine HC.out.mono ?_);rintro e w1 ⟨hb1,hcase⟩;have g:=zH (HX.out.keep hb1);have ao:=zH ((HA.out.keep g.out.below).more g.out.below.size);clear HX HM HA HC az hb1;clear W0;rcases hcase with⟨S,_⟩|⟨_,cz,_⟩|⟨_,_,gb,rfl,K⟩
 . rw[al] at S;cases S
 . exact absurd hz cz
 clear al hz;have HG:=zH K;have aq:=zH (canon2_c gb w1.heap.size p.toNat m.toNat cr (mdOf m mod) (lOf p m mod) rows A c w1 ac.out K (Nat.le_refl _) ao.out b1.out h1 U0 hn);have dj:=g.out.size;have dl:w.heap.size+1<w1.heap.size:=U0;have a0:w1.cell? (zA (w.heap.size+1) 0)=some (Y (cr:Int)):=cell_of_row _ _ 0 _ _ _ g.out.k1;have a1:w1.cell? (zA (w.heap.size+1) 1)=some (zL A rows.length c):=cell_of_row _ _ 1 _ _ _ g.out.k1;clear K ao;have a6:Hid (∀(B:Nat)(W:World)(x:Nat),GFAt W B gb p.toNat m.toNat (lOf p m mod) (logL (lOf p m mod) (p.toNat^m.toNat))->x<p.toNat^m.toNat->zC 132 (Db gb x) W (Quiet (Y (((opsT p.toNat m.toNat (lOf p m mod)).neg x:Nat):Int)) W)):=fun B W x hG hx=>neg_c x gb p.toNat m.toNat B _ _ W ac.out.small hG hx
 have ar:Hid (∀(W:World)(b:List (List Nat))(J:Option Addr)(co:Nat),GFAt W W.heap.size gb p.toNat m.toNat (lOf p m mod) (logL (lOf p m mod) (p.toNat^m.toNat))->RowsAt W W.heap.size J (nzs b)->Grid (p.toNat^m.toNat) b.length cr b->b.length<=256->zC 194 #[zP gb,zL J b.length co,Y (cr:Int)] W fun e w'=>(∃(R:Nat)(VA:Option Addr)(ck:Nat),e=.returned (.tuple #[zS R (canonM (opsT p.toNat m.toNat (lOf p m mod)) b cr).length (canonM (opsT p.toNat m.toNat (lOf p m mod)) b cr).length,zL VA (canonM (opsT p.toNat m.toNat (lOf p m mod)) b cr).length ck])/\RowsUp w' W.heap.size (zO R) (nzs (canonM (opsT p.toNat m.toNat (lOf p m mod)) b cr)))/\Below W.heap.size W w'):=fun W b J co hG hA o hn=>
  (canon2_c gb W.heap.size p.toNat m.toNat cr (mdOf m mod) (lOf p m mod) b J co W ac.out hG (Nat.le_refl _) hA o h1 U0 hn).mono fun e w' ⟨⟨R,VA,ck,h1,h2,_⟩,h3⟩=>⟨⟨R,VA,ck,h1,h2⟩,h3⟩
 generalize opsT p.toNat m.toNat (lOf p m mod)=O at *;generalize (elGo O rows cr).piv=piv at *;generalize canonM O rows cr=I at *;generalize bi:kerRows O I piv cr=b at *;have c9:=zH bi;clear bi;go_wp2_with fail;(with_reducible refine aq.out.mono ?_);rintro e H ⟨⟨R,VA,ck,rfl,hru,N⟩,hb2⟩;have af:=zH (g.out.keep hb2);have ce:=zH hru.rowsAt;have a9:=zH N.ints;have aw:=zH ((HG.out.keep hb2).more hb2.size);have dm:=hb2.size;have bm:w.heap.size+1<H.heap.size:=U0;clear g aq hru N HG a0 a1;have a0:H.cell? (zA (w.heap.size+1) 0)=some (Y (cr:Int)):=cell_of_row _ _ 0 _ _ _ af.out.k1;have a4:Hid (RelKer H piv cr b (zL none 0 0) (Y ((0:Nat):Int)) H):=⟨0,[],U0,rfl,⟨rfl,Nat.zero_le _,World.ownsRow_nil _ _ _ _,fun i L=>by simp[freeC] at L,fun i L=>by simp[freeC] at L⟩,Below.refl _ _⟩;clear hb2;go_wp2_with fail;go_loopw [10,37] (fun v10 v37 wr=>RelKer H piv cr b v10 v37 wr) (fun _ v37 _=>cr-(intOf v37).toNat);case atStart=>exact a4.out
 case round =>
  obtain⟨t,bs,ht,rfl,ak,hb⟩:=hrel;obtain⟨J,co,rfl,_⟩:=own_slice' ak.out;have z:=zH ak;have h:=zH hb;have q:=hb.size;clear ak hb a4;by_cases C:t<cr
  . (have y : Hid (zC 77 #[zL VA I.length ck,Y (t : Int)] wr (Quiet (.bool (decide (t ∈ piv))) wr)) := by have:=contains_c (nz piv) t VA ck wr ((a9.out.keep h.out).more q) (by rw [qaA];have:=a8.out.2;omega);rw [qaA,<- v.out,show decide ((t:Int)∈nz piv)=decide (t∈piv) by simp [mem_nz]] at this;exact this);have c0:wr.cell? (zA (w.heap.size+1) 0)=some (Y (cr:Int)):=(h.out.cell (p:=(zA (w.heap.size+1) 0)) bm).trans a0;by_cases U:t∈piv
    . rw[decide_eq_true U] at y;(have ab:Hid (freeC piv (t+1)=freeC piv t):=by show _=_;rw[freeC_succ,if_pos U,List.append_nil]);clear U;go_wp2_with fail;(with_reducible refine y.out.mono ?_);rintro e w3 ⟨rfl,n,rfl⟩;have f:Hid (Below wr.heap.size wr (wr.drewN n)):=qaB (Below.refl _ _) n;generalize wr.drewN n=d at *;go_wp2_with fail;go_roundw;case rel=>exact⟨t+1,bs,U0,gn,by rw[ab.out];exact z.out.grow f.out,h.out.trans (f.out.mono q)⟩
      case measure=>exact mE
    . rw [decide_eq_false U] at y;(have ab:Hid ((freeC piv (t+1)).length=(freeC piv t).length+1):=by show _=_;rw [freeC_succ,if_neg U];simp);have a2:=zH (b3.out t C U);(have cq:(freeC piv t).length<b.length:=by rw [a3.out];exact (freeC_at piv cr t C U).1);clear U;go_wp2_with fail;(with_reducible refine y.out.mono ?_);rintro e w3 ⟨rfl,n,rfl⟩;have f:Hid (Below wr.heap.size wr (wr.drewN n)):=qaB (Below.refl _ _) n;have ad:=zH (z.out.grow f.out);have ap:=zH (h.out.trans (f.out.mono q));have c4:(wr.drewN n).cell? (zA (w.heap.size+1) 0)=some (Y (cr:Int)):=c0;clear f z h y c0;generalize wr.drewN n=d at *;clear q;clear wr;have bn:=ap.out.size;go_upto_region 11 with (refine wpList_make_full d rfl (.tmp 44) (.tmp 44) 23 rfl d.heap.size 3 i0 (Y 0) 1 Tryz.underlying23 HI.out ch.out cj.out .i64 .i64 cr cr cr rfl rfl rfl rfl bv.out f.out (Nat.le_refl _) ?_;intro w5 T Q);(have ae:Hid (Row w5 d.heap.size d.heap.size cr (nz (List.replicate cr 0))):=by have:=Row.of_make T;exact this);have bw:Hid (Below d.heap.size d w5):=qaL Q;have r0:=ae.out.cell (j:=t) (by rw [qaA,List.length_replicate];exact C);have rf:=ae.out.frozen t;(have ax:Hid (RelKi d O I piv cr t (Y ((0:Nat):Int)) (w5.setCell (zA d.heap.size t) (Y 1))):=by refine ⟨0,U0,rfl,?_,bw.out.setCell (p:=(zA d.heap.size t)) (Nat.le_refl _) _⟩;have:=ae.out.set t 1;rw [show (1:Int)=((1:Nat):Int) from rfl,qbC] at this;exact this);(have di:(I.length:Int)=(piv.length:Int):=by rw [v.out]);(have dh:piv.length<=256:=by have:=a8.out.2;omega);have t0:(0:Int)<=(t:Int):=U0;have t1:(t:Int)<(cr:Int):=U0;clear T Q;go_wp2_with fail;generalize w5.setCell (zA d.heap.size t) (Y 1)=W6 at *;clear r0 rf;go_loopw [51] (fun v51 wr=>RelKi d O I piv cr t v51 wr) (fun v51 _=>piv.length-(intOf v51).toNat);case atStart=>exact ax.out
      case round =>
       obtain⟨i,L,rfl,V,hb⟩:=hrel;have HR:=zH V;have h:=zH hb;have q:=hb.size;clear V hb ax;have s:=zH (ap.out.trans (h.out.mono bn));by_cases M:i<piv.length
       . obtain⟨bp,op,rfl,da,cl⟩:=(a9.out.keep s.out).at_ (k:=i) (by rw[qaA];exact M);rw[qaC] at cl;obtain⟨br,dq,Ai,ci,e,db,ai,an⟩:=(ce.out.keep s.out).at_ (i:=i) (by rw[nzs_len,v.out];exact M);injection e with e;injection e with e1 e2 _;subst e1 e2;rw[Nat.zero_add] at ai;rw[nzs_getD] at ai an;have K:=av.out.row (i:=i) M;rw[qaA,K.1] at ai;obtain⟨bx,ox,rfl,dd,cn⟩:=an.at_ (k:=t) (by rw[qaA,K.1];exact C);rw[qaC] at cn;(have bo:(I.getD i []).getD t 0<p.toNat^m.toNat:=by(have:∀(l:List Nat)(hj:t<l.length),l.getD t 0=l[t]:=fun l hj=>by simp[List.getD,hj]);rw[this _ (by rw[K.1];exact C)];exact K.2 _ (List.getElem_mem _));have N:=cd.out i M;have b8:Hid (kerK O I piv cr t (i+1)=(kerK O I piv cr t i).set (piv.getD i 0) (O.neg ((I.getD i []).getD t 0))):=rfl;have b9:=zH (a6.out H.heap.size wr _ (aw.out.keep s.out) bo);have f0:=HR.out.frozen (piv.getD i 0);have y0:=HR.out.cell (j:=piv.getD i 0) (by rw[qaA,kerK_len];exact N);have dn:(0:Int)<=(i:Int):=U0;have dp:(i:Int)<(piv.length:Int):=U0;have p0:(0:Int)<=((piv.getD i 0:Nat):Int):=U0;have p1:((piv.getD i 0:Nat):Int)<(cr:Int):=U0;clear an K bo;generalize (I.getD i []).getD t 0=x at *;generalize piv.getD i 0=pv at *;go_wp2_with fail;(with_reducible refine b9.out.mono ?_);rintro e w7 ⟨rfl,n,rfl⟩;go_wp2_with fail;go_roundw;case rel=>refine⟨i+1,U0,gn,?_,(qaB h.out n).setCell (p:=(zA d.heap.size pv)) (Nat.le_refl _) _⟩;rw[b8.out,<- qbC];exact Row.set (w:=wr.drewN n) HR.out pv _
         case measure=>exact mE
       . (obtain rfl : i = piv.length:=by omega);(have cf:Hid (Row wr d.heap.size d.heap.size cr (nz (b.getD (freeC piv t).length []))):=by show Row _ _ _ _ _;rw[a2.out];exact HR.out);(have cw:(b.getD (freeC piv t).length []).length=cr:=by rw[a2.out,kerK_len]);(have a7:Hid ((wr.alloc (.cells #[zS d.heap.size cr cr] 23)).ownsRow H.heap.size 23 1 (zL J (freeC piv t).length co) (freeC piv t).length ((List.range (freeC piv t).length).map (hdr b bs))):=by have ct:=(ad.out.grow h.out).out;exact World.ownsRow.alloc ct _);have dg:(freeC piv t).length<=t:=freeC_le _ _;have c7:=s.out.size;clear HR;go_wp2_with (at_builtin;refine wpList_append_own_at _ rfl (.tmp 69) (.tmp 71) 30 rfl H.heap.size 23 c6 _ 1 24 Tryz.underlying30 b2.out bb.out bc.out bd.out rfl dc (zL J (freeC piv t).length co) (freeC piv t).length ((List.range (freeC piv t).length).map (hdr b bs)) rfl a7.out (zA wr.heap.size 0) 1 1 [zS d.heap.size cr cr] rfl rfl ?c1 ?c2 ?c3 ?c4 ?c5 ?_);case c1=>exact World.news_of_block (cs:=#[zS d.heap.size cr cr]) (t:=23) (fr:=(0,0)) (heap_alloc_new wr _)
         case c2=>intro u hu;simp at hu;subst hu;rfl
         case c3=>unfold maxLen;omega
         case c4=>omega
         case c5=>simp;omega
         intro v' w7 D aj _ be;have cg:Hid (LGrid w7 H.heap.size v' b (bs++[(d.heap.size,cr)]) ((freeC piv t).length+1)):=ad.out.step cq bn h.out cf.out (by rw[cw];exact D) aj (by simpa using be);have bz:Hid (Below H.heap.size H w7):=(s.out.alloc U0 _).grown aj so (fun j hj=>(ad.out.out.lt j hj).1);clear D aj be a7;go_wp2_with fail;go_roundw;case rel=>exact⟨t+1,_,U0,gn,by rw[ab.out];exact cg.out,bz.out⟩
         case measure=>exact mE
  . (obtain rfl:t=cr:=by omega);have bh:(freeC piv t).length=b.length:=a3.out.symm;(have a5:Hid (RowsAt wr wr.heap.size J (nzs b)):=by have bf:=z.out;rw[bh] at bf;exact bf.up.rowsAt);have au:=zH (ar.out wr b J co ((aw.out.keep h.out).more q) a5.out b6.out (by rw[<- bh];have:=b0.out;omega));rw[b7.out.symm] at au;have c0:wr.cell? (zA (w.heap.size+1) 0)=some (Y (t:Int)):=(h.out.cell (p:=(zA (w.heap.size+1) 0)) bm).trans a0;have ag:=zH (af.out.keep h.out);clear a5 z a0;go_wp2_with fail;(with_reducible refine au.out.mono ?_);rintro e w8 ⟨⟨R2,VA2,ck2,rfl,hru2⟩,hb8⟩;have ah:=zH (ag.out.keep hb8);have ay:=zH ah.out.k2;have ba:=zH hru2;have cy:w.heap.size+1+1<wr.heap.size:=ag.out.size;have c8:w8.cell? (zA (w.heap.size+1) 0)=some (Y (t:Int)):=cell_of_row _ _ 0 _ _ _ ah.out.k1;have HY:=zH (ah.out.set (Dc t R2 r.length r.length));clear hb8 hru2 c0 ag af;go_wp2_with (refine wpList_store_row rfl 54 (.tmp 4) (.tmp 85) rfl w8 (w.heap.size+1+1) 54 (Dk) (Dc t R2 r.length r.length) rfl rfl ay.out matSize rfl sc ?_);refine bodyPost_ret (results_row_one (P:=Tryz.prog) rfl _ _ (w.heap.size+1+1) 54 (Dc t R2 r.length r.length) (0,0) _ _ rfl rfl HY.out.k2 Tryz.underlying54 rfl matSize) rfl ?_;exact⟨⟨_,_,rfl,(ba.out.setRow cy _).lower U0⟩,HY.out.below⟩
end Go.Proofs.YtndipkplnkfoeaaGreat
namespace Go.Proofs.YtndipkplnkfoeaaGreat
open Go.RowKit Go.ChangeShapes Go.WideShapes Go.Deep Go.ChangeAt
section
variable {H:Type} {enc:TypeId × Value->H} {P:Program}
theorem post_of_below{f:Func}{s:ChangeSpec}{o B q A:Bool}{W C:World}{args:Array Value}{v:Value}{D E:List (DataW H)}{n pa pv:List MemPlace}(I:DataW.Whole enc P f.params.toList s.vars o W args.toList D E n)(z:∀ (b:Nat) (sp:Nat->Bool) (hd:Bool),DataW.TrodAll enc P C b sp hd f.resultTypes.toList (v.resultList f.resultTypes.size) (s.fn H (D++E)).results [])(u:∀ sp:Nat->Bool,(∀ p∈n,sp p.block=true)->DataW.TrodAll enc P C 0 sp true f.params.toList args.toList (s.fn H (D++E)).args pa)(x:∀ sp:Nat->Bool,(∀ p∈n,sp p.block=true)->DataW.TrodVars enc P C sp s.vars (s.fn H (D++E)).vars pv)(y:n=pa++pv)(K:Below W.heap.size W C)(J:∀ (j:Nat) (t:TypeId) (r:Value),f.resultTypes[j]?=some t->(v.resultList f.resultTypes.size)[j]?=some r->Value.okWide P C .any 0 t r):
 s.post enc P f o B q A W args v C:=by
 have h:∀p∈n,p.block<W.heap.size:=fun p c=>I.lt p c;have d:∀p∈n,(fun b=>decide (b<W.heap.size)) p.block=true:=fun p c=>by simpa using h p c
 refine⟨D,E,n,[],pa,pv,I,z _ _ _,u _ d,x _ d,World.keptBut_mono (fun p c=>⟨c,?_⟩) (K.frame (·∈n)),fun _=>?_⟩
 . rw[y,List.mem_append] at c;exact Or.inr c
 . obtain⟨_,_,_,_,_,m,l⟩:=I;refine⟨J,_,_,([]++pa)++pv,⟨[]++pa,pv,trodAll_append (u _ (fun _ _=>rfl)) (z _ _ _),x _ (fun _ _=>rfl),rfl,?_,?_⟩,?_⟩
   . intro b i c;(have g:MemPlace.cell b i∈n:=by rw[y];simpa using c);rw[K.frozen (h _ g)];exact m b i g
   . intro k;have:=l k;rw[y] at this;simpa using this
   . intro p c _;rw[y];simpa using c
end
theorem own:ownKnob Tryz.prog.godebug=none:=U1
theorem laidOut:laidOutB Tryz.prog=true:=U1
section
variable {H:Type} {enc:TypeId × Value->H} {w:World} {base:Nat} {spare:Nat->Bool} {held:Bool}
theorem cellsInt:Tryz.prog.cellsOf 3=1:=U1
theorem cellsInts:Tryz.prog.cellsOf 23=1:=U1
theorem cellsRows:Tryz.prog.cellsOf 30=1:=U1
theorem cellsField:Tryz.prog.cellsOf 29=3:=U1
theorem qdQ{a:Addr}{v:Value}(h:w.cell? a=some v):a=(zA a.block a.off):=by
 obtain⟨b,o,s⟩:=a;cases s with
 |none=>rfl
 |some s=>unfold World.cell? at h;split at h<;>simp at h
theorem qbT{d:Nat}{c:Value}{x:DataW H × List MemPlace}(h:DataW.trod enc Tryz.prog w base spare held d 3 [c]=some x):∃n,c=Y n:=by obtain⟨n,b,_,_⟩:=DataW.trod_int Tryz.underlying3 h;exact⟨n,by simpa using b⟩
theorem ints_cell{y:Nat}{c:Value}{x:DataW H × List MemPlace}(h:DataW.trod enc Tryz.prog w base spare held y 23 [c]=some x):
 ∃(zs:List Int)(A:Option Addr)(k:Nat),c=zL A zs.length k/\zs.length<=maxLen/\IntsAt w w.heap.size A zs:=by
 rcases open_slice1 Tryz.underlying23 cellsInt h with⟨b,_⟩|⟨a,len,g,m,n,V,D,t,l,_,u,v,o,_,p⟩
 . exact⟨[],none,0,by simpa using b,U2,fun h=>absurd h U2⟩
 . (have s:len<=m:=by rw[o];split<;>omega);have q:∀i,i<len->∃z,V i=Y z:=fun i hi=>qbT (p i U0).2;refine⟨(List.range len).map fun i=>intOf (V i),some a,g,by simpa using l,so,fun hz=>?_⟩;simp only[List.length_map,List.length_range] at hz ⊢;have b:=(p 0 U0).1;have r:a.add 0=a:=rfl;rw[r] at b;refine⟨a.block,a.off,congrArg some (qdQ b),World.block_lt_of_cell? w _ b,fun j hj=>?_⟩;have f:=(p j U0).1;obtain⟨z,e⟩:=q j hj;(have d:a.add j=(zA a.block (a.off+j)):=by rw[qdQ b];exact Addr.add_mid _ _ _);rw[d] at f;rw[f,e];simp[List.getD,hj,e,intOf]
theorem rows_cell{J:Nat}{c:Value}{x:DataW H × List MemPlace}(h:DataW.trod enc Tryz.prog w base spare held J 30 [c]=some x):
 ∃(zs:List (List Int))(A:Option Addr)(k:Nat),c=zL A zs.length k/\zs.length<=maxLen/\zs.length<=k/\RowsAt w w.heap.size A zs:=by
 rcases open_slice1 Tryz.underlying30 cellsInts h with⟨b,_⟩|⟨a,len,p,m,n,V,D,C,q,_,E,I,r,_,s⟩
 . exact⟨[],none,0,by simpa using b,U2,U2,fun h=>absurd h U2⟩
 . (have z : len <= m := by rw [r];split <;> omega);have o:∀ i,i<len->∃ (zs:List Int) (A:Option Addr) (k:Nat),V i=zL A zs.length k/\zs.length<=maxLen/\IntsAt w w.heap.size A zs:=fun i g=>ints_cell (s i U0).2
   obtain⟨f,v⟩:∃f:Nat->List Int,∀i,i<len->∃(A:Option Addr)(k:Nat),V i=zL A (f i).length k/\(f i).length<=maxLen/\IntsAt w w.heap.size A (f i):=
    ⟨fun i=>if h:i<len then Classical.choose (o i h) else[],fun i g=>by simp only[g,dif_pos];exact Classical.choose_spec (o i g)⟩
   refine⟨(List.range len).map f,some a,p,by simpa using q,so,so,fun hz=>?_⟩;simp only[List.length_map,List.length_range] at hz ⊢;have b:=(s 0 U0).1;have u:a.add 0=a:=rfl;rw[u] at b;refine⟨a.block,a.off,congrArg some (qdQ b),World.block_lt_of_cell? w _ b,fun j hj=>?_⟩;have l:=(s j U0).1;obtain⟨t,B,e,_,g⟩:=v j hj;(have d:a.add j=(zA a.block (a.off+j)):=by rw[qdQ b];exact Addr.add_mid _ _ _);rw[d] at l;(have y:((List.range len).map f).getD j []=f j:=by simp[List.getD,hj]);rw[y];exact⟨t,B,by rw[l,e],g⟩
theorem qaU{o:Nat}{t:TypeId}{q:Array Field}{cs:List Value}{x:DataW H × List MemPlace}(ht:Tryz.prog.underlying t=some (.struct q))(h:DataW.trod enc Tryz.prog w base spare held o t cs=some x)(i:Nat)(r:TypeId)(p k:Nat)(s:(q[i]?).map (fun f=>(f.type,f.offset))=some (r,p))(u:Tryz.prog.cellsOf r=k):
 ∃n y,n<o/\DataW.trod enc Tryz.prog w base spare held n r ((cs.drop p).take k)=some y:=by obtain⟨j,n,m,_,_,d,g⟩:=DataW.trod_struct ht h;obtain⟨f,b,c⟩:=Option.map_eq_some_iff.1 s;have l:i<q.size:=(Array.getElem?_eq_some_iff.1 b).1;simp only[Prod.mk.injEq] at c;obtain⟨rfl,rfl⟩:=c;subst u;exact⟨n,j[i]'U0,U0,by rw[g i f b,List.getElem?_eq_getElem]⟩
end
end Go.Proofs.YtndipkplnkfoeaaGreat
namespace Go.Proofs.YtndipkplnkfoeaaGreat
open Go.RowKit Go.ChangeShapes Go.WideShapes Go.Deep
section
variable {H:Type} {enc:TypeId × Value->H} {w:World} {base:Nat} {spare:Nat->Bool} {held:Bool}
theorem cellsCode:Tryz.prog.cellsOf 32=5:=U1
theorem cellsRun:Tryz.prog.cellsOf 34=5:=U1
theorem cellsMono:Tryz.prog.cellsOf 36=3:=U1
theorem cellsExcl:Tryz.prog.cellsOf 38=1:=U1
theorem cellsStep:Tryz.prog.cellsOf 40=23:=U1
theorem qeB{j:Nat}{t e:TypeId}{c:Value}{x:DataW H × List MemPlace}(ht:Tryz.prog.underlying t=some (.slice e))(h:DataW.trod enc Tryz.prog w base spare held j t [c]=some x):
 ∃(A:Option Addr)(n k:Nat),c=zL A n k/\n<=maxLen:=by
 rcases DataW.trod_slice ht h with⟨f,_⟩|⟨a,len,b,_,_,_,_,d,_,_,g,i,_⟩
 . exact⟨none,0,0,by simpa using f,U2⟩
 . exact⟨some a,len,b,by simpa using d,U0⟩
theorem field_cells{q:Nat}{a b c:Value}{x:DataW H × List MemPlace}(h:DataW.trod enc Tryz.prog w base spare held q 29 [a,b,c]=some x):
 ∃(p m:Int)(zs:List Int)(A:Option Addr)(k:Nat),a=Y p/\b=Y m/\c=zL A zs.length k/\zs.length<=maxLen/\IntsAt w w.heap.size A zs:=by obtain⟨_,_,_,i⟩:=qaU Tryz.underlying29 h 0 3 0 1 rfl cellsInt;obtain⟨_,_,_,j⟩:=qaU Tryz.underlying29 h 1 3 1 1 rfl cellsInt;obtain⟨_,_,_,l⟩:=qaU Tryz.underlying29 h 2 23 2 1 rfl cellsInts;obtain⟨p,d⟩:=qbT i;obtain⟨m,f⟩:=qbT j;obtain⟨zs,A,k,g,o,n⟩:=ints_cell l;exact⟨p,m,zs,A,k,d,f,g,o,n⟩
theorem step_cells{aa:Nat}{cs:List Value}{x:DataW H × List MemPlace}(hl:cs.length=23)(h:DataW.trod enc Tryz.prog w base spare held aa 40 cs=some x):
 ∃d:StD,StC w w.heap.size d cs/\d.ok:=by
 match cs,hl with
 | [c0,c1,c2,c3,c4,c5,c6,c7,c8,c9,c10,c11,c12,c13,c14,c15,c16,c17,c18,c19,c20,c21,c22],_ =>
   obtain⟨_,_,_,R⟩:=qaU Tryz.underlying40 h 0 3 0 1 rfl cellsInt
   obtain⟨_,_,_,l⟩:=qaU Tryz.underlying40 h 1 32 1 5 rfl cellsCode
   obtain⟨_,_,_,S⟩:=qaU Tryz.underlying40 h 2 3 6 1 rfl cellsInt
   obtain⟨_,_,_,T⟩:=qaU Tryz.underlying40 h 3 23 7 1 rfl cellsInts
   obtain⟨_,_,_,U⟩:=qaU Tryz.underlying40 h 4 23 8 1 rfl cellsInts
   obtain⟨_,_,_,V⟩:=qaU Tryz.underlying40 h 5 29 9 3 rfl cellsField
   obtain⟨_,_,_,c⟩:=qaU Tryz.underlying40 h 6 34 12 5 rfl cellsRun
   obtain⟨_,_,_,W⟩:=qaU Tryz.underlying40 h 7 23 17 1 rfl cellsInts
   obtain⟨_,_,_,X⟩:=qaU Tryz.underlying40 h 8 23 18 1 rfl cellsInts
   obtain⟨_,_,_,q⟩:=qaU Tryz.underlying40 h 9 36 19 3 rfl cellsMono
   obtain⟨_,_,_,o⟩:=qaU Tryz.underlying40 h 10 38 22 1 rfl cellsExcl
   obtain⟨f,rfl⟩:=qbT R
   obtain⟨_,_,_,O⟩:=qaU Tryz.underlying32 l 0 29 0 3 rfl cellsField
   obtain⟨_,_,_,P⟩:=qaU Tryz.underlying32 l 1 3 3 1 rfl cellsInt
   obtain⟨_,_,_,Q⟩:=qaU Tryz.underlying32 l 2 30 4 1 rfl cellsRows
   obtain⟨p,m,mod,z,K,rfl,rfl,rfl,l3,i3⟩:=field_cells O
   obtain⟨n,rfl⟩:=qbT P
   obtain⟨k,y,J,rfl,l5,s,i5⟩:=rows_cell Q
   obtain⟨low,rfl⟩:=qbT S
   obtain⟨j,v,I,rfl,l7,i7⟩:=ints_cell T
   obtain⟨at_,t,ca,rfl,l8,i8⟩:=ints_cell U
   obtain⟨E,D,b,u,cb,rfl,rfl,rfl,r,Z⟩:=field_cells V
   obtain⟨_,_,_,r0⟩:=qaU Tryz.underlying34 c 0 3 0 1 rfl cellsInt
   obtain⟨_,_,_,r1⟩:=qaU Tryz.underlying34 c 1 3 1 1 rfl cellsInt
   obtain⟨_,_,_,r2⟩:=qaU Tryz.underlying34 c 2 3 2 1 rfl cellsInt
   obtain⟨_,_,_,r3⟩:=qaU Tryz.underlying34 c 3 3 3 1 rfl cellsInt
   obtain⟨_,_,_,r4⟩:=qaU Tryz.underlying34 c 4 3 4 1 rfl cellsInt
   obtain⟨z0,rfl⟩:=qbT r0
   obtain⟨z1,rfl⟩:=qbT r1
   obtain⟨z2,rfl⟩:=qbT r2
   obtain⟨z3,rfl⟩:=qbT r3
   obtain⟨z4,rfl⟩:=qbT r4
   obtain⟨A,np,cp,rfl,lp⟩:=qeB Tryz.underlying23 W
   obtain⟨B,nq,L,rfl,lq⟩:=qeB Tryz.underlying23 X
   obtain⟨_,_,_,m0⟩:=qaU Tryz.underlying36 q 0 23 0 1 rfl cellsInts
   obtain⟨_,_,_,m1⟩:=qaU Tryz.underlying36 q 1 23 1 1 rfl cellsInts
   obtain⟨_,_,_,m2⟩:=qaU Tryz.underlying36 q 2 3 2 1 rfl cellsInt
   obtain⟨Ar,nr,M,rfl,lr⟩:=qeB Tryz.underlying23 m0
   obtain⟨C,ns,i,rfl,ls⟩:=qeB Tryz.underlying23 m1
   obtain⟨z5,rfl⟩:=qbT m2
   obtain⟨_,_,_,t0⟩:=qaU Tryz.underlying38 o 0 30 0 1 rfl cellsRows
   obtain⟨g,At,N,rfl,lt,_,it⟩:=rows_cell t0
   exact⟨⟨f,p,m,mod,n,k,low,j,at_,E,D,b.length,z0,z1,z2,z3,z4,np,nq,nr,ns,z5,g⟩,
    ⟨z,y,v,t,u,A,B,Ar,C,At,K,J,I,ca,cb,cp,L,M,i,N,rfl,s,i3,i5,i7,i8,it⟩,l3,l5,l7,l8,r,lp,lq,lr,ls,lt⟩
end
section
variable {H:Type} {enc:TypeId × Value->H} {w:World} {base:Nat} {spare:Nat->Bool} {held:Bool}
theorem add_of_add(a:Addr)(i j:Nat):(a.add i).add j=a.add (i+j):=by unfold Addr.add;by_cases b:i=0<;>by_cases c:j=0<;>simp[b,c,Nat.add_assoc]
theorem steps_open{v:Value}{d:DataW H}{p:List MemPlace}(h:DataW.Trod enc Tryz.prog w base spare held 22 v d p)(X:v.cells=#[v]):
 ∃(A:Option Addr)(ds:List StD)(k:Nat),v=zL A ds.length k/\ds.length<=maxLen/\StsAt w w.heap.size A ds/\∀d∈ds,d.ok:=by
 obtain⟨K,x⟩:=h;rw[X] at x;rcases open_slice Tryz.underlying22 x with⟨B,_⟩|⟨a,len,r,m,n,D,T,t,_,U,V,E,_,J⟩
 . exact⟨none,[],0,by simpa using B,U2,fun h=>absurd h U2,U2⟩
 . (have R : len <= m := by rw [E];split <;> omega);rw [cellsStep] at J;by_cases B:len=0
   . subst B;exact⟨some a,[],r,by simpa using t,U2,fun h=>absurd h U2,U2⟩
   . obtain ⟨c0,L,_⟩ := J 0 U0;obtain ⟨_,W,S⟩:=World.cells?_some L;have c:=S 0 U0;rw [List.getElem?_eq_getElem U0] at c;have P:(a.add (0*23)).add 0=a:=rfl;rw [P] at c;have C:=World.block_lt_of_cell? w _ c;have y:=qdQ c;(have s:∀ j,a.add j=(zA a.block (a.off+j)):=fun j=>by rw [y];exact Addr.add_mid _ _ _);(have z:∀ i,i<len->∃ (d:StD) (b:List Value),w.rangeAt a.block (a.off+i*23) b/\StC w w.heap.size d b/\d.ok:=fun i l=>by obtain ⟨b,g,ht⟩:=J i U0;obtain ⟨_,o,q⟩:=World.cells?_some g;obtain ⟨d,hd,I⟩:=step_cells o ht;refine ⟨d,b,fun j u hu=>?_,hd,I⟩;(have Q:j<23:=by rw [<- o];exact (List.getElem?_eq_some_iff.1 hu).1);have:=q j Q;rw [hu,add_of_add,s] at this;rw [<- this,Nat.add_assoc])
     obtain⟨f,x⟩:∃f:Nat->StD,∀i,i<len->∃b:List Value,w.rangeAt a.block (a.off+i*23) b/\StC w w.heap.size (f i) b/\(f i).ok:=
      ⟨fun i=>if h:i<len then Classical.choose (z i h) else⟨0,0,0,[],0,[],0,[],[],0,0,0,0,0,0,0,0,0,0,0,0,0,[]⟩,fun i l=>by simp only[l,dif_pos];exact Classical.choose_spec (z i l)⟩
     refine⟨some a,(List.range len).map f,r,by simpa using t,so,fun _=>⟨a.block,a.off,congrArg some y,C,fun i d hd=>?_⟩,fun d hd=>?_⟩
     . (have l:i<len:=by have:=(List.getElem?_eq_some_iff.1 hd).1;simpa using this);(have:d=f i:=by simpa[l] using hd.symm);rw[this];obtain⟨b,M,N,_⟩:=x i l;exact⟨b,M,N⟩
     . obtain⟨i,l,rfl⟩:=List.mem_map.1 hd;obtain⟨b,_,_,O⟩:=x i (List.mem_range.1 l);exact O
end
end Go.Proofs.YtndipkplnkfoeaaGreat
