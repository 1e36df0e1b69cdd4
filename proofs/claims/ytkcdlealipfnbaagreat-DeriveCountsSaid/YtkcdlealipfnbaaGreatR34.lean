/- Parts of the proof. -/
import Derived.Test.YtkcdlealipfnbaaGreatR33
set_option maxRecDepth 100000
set_option maxHeartbeats 8000000
namespace Go.Proofs.YtkcdlealipfnbaaGreat
open Go.RowKit Pln Go.Proofs.Tryz
theorem gst_inv{q:Nat}{O:Ops}(h:Al.Fld q O){rows:LL}{set:LN}{s:Nat}{d:LL}{pl:LN}(f:Dv.Ok q rows.length (Al.colOf rows s))(g:∀ r∈d,Dv.Ok q rows.length r)(i:pl.length=d.length)(j:∀ y∈pl,y<rows.length)(l:d.length<=set.length)(k:d.length=set.length->Al.BasP h rows.length rows d pl set):
 (∀r∈(gst O rows (d,pl) s).1,Dv.Ok q rows.length r)/\(gst O rows (d,pl) s).2.length=(gst O rows (d,pl) s).1.length/\(∀y∈(gst O rows (d,pl) s).2,y<rows.length)/\(gst O rows (d,pl) s).1.length<=(set++[s]).length/\((gst O rows (d,pl) s).1.length=(set++[s]).length->Al.BasP h rows.length rows (gst O rows (d,pl) s).1 (gst O rows (d,pl) s).2 (set++[s])):=by
 have b:=redG_okX h g f (pl:=pl) d.length zn;unfold gst;rcases nzIx_or (Al.redG O d pl (Al.colOf rows s) d.length) 0 with hm|⟨P,_,hP,hr,h0⟩
 . rw[if_pos (by rw[hm];decide)];refine⟨g,i,j,by rw[List.length_append];show d.length<=_;omega,fun e=>?_⟩;rw[List.length_append,List.length_singleton] at e;(have e:d.length=set.length+1:=e);omega
 . rw [if_neg (by rw [hr];omega),hr];rw [Nat.sub_zero] at h0;rw [Nat.zero_add,b.1] at hP;have c:=Al.getD_ok b.2 (by have:=h.q1;omega) P;refine ⟨fun r hm=>?_,by show (pl++[_]).length=(d++[_]).length;rw [List.length_append,List.length_append,i];rfl,fun y hy=>?_,by show (d++[_]).length<=_;rw [List.length_append,List.length_append,List.length_singleton,List.length_singleton];omega,fun e=>?_⟩
   . rcases List.mem_append.1 hm with hm|hm
     . exact g r hm
     . rw[List.mem_singleton.1 hm];exact⟨by unfold scaleRow;rw[List.length_map,b.1],(qeG h.self (h.invL _ c h0) b.2).2⟩
   . rcases List.mem_append.1 hy with hy|hy
     . exact j y hy
     . rw[List.mem_singleton.1 hy];exact hP
   . have e:(d++[_]).length=_:=e;rw[List.length_append,List.length_append,List.length_singleton,List.length_singleton] at e;exact(k U0).snoc f hP h0
theorem gf_inv{q:Nat}{O:Ops}(h:Al.Fld q O){rows:LL}(b:∀ i,Dv.Ok q rows.length (Al.colOf rows i))(set:LN):∀ i,i<=set.length ->
 (∀r∈(gf O rows (set.take i)).1,Dv.Ok q rows.length r)/\(gf O rows (set.take i)).2.length=(gf O rows (set.take i)).1.length/\(∀y∈(gf O rows (set.take i)).2,y<rows.length)/\(gf O rows (set.take i)).1.length<=(set.take i).length/\((gf O rows (set.take i)).1.length=(set.take i).length->Al.BasP h rows.length rows (gf O rows (set.take i)).1 (gf O rows (set.take i)).2 (set.take i))
 |0,_=>by
   rw[List.take_zero]
   exact⟨by simp[gf],rfl,by simp[gf],Nat.le_refl _,fun _=>Al.BasP.nil _ _⟩
 |i + 1,hi=>by
   obtain⟨h1,h2,h3,h4,h5⟩:=gf_inv h b set i U0
   rw[List.take_succ_eq_append_getElem (by omega:i<set.length),gf_snoc]
   exact gst_inv h (b _) h1 h2 h3 h4 h5
theorem right_law{q:Nat}{O:Ops}(h:Al.Fld q O){n:Nat}{rows:LL}{S:LN}{zs:LI}(m:∀r∈rows,Dv.Ok q n r)(o:RightIs O rows.length n rows S zs):∃set:LN,zs=nz set/\(∀s∈set,s<n/\s∉S)/\set.length<=n/\∀f:Nat->Al.El q O h,Al.InC h n rows f->(∀i∈set,f i=0)->∀j,j<n->f j=0:=by obtain⟨g,b,k⟩:=o;obtain⟨set,rfl,d,l⟩:=g.nat;rw[nz_backX,qaA] at b;rw[qaA] at k;have c:=(gf_inv h (col_okX (by have:=h.q1;omega) m) set set.length zn).2.2.2.2;rw[List.take_length] at c;exact⟨set,rfl,d,l,fun f hf hz=>(c b).full U0 hf (fun s hm=>(d s hm).1) hz⟩
structure ExB (w:Wo) (B0 bp gb p m:Nat) (l:LN) (A:OA) (rows:LL) (ST:OA) (TS:List LI):Prop where
 g:GFAt w B0 gb p m l (logL l (p^m))
 a:RowsAt w B0 A (nzs rows)
 t:RowsAt w B0 ST TS
 b:B0<=bp
theorem ExB.grow{w w':Wo}{c j gb p m:Nat}{l:LN}{A:OA}{rows:LL}{f:OA}{i:List LI}(h:ExB w c j gb p m l A rows f i)(d:Below c w w'):ExB w' c j gb p m l A rows f i:=⟨h.g.keep d,h.a.keep d,h.t.keep d,h.b⟩
theorem PrAt.set{w:Wo}{b gb:Nat}{P M c N G S:Value}{f g k:Int}(h:PrAt w b (pcs gb P M c N G f g S k))(d:Int):PrAt (w.setCell (zA b 11) (Y d)) b (pcs gb P M c N G f g S d):=heap_set_same h 11 _
def LSck(w W:Wo):Prop:=zB w W
theorem xcheck_w(B0 bp gb p m:Nat)(md l:LN)(P M Ma:Value)(A:OA)(ca n ww:Nat)(rows:LL)(ST:OA)(cT:Nat)(TS:List LI)(hF:FT p m md l)(hg:∀ r∈rows,Dv.Ok (p ^ m) n r)(hl:rows.length<=64)(hn:n<=64)(a5:ww<=64)(a6:TS.length<=9223372036854775807)(S Z:LN)(AS:OA)(cS:Nat)(AZ:OA)(cZ k:Nat)(w:Wo)(a3:S.length<=ww)(hX:ExB w B0 bp gb p m l A rows ST TS)(hp:PrAt w bp (pcs gb P M Ma (Y (n:Int)) (zL A rows.length ca) rows.length ww (zL ST TS.length cT) (k:Int)))(hk:k<=TS.length)(hS:IntsQ w (fun k=>k≠bp) AS (nz S))(hZ:IntsQ w (fun k=>k≠bp) AZ (nz Z))(a1:S.Nodup/\∀ s∈S,s<n)(a4:Z.Nodup/\∀ z∈Z,z<n)(a2:∀ (W:Wo)(s:Nat)(Z':LN)(AS':OA)(cS':Nat)(AZ':OA)(cZ' k':Nat),ExB W B0 bp gb p m l A rows ST TS->s<n->s∉S->S.length<ww->IntsQ W (fun k=>k≠bp) AS' (nz (S++[s]))->IntsQ W (fun k=>k≠bp) AZ' (nz Z')->(Z'.Nodup/\∀ z∈Z',z<n)->k'<=TS.length->PrAt W bp (pcs gb P M Ma (Y (n:Int)) (zL A rows.length ca) rows.length ww (zL ST TS.length cT) (k':Int))->zC 221 #[zP bp,zL AS' (S++[s]).length cS',zL AZ' Z'.length cZ'] W (XckPost W bp (pcs gb P M Ma (Y (n:Int)) (zL A rows.length ca) rows.length ww (zL ST TS.length cT)) TS.length (Al.Cl (Al.fld_of hF) n ww rows (S++[s]) Z'))):
 zC 221 #[zP bp,zL AS S.length cS,zL AZ Z.length cZ] w (XckPost w bp (pcs gb P M Ma (Y (n:Int)) (zL A rows.length ca) rows.length ww (zL ST TS.length cT)) TS.length (Al.Cl (Al.fld_of hF) n ww rows S Z)):=by
 have av:=hp.lt;have H:∀W,LSck w W->W.cell? (zA bp 11)=some (Y (k:Int)):=fun W c=>(hp.grow c).cell 11;have ah:∀W,LSck w W->W.cell? (zA bp 10)=some (zL ST TS.length cT):=fun W c=>(hp.grow c).cell 10;have u:=zH H;have q:=zH ah;have HP:=zH hp;have D:zK (LSck w w.drew):=zV.drew;clear ah H;by_cases aq:k<TS.length
 . obtain ⟨R,T,V,X,rfl,ao,af,ag⟩ := hX.t.at_ aq;have ap:((k:Int)==(TS.length:Int))=false:=beq_false_of_ne U0;(have E:B0<=w.heap.size:=by have:=hX.b;omega);have B:zK (∀ W,Below B0 w W->W.cell? (zA R (T+k))=some (zL V (TS.getD k []).length X)):=fun W c=>(c.cell (p:=(zA R (T+k))) ao).trans af;have Q:=zH ag;have J:=zH hX;have HS:=zH hS;have HZ:=zH hZ;have y:=zH a2;generalize au:TS.getD k []=zs at *;clear af ag au hX hS hZ a2;have k0:(0:Int)<=(k:Int):=U0;have k1:(k:Int)<(TS.length:Int):=U0;obtain ⟨b,hb⟩:∃ b:Bool,b=true ↔ RightIs (opsT p m l) rows.length n rows S zs:=by
    by_cases e:RightIs (opsT p m l) rows.length n rows S zs
    . exact⟨true,fun _=>e,fun _=>rfl⟩
    . exact⟨false,fun h=>(by cases h),fun h=>absurd h e⟩
   (have N:zK (∀W,LSck w W->zC 247 #[zP bp,zL AS S.length cS,zL V zs.length X] W fun e w'=>e=.returned (.bool b)/\LSck w w'):=fun W c=>by have hB:Below B0 w W:=Below.mono c E;have K:B0<=W.heap.size:=Nat.le_trans E c.size;refine(right_c bp gb p m md l P M Ma (zL (some (zA R T)) TS.length cT) rows.length ww k A ca n rows S AS cS zs V X W hF ((J.o.g.keep hB).more K) (HP.o.grow c) ((J.o.a.keep hB).more K) hg hl hn (HS.o.grow (qeT c)).ints (by have:=nodup_le a1.1 a1.2;omega) ((Q.o.keep hB).more K) b hb).mono ?_;rintro e w' ⟨⟨he,_⟩,hb'⟩;exact⟨he,Below.trans c (hb'.mono c.size)⟩);have aa:=zH hb;clear hb;clear hp;go_enter func221,ntmps221;cases b
   . clear y aa;go_upto_region 1 with fail;refine qaD (LSck w) U1 U1 D.o ?_
     repeat (first
      | (apply qaJ rfl
         . intro W hS
           have c1:=u.o W hS
           have c2:=q.o W hS
           go_simp
           try rfl
         go_simp)
      | (apply qbD rfl
         . intro W hS
           have c1:=u.o W hS
           have c2:=q.o W hS
           have c3:=B.o W (Below.mono hS E)
           go_simp
           try rfl
         go_simp)
      | (apply qcG rfl
         . intro W hS
           go_simp
           exact⟨rfl,rfl⟩
         . intro W hS
           exact N.o W hS
         go_simp)
      |(apply qbI rfl;go_simp))
     refine qaE ?_;intro w2 a1;have i:=zH a1;clear a1;go_wp2;go_ret;exact⟨13,k,rfl,hk,HP.o.grow i.o,qeT i.o,fun e=>by cases e⟩
   . obtain ⟨set,rfl,v,az,hI⟩ := right_law (Al.fld_of hF) hg (aa.o.1 rfl);go_upto_region 1 with fail;refine qaD (LSck w) U1 U1 D.o ?_
     repeat (first
      | (apply qaJ rfl
         . intro W hS
           have c1:=u.o W hS
           have c2:=q.o W hS
           go_simp
           try rfl
         go_simp)
      | (apply qbD rfl
         . intro W hS
           have c1:=u.o W hS
           have c2:=q.o W hS
           have c3:=B.o W (Below.mono hS E)
           go_simp
           try rfl
         go_simp)
      | (apply qcG rfl
         . intro W hS
           go_simp
           exact⟨rfl,rfl⟩
         . intro W hS
           exact N.o W hS
         go_simp)
      |(apply qbI rfl;go_simp))
     refine qaE ?_;intro w2 a1;have i:=zH a1;clear a1;have ax:=Below.size i.o;have C:=zH (HP.o.grow i.o);have H:w2.cell? (zA bp 11)=some (Y (k:Int)):=C.o.cell 11;have an:w2.frozen? (zA bp 11)=false:=frozen_of_row _ _ _ _ _ C.o;have ar:IntKind.i64.wrap ((k:Int)+1)=(k:Int)+1:=IntWalk.i64_in _ U0;have a0:IntKind.i64.wrap (k:Int)=(k:Int):=IntWalk.i64_in _ U0;have ad:zK (w.grownBy (w2.setCell (zA bp 11) (Y ((k:Int)+1))) (some bp)):=grown_trans (qeT i.o) (grown_set _ (zA bp 11) _);have L:=zH (C.o.set ((k:Int)+1));go_upto_region 4 with fail;clear H an C i HP N u q D ar;generalize w2.setCell (zA bp 11) (Y ((k:Int)+1))=U at *;have ay:=ad.o.size;have O:zK (LSck U U.drew):=zV.drew;have x:zK (∀W,U.grownBy W (some bp)->w.grownBy W (some bp)):=fun W c=>grown_trans ad.o c;have ac:zK (∀W,w.grownBy W (some bp)->ExB W B0 bp gb p m l A rows (some (zA R T)) TS):=fun W c=>J.o.grow ⟨c.os,c.tape,c.output,c.size,fun k hk=>c.block k U0 fun e=>by injection e with e;have:=J.o.b;omega⟩;(have ab:zK (∀W,LSck U W->zC 248 #[zP bp,zL AS S.length cS,zL AZ Z.length cZ,zL V set.length X,.func (.func 221) #[zP bp] #[]] W (XckPost W bp (pcs gb P M Ma (Y (n:Int)) (zL A rows.length ca) rows.length ww (zL (some (zA R T)) TS.length cT)) TS.length (S.length=ww\/Al.Kids (Al.fld_of hF) n ww rows S Z set))):=fun W c=>by have f:=x.o W (qeT c);(refine children_c (Al.fld_of hF) n ww bp rows S Z set AS cS AZ cZ V X _ TS.length (k+1) W (L.o.grow c) U0 (fun _=>rfl) (HS.o.grow f) (HZ.o.grow f) (fun hz=>?_) a3 a5 hn a4 (fun s K=>(v s K).1) U0 fun W' s Z' AS' cS' AZ' cZ' k' hg' K hlt' h1 h2 h3 h4 h5=>y.o W' s Z' AS' cS' AZ' cZ' k' (ac.o W' (grown_trans f hg')) (v s K).1 (v s K).2 hlt' h1 h2 h3 h4 h5);obtain⟨b,o,e,hb,hc⟩:=Q.o hz;refine⟨b,o,e,by have:=J.o.b;omega,by have:=f.size;omega,fun j hj=>(qeY f U0 (by have:=J.o.b;omega)).trans (hc j hj)⟩);(have ai:zK (∀W,LSck U W->W.cell? (zA bp 10)=some (zL (some (zA R T)) TS.length cT)/\W.cell? (zA bp 11)=some (Y ((k:Int)+1))/\W.cell? (zA R (T+k))=some (zL V set.length X)):=fun W c=>by have f:=x.o W (qeT c);refine⟨(L.o.grow c).cell 10,(L.o.grow c).cell 11,?_⟩;rw[<- qaA set];exact B.o W ⟨f.os,f.tape,f.output,f.size,fun k hk=>f.block k U0 fun e=>by injection e with e;have:=J.o.b;omega⟩);have ae:=zH v;clear Q B y J HS HZ ac v;have aw:∀(fn:Fn)(first cap:Array Value)(w:Wo),(Instr.makeFunc fn first cap).run prog w=.ok (.func fn first cap) w:=fun _ _ _ _=>rfl;refine qaS 16 16 (LSck U) [(1,0),(1,1),(1,2),(1,3),(1,4),(1,5),(0,6),(1,7),(1,8),(1,9),(0,10),(1,11),(1,12),(0,13),(1,14),(1,15)] default U1 U1 (fun _ _ d _ _ h=>by cases d<;>exact h) O.o ?_;generalize U.drew=Wd at *;simp only[List.map_cons,List.map_nil,List.getD_cons_zero,List.getD_cons_succ]
     repeat (first
      | (apply qaM rfl
         . intro W
           go_simp
           rfl
         go_simp)
      | (apply qbF rfl
         . intro W c
           obtain⟨c1,c2,c3⟩:=ai.o W c
           go_simp
           rfl
         go_simp))
     refine qbH ?_;show wpList _ _ _ _ _ _;have I:=zH (ab.o Wd O.o);go_wp2_with fail;go_fit I.o;rintro e w6 ⟨ec,k6,rfl,hk6,hpr6,hg6,hq6⟩;have aj:zK (w.grownBy w6 (some bp)):=grown_trans (x.o Wd (qeT O.o)) hg6;have ak:=zH hpr6;have al:=zH hq6;clear hpr6 hg6 hq6 ab I;go_wp2;go_ret;refine⟨ec,k6,rfl,hk6,ak.o,aj.o,fun e0=>?_⟩;rcases al.o e0 with hl|hl
     . rw[<- hl];exact Al.leaf_node hI a1.1 a1.2 ae.o
     . exact Al.node_law hI hl
 . have ap : ((k : Int) == (TS.length : Int)) = true := beq_iff_eq.2 U0;clear hp a2;go_enter func221,ntmps221;go_upto_region 1 with fail;refine qaD (LSck w) U1 U1 D.o ?_
   repeat (first
    | (apply qaJ rfl
       . intro W hS
         have c1:=u.o W hS
         have c2:=q.o W hS
         go_simp
         try rfl
       go_simp)
    |(apply qbI rfl;go_simp))
   refine qaE ?_;intro w2 a1;have i:=zH a1;clear a1;go_wp2;go_ret;exact⟨13,k,rfl,hk,HP.o.grow i.o,qeT i.o,fun e=>by cases e⟩
theorem xcheck_c(q d gb p m:Nat)(md l:LN)(P M j:Value)(A:OA)(ca n f:Nat)(rows:LL)(i:OA)(o:Nat)(c:List LI)(u:FT p m md l)(v:∀ r∈rows,Dv.Ok (p ^ m) n r)(y:rows.length<=64)(B:n<=64)(h:f<=64)(g:c.length<=9223372036854775807):∀ (t:Nat)(S Z:LN)(AS:OA)(cS:Nat)(AZ:OA)(cZ k:Nat)(w:Wo),S.length+t=f->ExB w q d gb p m l A rows i c->PrAt w d (pcs gb P M j (Y (n:Int)) (zL A rows.length ca) rows.length f (zL i c.length o) (k:Int))->k<=c.length->IntsQ w (fun k=>k≠d) AS (nz S)->IntsQ w (fun k=>k≠d) AZ (nz Z)->(S.Nodup/\∀ s∈S,s<n)->(Z.Nodup/\∀ z∈Z,z<n) ->
 zC 221 #[zP d,zL AS S.length cS,zL AZ Z.length cZ] w (XckPost w d (pcs gb P M j (Y (n:Int)) (zL A rows.length ca) rows.length f (zL i c.length o)) c.length (Al.Cl (Al.fld_of u) n f rows S Z))
 |0,S,Z,AS,cS,AZ,cZ,k,w,hSt,hX,hp,hk,hS,hZ,hS2,hZ2=>xcheck_w q d gb p m md l P M j A ca n f rows i o c u v y B h g S Z AS cS AZ cZ k w U0 hX hp hk hS hZ hS2 hZ2 fun _ _ _ _ _ _ _ _ _ _ _ hlt _ _ _ _ _=>absurd hlt U0
 | t + 1,S,Z,AS,cS,AZ,cZ,k,w,hSt,hX,hp,hk,hS,hZ,hS2,hZ2 => xcheck_w q d gb p m md l P M j A ca n f rows i o c u v y B h g S Z AS cS AZ cZ k w U0 hX hp hk hS hZ hS2 hZ2 fun W s Z' AS' cS' AZ' cZ' k' hX' hs1 hs2 _ h1 h2 h3 h4 h5 => xcheck_c q d gb p m md l P M j A ca n f rows i o c u v y B h g t (S ++ [s]) Z' AS' cS' AZ' cZ' k' W (by rw [List.length_append,List.length_singleton];omega) hX' h5 h4 h1 h2 ⟨List.nodup_append.2 ⟨hS2.1,U2,fun a ha b hb e => hs2 (by rw [List.mem_singleton.1 hb] at e;rw [<- e];exact ha)⟩,fun x hx => by
    rcases List.mem_append.1 hx with hx|hx
    . exact hS2.2 x hx
    . rw[List.mem_singleton.1 hx]
      exact hs1⟩ h3
theorem sboxc_new(w:Wo)(v0 v1 v2 b c:Value):SBoxC w [v0,v1,v2,b,c] (w.alloc (.cells [v0,v1,v2,b,c].toArray 32)):=⟨heap_alloc_new _ _,zV.alloc zn _,U2⟩
theorem xopen_c(p m n:Int)(mod:LI)(zs:List LI)(u Ag:OA)(v cg:Nat)(B:Int)(w:Wo)(x:zI w u mod)(C:mod.length<=1000000)(y:zR w Ag zs)(D:zs.length<=1000000)(A:codeZ p m mod n zs=0)(z:fieldOK p m mod=true):
 zC 220 #[Ca p m u mod.length v n Ag zs.length cg,Y B] w fun e w'=>(∃bp gb,e=.returned (.tuple (Cq bp))/\w.heap.size<=bp/\PrAt w' bp (pcs gb (Y p) (Y m) (zL u mod.length v) (Y n) (zL Ag zs.length cg) 0 B (zL none 0 0) 0)/\
  GFAt w' bp gb p.toNat m.toNat (lOf p m mod) (logL (lOf p m mod) (p.toNat^m.toNat)))/\zB w w':=by
 have i:=zH (sboxc_new w (Y p) (Y m) (zL u mod.length v) (Y n) (zL Ag zs.length cg));have j:zK (∀W,zB w W->zC 27 #[Ca p m u mod.length v n Ag zs.length cg] W fun e w'=>e=.returned (Y 0)/\zB W w'):=fun W hW=>by rw[<- A];exact codecheck_c p m mod u v n zs Ag cg W ((x.keep hW).more hW.size) U0 ((y.keep hW).more hW.size) U0
 have k:zK (∀W,zB w W->zC 72 #[C6 p m u mod.length v] W fun e w'=>(∃gb,e=.returned (.tuple (Cq gb))/\W.heap.size<=gb/\GFAt w' w'.heap.size gb p.toNat m.toNat (lOf p m mod) (logL (lOf p m mod) (p.toNat^m.toNat)))/\zB W w'):=fun W hW=>fnew_ok p m mod u v W ((x.keep hW).more hW.size) z;clear x y A z;go_enter func220,ntmps220;go_upto_region 1 with fail;generalize w.alloc (C9 p m u mod.length v n Ag zs.length cg)=r at *;have d:=zH (j.o r i.o.2.1);have g:=zH (range_of_row i.o.1);go_wp2_with (refine wpList_load_mid rfl 32 (.tmp 2) rfl w.heap.size 0 rfl (C2 p m u mod.length v n Ag zs.length cg) _ g.o underlying32 rfl codeSize ?_);go_fit d.o;rintro e s ⟨rfl,hb1⟩;have b:=zH (i.o.grow hb1);clear hb1 i d g;have f:=zH (k.o s b.o.2.1);have h:=zH b.o.range3;go_wp2_with (refine wpList_load_mid rfl 29 (.tmp 15) rfl w.heap.size 0 rfl (C7 p m u mod.length v) _ h.o underlying29 rfl fieldSize ?_);go_fit f.o;rintro e t ⟨⟨gb,rfl,hgb,hg⟩,hb2⟩;have c:=zH (b.o.grow hb2);have q:=zH hg;have l:=zH (range_of_row c.o.1);clear hg hb2 b f h;go_wp2_with (refine wpList_load_mid rfl 32 (.tmp 2) rfl w.heap.size 0 rfl (C2 p m u mod.length v n Ag zs.length cg) _ l.o underlying32 rfl codeSize ?_);go_ret2;exact⟨⟨_,gb,rfl,c.o.2.1.size,heap_alloc_new _ _,q.o.keep (zV.alloc zn _)⟩,c.o.2.1.trans ((zV.alloc zn _).mono c.o.2.1.size)⟩
theorem PrAt.setM{w:Wo}{b gb:Nat}{P M c N G S:Value}{g f k:Int}(h:PrAt w b (pcs gb P M c N G g f S k))(d:Int):PrAt (w.setCell (zA b 8) (Y d)) b (pcs gb P M c N G d f S k):=heap_set_same h 8 _
theorem PrAt.setS{w:Wo}{b gb:Nat}{P M c N G S:Value}{f g k:Int}(h:PrAt w b (pcs gb P M c N G f g S k))(d:Value):PrAt (w.setCell (zA b 10) d) b (pcs gb P M c N G f g d k):=heap_set_same h 10 _
theorem xrank_c(p m n:Int)(mod:LI)(zs:List LI)(z Ag:OA)(B cg:Nat)(A:Int)(w:Wo)(H:zI w z mod)(C:mod.length<=1000000)(E:zR w Ag zs)(D:zs.length<=1000000)(J:codeZ p m mod n zs=0)(I:fieldOK p m mod=true)(K:0<=A)(L:A<=n):
 zC 175 #[Ca p m z mod.length B n Ag zs.length cg,Y (zs.length:Int),Y A] w fun e w'=>(∃bp gb,e=.returned (.tuple (Cq bp))/\w.heap.size<=bp/\PrAt w' bp (pcs gb (Y p) (Y m) (zL z mod.length B) (Y n) (zL Ag zs.length cg) zs.length A (zL none 0 0) 0)/\
  GFAt w' bp gb p.toNat m.toNat (lOf p m mod) (logL (lOf p m mod) (p.toNat^m.toNat)))/\zB w w':=by have f:=zH (sboxc_new w (Y p) (Y m) (zL z mod.length B) (Y n) (zL Ag zs.length cg));have j:zK (∀W,zB w W->_):=fun W hW=>xopen_c p m n mod zs z Ag B cg A W ((H.keep hW).more hW.size) C ((E.keep hW).more hW.size) D J I;clear H E J I;go_enter func175,ntmps175;go_upto_region 1 with fail;generalize w.alloc (C9 p m z mod.length B n Ag zs.length cg)=l at *;have c:=zH (j.o l f.o.2.1);have d:=zH (range_of_row f.o.1);go_wp2_with (refine wpList_load_mid rfl 32 (.tmp 3) rfl w.heap.size 0 rfl (C2 p m z mod.length B n Ag zs.length cg) _ d.o underlying32 rfl codeSize ?_);go_fit c.o;rintro e h ⟨⟨bp,gb,rfl,hbp,hpr,hg⟩,hb1⟩;have b:=zH (f.o.grow hb1);have g:w.heap.size<=bp:=Nat.le_trans f.o.2.1.size hbp;have i:=zH hpr;have k:=zH hg;have v:h.cell? (zA w.heap.size 3)=some (Y n):=cell_of_row _ _ 3 _ _ _ b.o.1;have x:h.cell? (zA w.heap.size 4)=some (zL Ag zs.length cg):=cell_of_row _ _ 4 _ _ _ b.o.1;have y:h.cell? (zA bp 8)=some (Y 0):=hpr.cell 8;have q:h.frozen? (zA bp 8)=false:=frozen_of_row _ _ _ _ _ hpr;have r:¬(zs.length:Int)<0:=U0;have s:¬(zs.length:Int)> (zs.length:Int):=U0;have t:¬A<0:=U0;have u:¬A > n:=U0;clear hpr hg f c d j hb1;go_wp2;go_ret2;exact⟨⟨bp,gb,rfl,g,i.o.setM _,k.o.keep (zV.setCell (p:=(zA bp 8)) zn _)⟩,b.o.2.1.setCell (p:=(zA bp 8)) g _⟩
theorem xproves_c(H gb p m:Nat)(md l:LN)(P M R:Value)(A:OA)(ca n L:Nat)(rows:LL)(J:OA)(K:Nat)(I:List LI)(w:Wo)(S:FT p m md l)(U:∀ r∈rows,Dv.Ok (p ^ m) n r)(V:rows.length<=64)(X:n<=64)(Q:L<=64)(N:I.length<=9223372036854775807)(T:ExB w H H gb p m l A rows J I)(O:PrAt w H (pcs gb P M R (Y (n:Int)) (zL A rows.length ca) rows.length L (zL none 0 0) 0)):
 zC 176 #[zP H,.agg #[zL J I.length K]] w fun e w'=>(∃ec:Int,e=.returned (Y ec)/\(ec=0->Al.Cl (Al.fld_of S) n L rows [] []))/\Below H w w':=by
 have v:=O.lt;have d:zK (zB w (w.alloc (.cells #[zL J I.length K] 38))):=zV.alloc zn _;have h:zK ((w.alloc (.cells #[zL J I.length K] 38)).cell? (zA w.heap.size 0)=some (zL J I.length K)):=cell_of_row _ _ 0 _ _ _ (heap_alloc_new _ _);have j:=zH (O.grow d.o);have g:zK (∀W,Below H w W->PrAt W H _->zC 221 #[zP H,zL none 0 0,zL none 0 0] W _):=fun W hW hpr=>xcheck_c H H gb p m md l P M R A ca n L rows J K I S U V X Q N L [] [] none 0 none 0 0 W U2 (T.grow hW) hpr (Nat.zero_le _) (fun hz=>absurd hz (by simp[nz])) (fun hz=>absurd hz (by simp[nz])) ⟨U2,U2⟩ ⟨U2,U2⟩;clear T O;go_enter func176,ntmps176;go_upto_region 1 with fail;generalize w.alloc (.cells #[zL J I.length K] 38)=t at *;have D:=h.o;have i:t.cell? (zA H 10)=some (zL none 0 0):=j.o.cell 10;have u:t.frozen? (zA H 10)=false:=frozen_of_row _ _ _ _ _ j.o;have b:zK (Below H w (t.setCell (zA H 10) (zL J I.length K))):=(d.o.mono (Nat.le_of_lt v)).setCell (p:=(zA H 10)) zn _;have f:=zH (g.o _ b.o (j.o.setS _));clear g j;go_wp2_with fail;clear D i u h;go_fit f.o;rintro e x ⟨ec,k',rfl,hk',hpr,hgw,hq⟩;have c:zK (Below H w x):=b.o.trans ⟨hgw.os,hgw.tape,hgw.output,hgw.size,fun k z=>hgw.block k (by have:=b.o.size;omega) fun e=>by injection e with e;omega⟩;have E:x.cell? (zA H 11)=some (Y (k':Int)):=hpr.cell 11;have i:x.cell? (zA H 10)=some (zL J I.length K):=hpr.cell 10;have q:=zH hq;clear hpr hgw hq f b;by_cases y:ec=0
 . subst y;have s:=zH (q.o rfl);clear q;by_cases z:(k':Int)<(I.length:Int)
   . go_upto_region 3 with fail;go_quiet (fail);go_wp2;go_ret;exact⟨⟨13,rfl,fun e=>by cases e⟩,qaB c.o _⟩
   . have C:decide ((k':Int)<(I.length:Int))=false:=decide_eq_false z;go_upto_region 3 with fail;go_quiet (fail);go_wp2;go_ret;exact⟨⟨0,rfl,fun _=>s.o⟩,qaB c.o _⟩
 . have B:(ec==0)=false:=beq_false_of_ne y;go_upto_region 3 with fail;go_quiet (fail);go_wp2;go_ret;exact⟨⟨ec,rfl,q.o⟩,qaB c.o _⟩
theorem exclSize:(prog.info? 38).map (·.size)=some 1:=U1
theorem xweight_c(v0 v1 v2 k:Value)(n d:Int)(w:Wo)(l:1<=d)(m:d<=n+1)(p:n<=64):
 zC 124 #[.agg #[v0,v1,v2,Y n,k],Y d] w fun e w'=>e=.returned (Y (d-1))/\zB w w':=by have b:=zH (sboxc_new w v0 v1 v2 (Y n) k);go_enter func124,ntmps124;go_upto_region 1 with fail;generalize w.alloc (.cells #[v0,v1,v2,Y n,k] 32)=c at *;have j:c.cell? (zA w.heap.size 3)=some (Y n):=cell_of_row _ _ 3 _ _ _ b.o.1;have h:¬d<1:=U0;have f:IntKind.i64.wrap (n+1)=n+1:=IntWalk.i64_in _ U0;have g:IntKind.i64.wrap (d-1)=d-1:=IntWalk.i64_in _ U0;have i:¬d > n+1:=U0;go_wp2;go_ret;exact⟨rfl,b.o.2.1⟩
theorem xcheckrank_c(p m:Int)(n:Nat)(mod:LI)(rows:LL)(x Ag:OA)(A cg:Nat)(C:Nat)(z:OA)(B:Nat)(y:List LI)(w:Wo)(J:zI w x mod)(I:mod.length<=1000000)(E:zR w Ag (nzs rows))(L:codeZ p m mod (n:Int) (nzs rows)=0)(D:fieldOK p m mod=true)(P:C<=n)(O:n<=64)(N:rows.length<=64)(M:∀r∈rows,Dv.Ok (p.toNat^m.toNat) n r)(K:zR w z y)(H:y.length<=9223372036854775807):
 zC 123 #[Ca p m x mod.length A n Ag rows.length cg,Y (rows.length:Int),Y (C:Int),.agg #[zL z y.length B]] w fun e w'=>(∃ec:Int,e=.returned (Y ec)/\(ec=0->Al.Cl (Al.fld_of (field_ft D)) n C rows [] []))/\zB w w':=by
 have k:zK (BXT w [((C2 p m x mod.length A n Ag rows.length cg),32),([zL z y.length B],38)] ((w.alloc (C9 p m x mod.length A n Ag rows.length cg)).alloc (.cells #[zL z y.length B] 38))):=
  ((BXT.nil w).push rfl (C2 p m x mod.length A n Ag rows.length cg) 32).push U2 [zL z y.length B] 38
 have j:zK (∀W,zB w W->zC 175 #[Ca p m x mod.length A n Ag rows.length cg,Y (rows.length:Int),Y (C:Int)] W _):=fun W hW=>by have:=xrank_c p m (n:Int) mod (nzs rows) x Ag A cg (C:Int) W ((J.keep hW).more hW.size) I ((E.keep hW).more hW.size) (by rw[nzs_len];omega) L D U0 U0;rw[nzs_len] at this;exact this
 have f:zK (∀W bp gb,w.heap.size<=bp->zB w W->PrAt W bp (pcs gb (Y p) (Y m) (zL x mod.length A) (Y (n:Int)) (zL Ag rows.length cg) rows.length C (zL none 0 0) 0)->GFAt W bp gb p.toNat m.toNat (lOf p m mod) (logL (lOf p m mod) (p.toNat^m.toNat))->zC 176 #[zP bp,.agg #[zL z y.length B]] W fun e w'=>(∃ec:Int,e=.returned (Y ec)/\(ec=0->Al.Cl (Al.fld_of (field_ft D)) n C rows [] []))/\Below bp W w'):=fun W bp gb hbp hW hp hgf=>
  xproves_c bp gb p.toNat m.toNat (mdOf m mod) (lOf p m mod) _ _ _ Ag cg n C rows z B y W (field_ft D) M N O U0 H ⟨hgf,(E.keep hW).more hbp,(K.keep hW).more hbp,Nat.le_refl _⟩ hp
 clear J E K L;go_enter func123,ntmps123;go_upto_region 1 with fail;generalize (w.alloc (C9 p m x mod.length A n Ag rows.length cg)).alloc (.cells #[zL z y.length B] 38)=s at *;have g:zK (s.rangeAt w.heap.size 0 (C2 p m x mod.length A n Ag rows.length cg)):=k.o.range (i:=0) rfl;have c:=zH (j.o s k.o.below);go_wp2_with (refine wpList_load_mid rfl 32 (.tmp 4) rfl w.heap.size 0 rfl (C2 p m x mod.length A n Ag rows.length cg) _ g.o underlying32 rfl codeSz ?_);go_fit c.o;rintro e t ⟨⟨bp,gb,rfl,hbp,hpr,hgf⟩,hb1⟩;have b:=zH (k.o.grow hb1);have l:w.heap.size<=bp:=Nat.le_trans k.o.below.size hbp;have d:=zH (f.o t bp gb l b.o.below hpr hgf);have h:zK (t.rangeAt (w.heap.size+1) 0 [zL z y.length B]):=b.o.range (i:=1) rfl;clear hb1 hpr hgf k g c j f;go_wp2_with (refine wpList_load_mid rfl 38 (.tmp 7) rfl (w.heap.size+1) 0 rfl [zL z y.length B] _ h.o underlying38 rfl exclSize ?_);go_fit d.o;rintro e v ⟨⟨ec,rfl,hq⟩,hb2⟩;have q:zK (zB w v):=b.o.below.trans (hb2.mono l);have u:=zH hq;clear hq hb2 b d h;go_wp2;go_ret;exact⟨⟨ec,rfl,u.o⟩,q.o⟩
theorem xdist_c(p m:Int)(n:Nat)(mod:LI)(rows:LL)(A Ag:OA)(D cg:Nat)(d:Nat)(C:OA)(E:Nat)(B:List LI)(w:Wo)(K:zI w A mod)(I:mod.length<=1000000)(J:zR w Ag (nzs rows))(N:codeZ p m mod (n:Int) (nzs rows)=0)(M:fieldOK p m mod=true)(R:1<=d)(S:d<=n+1)(Q:n<=64)(P:rows.length<=64)(O:∀ r∈rows,Dv.Ok (p.toNat ^ m.toNat) n r)(L:zR w C B)(H:B.length<=9223372036854775807):
 zC 58 #[Ca p m A mod.length D n Ag rows.length cg,Y (d:Int),.agg #[zL C B.length E]] w fun e w'=>(∃ec:Int,e=.returned (Y ec)/\(ec=0->Al.Cl (Al.fld_of (field_ft M)) n (d-1) rows [] []))/\zB w w':=by
 have s:zK (BXT w [((C2 p m A mod.length D n Ag rows.length cg),32),([zL C B.length E],38)] ((w.alloc (C9 p m A mod.length D n Ag rows.length cg)).alloc (.cells #[zL C B.length E] 38))):=
  ((BXT.nil w).push rfl (C2 p m A mod.length D n Ag rows.length cg) 32).push U2 [zL C B.length E] 38
 have j:zK (∀W,zB w W->zC 123 #[Ca p m A mod.length D n Ag rows.length cg,Y (rows.length:Int),Y ((d-1:Nat):Int),.agg #[zL C B.length E]] W _):=fun W b=>
  xcheckrank_c p m n mod rows A Ag D cg (d-1) C E B W ((K.keep b).more b.size) I ((J.keep b).more b.size) N M U0 Q P O ((L.keep b).more b.size) H
 have l:zK (∀W,zC 124 #[Ca p m A mod.length D n Ag rows.length cg,Y (d:Int)] W fun e w'=>e=.returned (Y ((d-1:Nat):Int))/\zB W w'):=fun W=>by rw[show((d-1:Nat):Int)=(d:Int)-1 by omega];exact xweight_c _ _ _ _ (n:Int) (d:Int) W U0 U0 U0
 generalize d-1=z at *;clear K J L N;go_enter func58,ntmps58;go_upto_region 1 with fail;generalize (w.alloc (C9 p m A mod.length D n Ag rows.length cg)).alloc (.cells #[zL C B.length E] 38)=t at *;have f:zK (BXT w [((C2 p m A mod.length D n Ag rows.length cg),32),([zL C B.length E],38)] t.drew):=s.o.grow zV.drew;refine qaS 8 8 (BXT w [((C2 p m A mod.length D n Ag rows.length cg),32),([zL C B.length E],38)]) [(0,0),(1,1),(0,2),(1,3),(0,4),(1,5),(0,7),(2,6)] default U1 U1 (fun _ _ d _ _ h=>by cases d<;>exact h) f.o ?_;generalize t.drew=v at *;simp only[List.map_cons,List.map_nil,List.getD_cons_zero,List.getD_cons_succ]
 repeat (first
  | (apply qaM rfl
     . intro W
       go_simp
       rfl
     go_simp)
  | (refine qaT rfl 32 (.tmp 3) rfl w.heap.size 0 rfl (C2 p m A mod.length D n Ag rows.length cg) _ (fun W b => BXT.range (i := 0) b rfl) underlying32 rfl codeSz ?_
     go_simp)
  | (refine qaT rfl 38 (.tmp 5) rfl (w.heap.size + 1) 0 rfl [zL C B.length E] _ (fun W b => BXT.range (i := 1) b rfl) underlying38 rfl exclSize ?_
     go_simp)
  | (apply qbF rfl
     . intro W b
       have c1:W.cell? (zA w.heap.size 4)=some (zL Ag rows.length cg):=BXT.cell (i:=0) (k:=4) b rfl rfl
       go_simp
       rfl
     go_simp))
 apply qbE rfl
 . go_simp;exact⟨rfl,rfl⟩
 refine(l.o v).mono ?_;rintro e y ⟨rfl,hbz⟩;have c:=zH (f.o.grow hbz);refine⟨_,rfl,c.o,?_⟩;go_simp;have g:=zH (j.o y c.o.below);clear j l f s hbz;refine qbH ?_;show wpList _ _ _ _ _ _;go_wp2_with fail;go_fit g.o;rintro e x ⟨⟨ec,rfl,hq⟩,hb2⟩;have q:zK (zB w x):=c.o.below.trans (hb2.mono c.o.below.size);have u:=zH hq;clear hq hb2 g c;go_wp2;go_ret;exact⟨⟨ec,rfl,u.o⟩,q.o⟩
def mixF(O:Ops)(a y x:Nat):Nat:=if a=0\/x=0 then y else O.add y (O.mul a x)
def wl(O:Ops)(q:Nat):LL->LN->LL
 |[],u=>[u]
 |r :: rs,u=>(List.range q).flatMap fun a=>wl O q rs (List.zipWith (mixF O a) u r)
def SubAt{α:Type}(WL:List α)(k:Nat)(L:List α):Prop:=∃a b,WL=a++(L++b)/\a.length=k
theorem range_cut{a q:Nat}(h:a<q):∃t,List.range q=List.range a++(a :: t):=by
 induction q with
 |zero=>omega
 |succ q ih=>
  by_cases e:a=q
  . subst e;exact⟨[],by rw[List.range_succ]⟩
  . obtain⟨t,b⟩:=ih U0;exact⟨t++[q],by rw[List.range_succ,b];simp⟩
theorem SubAt.one{α:Type}{d:List α}{k q a:Nat}{f:Nat->List α}(h:SubAt d k ((List.range q).flatMap f))(g:a<q):SubAt d (k+((List.range a).flatMap f).length) (f a):=by obtain⟨x,y,e,c⟩:=h;obtain⟨t,b⟩:=range_cut g;exact⟨x++(List.range a).flatMap f,t.flatMap f++y,by rw[e,b];simp[List.append_assoc],by rw[List.length_append,c]⟩
theorem SubAt.lt{c:LL}{k:Nat}{u:LN}(h:SubAt c k [u]):k<c.length/\c.getD k []=u:=by obtain⟨x,y,e,b⟩:=h;rw[e];subst b;exact⟨U2,by simp[List.getD]⟩
theorem range_snoc{α:Type}(a:Nat)(f:Nat->List α):(List.range (a+1)).flatMap f=(List.range a).flatMap f++f a:=by rw[List.range_succ];simp
structure WkP where
 (l bo Ba Bc By Bg Bf gb p m n cg:Nat)
 (tb:LN) (Ag:OA) (rows:LL) (v0 v1 v2:Value)
def WkP.far(X:WkP)(b:Nat):Prop:=Far X.l X.bo X.Ba b
def WkP.same(X:WkP)(W W':Wo):Prop:=SameBut X.l X.bo X.Ba W W'
def RowsFq(w:Wo)(p:Nat->Prop)(A:OA)(rows:LL):Prop:=
 0<rows.length->∃b o,A=some (zA b o)/\p b/\b<w.heap.size/\∀i,i<rows.length->∃Ai ci,w.cell? (zA b (o+i))=some (zL Ai (rows.getD i []).length ci)/\IntsQ w p Ai (nz (rows.getD i []))
theorem IntsQ.same{l bo Ba:Nat}{W g:Wo}{A:OA}{zs:LI}(h:IntsQ W (Far l bo Ba) A zs)(i:SameBut l bo Ba W g):IntsQ g (Far l bo Ba) A zs:=fun hz=>by
 obtain⟨b,o,e,c,f,d⟩:=h hz
 exact⟨b,o,e,c,Nat.lt_of_lt_of_le f i.1,fun j hj=>i.cell (p:=(zA b (o+j))) c (d j hj)⟩
theorem RowsFq.same{l bo Ba:Nat}{W q:Wo}{A:OA}{rows:LL}(h:RowsFq W (Far l bo Ba) A rows)(n:SameBut l bo Ba W q):RowsFq q (Far l bo Ba) A rows:=fun hz=>by
 obtain⟨b,o,e,c,m,k⟩:=h hz
 refine⟨b,o,e,c,Nat.lt_of_lt_of_le m n.1,fun i hi=>?_⟩
 obtain⟨d,f,g,j⟩:=k i hi
 exact⟨d,f,n.cell (p:=(zA b (o+i))) c g,j.same n⟩
def WkP.field(X:WkP)(W:Wo):Prop:=
 X.far X.gb/\X.gb<W.heap.size/\∃(A3:OA)(n3 c3 ge ce gl cl:Nat),X.far ge/\X.far gl/\W.heap[X.gb]?=some (Co X.p X.m A3 n3 c3 ((X.p^X.m:Nat):Int) ge X.tb.length ce gl (logL X.tb (X.p^X.m)).length cl)/\
  zI W (zO ge) (nz X.tb)/\zI W (zO gl) (nz (logL X.tb (X.p^X.m)))
theorem WkP.field_same{X:WkP}{W s:Wo}(h:X.field W)(r:X.same W s):X.field s:=by obtain⟨d,f,g,q,i,l,j,m,k,b,c,n,o,p⟩:=h;exact⟨d,Nat.lt_of_lt_of_le f r.1,g,q,i,l,j,m,k,b,c,(r.2 _ f d).trans n,r.ints b o,r.ints c p⟩
theorem WkP.field_at{X:WkP}{W:Wo}(h:X.field W):GFAt W W.heap.size X.gb X.p X.m X.tb (logL X.tb (X.p^X.m)):=by obtain⟨_,n,b,o,c,g,d,i,f,_,_,j,k,l⟩:=h;exact⟨n,b,o,c,g,d,i,f,j,k,l⟩
structure WkX (X:WkP) (k:Nat) (W:Wo):Prop where
 fc:X.far X.Bc
 code:W.rangeAt X.Bc 0 [X.v0,X.v1,X.v2,Y (X.n:Int),zL X.Ag X.rows.length X.cg]
 gen:RowsFq W X.far X.Ag X.rows
 cnt:W.heap[X.Ba]?=some (.cells #[Y (k:Int)] 3 (0,0))
 yld:X.far X.By/\W.cell? (zA X.By 0)=some (.func (.yield X.l) #[] #[])
 gee:X.far X.Bg/\W.cell? (zA X.Bg 0)=some (zP X.gb)
 frm:X.far X.Bf/\W.cell? (zA X.Bf 0)=some (.func (.func 168) #[] (C5 X.Bc X.Ba X.By X.Bg X.Bf))
 gf:X.field W
section
variable {X:WkP} {k:Nat} {W W':Wo}
theorem WkX.same(h:WkX X k W)(b:X.same W W'){c:Nat}(d:W'.heap[X.Ba]?=some (.cells #[Y (c:Int)] 3 (0,0))):WkX X c W':=
 ⟨h.fc,SameBut.range b h.fc h.code,RowsFq.same h.gen b,d,⟨h.yld.1,SameBut.cell (p:=(zA X.By 0)) b h.yld.1 h.yld.2⟩,⟨h.gee.1,SameBut.cell (p:=(zA X.Bg 0)) b h.gee.1 h.gee.2⟩,⟨h.frm.1,SameBut.cell (p:=(zA X.Bf 0)) b h.frm.1 h.frm.2⟩,X.field_same h.gf b⟩
theorem WkX.lt(h:WkX X k W):X.Ba<W.heap.size:=(Array.getElem?_eq_some_iff.1 h.cnt).1
theorem WkX.grow(h:WkX X k W)(b:zB W W'):WkX X k W':=h.same (.of_below b) ((b.block X.Ba h.lt).trans h.cnt)
theorem WkX.set(h:WkX X k W)(b:Nat):WkX X b (W.setCell (zA X.Ba 0) (Y (b:Int))):=h.same (.set _) (heap_set_same h.cnt 0 _)
end
def RndX(l bo Bz n:Nat)(WL:LL)(J:Nat->Wo->Prop):Prop:=
 ∀(k g c:Nat)(W:Wo),k<WL.length->J k W->Bz<=W.heap.size->Row W Bz g c (nz (WL.getD k []))->YieldAt Fence.wide 0 prog l (Cp k g n c) W (RndOk l bo J k W)
def FromX1(X:WkP)(J:Nat->Wo->Prop)(k:Nat)(W:Wo)(e:Ending)(W':Wo):Prop:=
 e=.returned (.bool true)/\WkX X k W'/\J k W'/\X.same W W'
theorem fromE_c(X:WkP)(Bz:Nat)(WL:LL)(J:Nat->Wo->Prop)(hJ:∀j A B,J j A->Below Bz A B->J j B)(hz:Bz<=X.Ba)(ad:X.Ba≠X.l)(ae:X.Ba≠X.bo)(hY:RndX X.l X.bo Bz X.n WL J)(ah:WL.length<=65536)(hn:1<=X.n)(ag:X.n<=64)(k:Nat)(u:LN)(hu:SubAt WL k [u])(af:u.length=X.n)(Aw:OA)(cw:Nat)(W:Wo)(hS:WkX X k W)(h0:J k W)(hA:IntsQ W X.far Aw (nz u)):
 zC 168 (Ce (X.rows.length:Int) Aw X.n cw X.Bc X.Ba X.By X.Bg X.Bf) W (FromX1 X J (k+1) W):=by
 obtain⟨m,P⟩:∃m,zK (m=k+1):=⟨_,rfl⟩;rw[<- P.o];obtain⟨hk,I⟩:=hu.lt;have U:(m:Int)=(k:Int)+1:=by have:=P.o;omega
 have t:=zH hS;have HY:zK (∀(g c:Nat)(W:Wo),J k W->Bz<=W.heap.size->Row W Bz g c (nz u)->YieldAt Fence.wide 0 prog X.l (Cp k g X.n c) W (RndOk X.l X.bo J k W)):=fun g c W h1 h2 h3=>hY k g c W hk h1 h2 (by rw[I];exact h3);have N:=zH hJ;have ab:IntKind.i64.wrap ((k:Int)+1)=(k:Int)+1:=IntWalk.i64_in _ U0;have ac:IntKind.i64.wrap ((m:Int)-1)=(k:Int):=by rw[IntWalk.i64_in _ U0];omega
 have c4:W.cell? (zA X.Bc 4)=some (zL X.Ag X.rows.length X.cg):=t.o.code 4 _ rfl;have ca:W.cell? (zA X.Ba 0)=some (Y (k:Int)):=cell_of_row _ _ 0 _ _ _ t.o.cnt;have fa:W.frozen? (zA X.Ba 0)=false:=by simp[World.frozen?,t.o.cnt]
 have d:=zH (t.o.set m);have s:=zH (N.o k W _ h0 ((Below.refl Bz W).setCell (p:=(zA X.Ba 0)) hz (Y (m:Int))));rw[U] at d s;have r:zK (X.same W (W.setCell (zA X.Ba 0) (Y ((k:Int)+1)))):=SameBut.set _;have v:zK (IntsQ (W.setCell (zA X.Ba 0) (Y ((k:Int)+1))) X.far Aw (nz u)):=IntsQ.same hA r.o;have E:zK (Bz<=(W.setCell (zA X.Ba 0) (Y ((k:Int)+1))).heap.size):=by show _<=_;have:=t.o.lt;simp;omega
 clear hS hY hJ h0 hA I hu;refine(callsIn_wide (n:=0)).1 ?_;refine callsIn_of_wp func168 rfl trivial ?_;simp only[ntmps168,List.size_toArray,List.length_cons,List.length_nil,Nat.reduceAdd,Nat.reduceSub,Array.replicate_succ,Array.replicate_zero,List.push_toArray,List.append_toArray,List.nil_append,List.cons_append];clear U;repeat(first|go_values|gi_guarded|gi_step|gi_upon)
 generalize W.setCell (zA X.Ba 0) (Y ((k:Int)+1))=q at *;clear c4 ca fa t;refine qdK 5 5 (WkX X m) [(0,0),(0,1),(1,2),(1,3),(2,4)] default noBar_wide U1 U1 U1 (d.o.same SameBut.drew d.o.cnt) ?_;have C:=zH (N.o _ q q.drew s.o (Below.refl Bz q).drew);have x:zK (X.same W q.drew):=SameBut.trans r.o .drew;have i:zK (Bz<=q.drew.heap.size):=E.o;have f:zK ((nz u).length=X.n):=by show _=_;rw[qaA,af]
 have L:=zH (sclone_c (nz u) Aw cw q.drew (IntsQ.same v.o SameBut.drew).ints (by rw[f.o];omega) (by rw[f.o];omega));rw[f.o] at L;have D:zK (WkX X m q.drew):=d.o.same SameBut.drew d.o.cnt;clear s r E v d;generalize q.drew=Wd at *;simp only[List.map_cons,List.map_nil,List.getD_cons_zero,List.getD_cons_succ];apply qbF rfl
 . intro V S;have y:=S.yld.2;go_simp;rfl
 go_simp;apply qbF rfl
 . intro V S;have y:V.cell? (zA X.Ba 0)=some (Y (m:Int)):=cell_of_row _ _ 0 _ _ _ S.cnt;go_simp;rfl
 go_simp;apply qaM rfl
 . intro V;go_simp;rfl
 go_simp;apply qaM rfl
 . intro V;go_simp;rfl
 go_simp;apply qbE rfl
 . go_simp;exact⟨rfl,rfl⟩
 with_reducible refine L.o.mono ?_
 rintro e H ⟨⟨g,c,rfl,hrow⟩,hb2⟩;have h:=zH (D.o.grow hb2);have O:=zH (N.o _ Wd H C.o (hb2.mono i.o));have M:zK (X.same W H):=SameBut.trans x.o (.of_below hb2);have R:zK (Bz<=H.heap.size):=Nat.le_trans i.o hb2.size;have Q:=zH (hrow.base (Nat.le_trans i.o hrow.lt.1));refine⟨_,rfl,h.o,?_⟩;go_simp;refine qbH ?_;show wpListIn _ _ _ _ _ _ _ _;clear hrow hb2 D C x i L;obtain⟨fn,aa,K,T,hy,Z⟩:=HY.o g c H O.o R.o Q.o;gi_wp2_with ((try refine⟨rfl,?_⟩);refine Z.mono ?_;clear Z;rintro e W3 ⟨rfl,hJ3,hsz3,hsm3⟩);go_ret;have z:X.same H W3:=⟨hsz3,fun b hb hf=>hsm3 b hb hf.1 hf.2.1⟩;exact⟨rfl,h.o.same z ((hsm3 X.Ba h.o.lt ad ae).trans h.o.cnt),P.o ▸ hJ3,SameBut.trans M.o z⟩
end Go.Proofs.YtkcdlealipfnbaaGreat
