/- Parts of the proof. -/
import Derived.Test.YtkcdlealipfnbaaGreatR32
set_option maxRecDepth 100000
set_option maxHeartbeats 8000000
namespace Go.Proofs.YtkcdlealipfnbaaGreat
open Go.RowKit Pln Go.Proofs.Tryz
theorem col_okX{q n:Nat}{rows:LL}(d:0<q)(c:∀r∈rows,Dv.Ok q n r)(i:Nat):Dv.Ok q rows.length (Al.colOf rows i):=⟨Al.col_len _ _,fun x hx=>by
 unfold Al.colOf at hx
 obtain⟨r,b,rfl⟩:=List.mem_map.1 hx
 exact Al.getD_ok (c r b).2 d i⟩
theorem BasAt.nil{w:Wo}{gb:Nat}:BasAt (w.alloc (.cells #[zP gb,zL none 0 0,zL none 0 0] 269)) w.heap.size (fun k=>(Value.slice none 0 0).ownBlock=some k) w.heap.size gb [] []:=
 ⟨_,_,heap_alloc_new _ _,Nat.le_refl _,fun e=>by simp[Value.ownBlock] at e,fun k e=>by simp[Value.ownBlock] at e,fun k e=>by simp[Value.ownBlock] at e,EOwn.nil,EOwn.nil⟩
def gst(O:Ops)(rows:LL)(t:LL × LN)(s:Nat):LL × LN:=
 if nzIx (Al.redG O t.1 t.2 (Al.colOf rows s) t.1.length) 0<0 then t
 else(t.1++[scaleRow O (O.inv ((Al.redG O t.1 t.2 (Al.colOf rows s) t.1.length).getD (nzIx (Al.redG O t.1 t.2 (Al.colOf rows s) t.1.length) 0).toNat 0)) (Al.redG O t.1 t.2 (Al.colOf rows s) t.1.length)],t.2++[(nzIx (Al.redG O t.1 t.2 (Al.colOf rows s) t.1.length) 0).toNat])
def gf(O:Ops)(rows:LL)(set:LN):LL × LN:=set.foldl (gst O rows) ([],[])
theorem gf_snoc(O:Ops)(rows:LL)(set:LN)(s:Nat):gf O rows (set++[s])=gst O rows (gf O rows set) s:=by unfold gf;rw[List.foldl_append];rfl
def RelGr{q:Nat}{O:Ops}(h:Al.Fld q O)(w:Wo)(bb gb:Nat)(rows:LL)(set:LN)(v8 v19:Value)(wr:Wo):Prop:=
 ∃(i:Nat)(out:LN)(bs:LL)(pl:LN),i<=set.length/\v19=Y (i:Int)/\EOwn 3 IntE (fun _=>False) wr w.heap.size v8 out/\BasAt wr w.heap.size (fun k=>v8.ownBlock=some k) bb gb bs pl/\
  gf O rows (set.take i)=(bs,pl)/\((∀r∈bs,Dv.Ok q rows.length r)/\pl.length=bs.length/\(∀y∈pl,y<rows.length)/\bs.length<=i/\out.length=bs.length)/\(out.length=i->Al.BasP h rows.length rows bs pl (set.take i))/\zB w wr
def GreedyPost{q:Nat}{O:Ops}(h:Al.Fld q O)(w:Wo)(rows:LL)(set:LN)(e:Ending)(w':Wo):Prop:=
 (∃A c,e=.returned (.slice A (gf O rows set).1.length c)/\((gf O rows set).1.length=set.length->∃bs pl,Al.BasP h rows.length rows bs pl set))/\zB w w'
theorem greedy_c(bp gb p m:Nat)(md l:LN)(P M Ma N S:Value)(mm ww k:Int)(A:OA)(ca n:Nat)(rows:LL)(set:LN)(As:OA)(cs:Nat)(w:Wo)(hF:FT p m md l)(hG:GFAt w w.heap.size gb p m l (logL l (p ^ m)))(hp:PrAt w bp (pcs gb P M Ma N (zL A rows.length ca) mm ww S k))(hA:zR w A (nzs rows))(hg:∀ r∈rows,Dv.Ok (p ^ m) n r)(hl:rows.length<=64)(hS:zI w As (nz set))(bs:∀ s∈set,s<n)(bv:set.length<=1000):
 zC 259 #[zP bp,zL As set.length cs,Y (set.length:Int)] w (GreedyPost (Al.fld_of hF) w rows set):=by
 have ar:zK (∀(W:Wo)(i:Nat),zB w W->i<n->zC 263 (Cm bp i) W fun e w'=>e=.returned (zS W.heap.size rows.length rows.length)/\Row w' W.heap.size W.heap.size rows.length (nz (Al.colOf rows i))/\zB W w'):=fun W i hW hi=>column_c bp gb P M Ma N S mm ww k A ca (p^m) n rows i W (hp.grow hW) ((hA.keep hW).more hW.size) hg hi hl;have ak:zK (∀(W:Wo)(g bb c:Nat)(D:Nat->Prop)(d:LL)(pl v:LN),zB w W->(∀k,D k->k<W.heap.size)->D g->BasAt W w.heap.size D bb gb d pl->Row W w.heap.size g c (nz v)->Dv.Ok (p^m) rows.length v->(∀r∈d,Dv.Ok (p^m) rows.length r)->pl.length=d.length->(∀y∈pl,y<rows.length)->d.length<=1000->zC 262 #[zP bb,zS g rows.length c] W (AddPost W (opsT p m l) w.heap.size D bb gb g d pl (Al.redG (opsT p m l) d pl v d.length))):=fun W g bb c D d pl v hW h1 h2 h3 h4 h5 h6 h7 h8 h9=>badd_c bb gb g c p m md l w.heap.size D d pl v rows.length W hF (hG.keep hW) hW.size h1 h2 h3 h4 h5 h6 h7 h8 hl h9;have h:=Al.fld_of hF;have y0:w.cell? (zA bp 0)=some (zP gb):=hp.cell 0;have I:zK (∀i,Dv.Ok (p^m) rows.length (Al.colOf rows i)):=col_okX (by have:=h.q1;omega) hg;have HS:=zH hS;have bf:=zH bs;have HL:=zH hl;have a0:=zH bv;revert h;generalize Al.fld_of hF=h;intro _;clear hF hG hp hA hg hS bs;generalize opsT p m l=O at *;generalize p^m=q at *;go_enter func259,ntmps259;go_wp2_with fail;have ax:zK (RelGr h w w.heap.size gb rows set (zL none 0 0) (Y ((0:Nat):Int)) (w.alloc (.cells #[zP gb,zL none 0 0,zL none 0 0] 269))):=⟨0,[],[],[],U0,rfl,EOwn.nil,BasAt.nil,by rw[List.take_zero];rfl,⟨U2,rfl,U2,U2,rfl⟩,fun _=>by rw[List.take_zero];exact Al.BasP.nil _ _,zV.alloc zn _⟩;clear y0;go_loopw [8,19] (fun v8 v19 wr=>RelGr h w w.heap.size gb rows set v8 v19 wr) (fun _ v19 _=>set.length-(intOf v19).toNat);case atStart=>exact ax.o
 case round =>
  obtain⟨i,f,d,pl,hi,rfl,E,j,u,⟨a4,a8,a9,bo,a7⟩,hP,hb⟩:=hrel;obtain⟨L,V,rfl,_⟩:=E.form;have C:=zH E;have R:=zH j;have x:=zH a4;have ab:=zH a9;have HP:=zH hP;have HB:=zH hb;have Z:=zH u;clear E j a4 a9 hP hb ax u;have aa:=zH a8;have t:=zH a7;clear a8 a7;by_cases K:i<set.length
  . obtain ⟨b,o,rfl,bq,hc⟩ := (HS.o.keep HB.o).at_ (k := i) (by rw [qaA];exact K);rw [qaC] at hc;(have bj:set.getD i 0<n:=bf.o _ (Al.mem_getD' K));(have ac:zK (set.take (i+1)=set.take i++[set.getD i 0]):=by show _=_;rw [List.take_succ_eq_append_getElem K];simp [List.getD,K]);(generalize bu:set.getD i 0=s at *);(have bt:f.length<set.length:=by have:=t.o;omega);have br:(((f.length:Nat):Int)==(set.length:Int))=false:=beq_false_of_ne U0;have i0:(0:Int)<=(i:Int):=U0;have i1:(i:Int)<(set.length:Int):=U0;have HC:=zH (ar.o wr s HB.o bj);go_wp2_with fail;go_fit HC.o;rintro e w1 ⟨rfl,hrow,hb1⟩;have a5:=HB.o.size;have bg:=hb1.size;have al:zK (zB w w1):=HB.o.trans (hb1.mono a5);have U:zK (EOwn 3 IntE (fun _=>False) w1 w.heap.size (zL L f.length V) f):=C.o.grow intE hb1;have T:zK (∀ k,(Value.slice L f.length V).ownBlock=some k->k<wr.heap.size):=fun k e=>(C.o.own_lt k e).2;have bh:=hrow.lt.2;have Q:zK (BasAt w1 w.heap.size (fun k=>(Value.slice L f.length V).ownBlock=some k\/k=wr.heap.size) w.heap.size gb d pl):=(R.o.turn (fun k hk h=>h.resolve_right U0)).of_blocks bg fun k hk _=>hb1.block k hk
    have aj:=zH (ak.o w1 wr.heap.size w.heap.size rows.length _ d pl (Al.colOf rows s) al.o (fun k hk=>by
     rcases hk with hk|rfl
     . have:=T.o k hk
       omega
     . exact bh) (.inr rfl) Q.o (hrow.base a5) (I.o s) x.o aa.o ab.o (by have:=a0.o;omega))
    have ay:zK ((Al.redG O d pl (Al.colOf rows s) d.length).length=rows.length):=(redG_okX h x.o (I.o s) _ zn).1;clear hrow hb1 R C HC;go_wp2_with fail;go_fit aj.o;rintro e w2 ⟨hb2,hs2,hf2,hc2⟩;have H:zK (zB w w2):=al.o.trans hb2;have B:zK (EOwn 3 IntE (fun _=>False) w2 w.heap.size (zL L f.length V) f):=U.o.of_blocks intE hs2 fun k hk hp=>by
     rcases hp with e|hp
     . exact hf2 k hk (.inl e) (by have:=T.o k e;omega)
     . exact hp.elim
    clear hb2 hf2 U Q aj;rcases hc2 with⟨hm,rfl,j⟩|⟨P,af,J,ae,rfl,j⟩
    . (have z : zK (gf O rows (set.take (i + 1)) = (d,pl)):=by show _=_;rw[ac.o,gf_snoc,Z.o];unfold gst;exact if_pos (by rw[hm];decide));have an:zK (BasAt w2 w.heap.size (fun k=>(Value.slice L f.length V).ownBlock=some k) w.heap.size gb d pl):=j.turn fun k _ h=>.inl h;clear j;go_wp2;go_roundw;case rel=>exact⟨i+1,f,d,pl,U0,U3,B.o,an.o,z.o,⟨x.o,aa.o,ab.o,U0,t.o⟩,fun e=>by have:=t.o;omega,H.o⟩
      case measure=>simp[intOf];omega
    . (have z : zK (gf O rows (set.take (i + 1)) = (d ++ [scaleRow O (O.inv ((Al.redG O d pl (Al.colOf rows s) d.length).getD P 0)) (Al.redG O d pl (Al.colOf rows s) d.length)],pl ++ [P])) := by show _=_;rw [ac.o,gf_snoc,Z.o];unfold gst;rw [if_neg (by rw [af];omega),af];rfl);clear af;(have a1:zK (f.length=i->Al.BasP h rows.length rows (d++[scaleRow O (O.inv ((Al.redG O d pl (Al.colOf rows s) d.length).getD P 0)) (Al.redG O d pl (Al.colOf rows s) d.length)]) (pl++[P]) (set.take (i+1))):=fun e=>by rw [ac.o];exact (HP.o e).snoc (I.o s) (by rw [<- ay.o];exact J) ae);have aq:zK (∀ r∈d++[scaleRow O (O.inv ((Al.redG O d pl (Al.colOf rows s) d.length).getD P 0)) (Al.redG O d pl (Al.colOf rows s) d.length)],Dv.Ok q rows.length r):=fun r hr=>by
       rcases List.mem_append.1 hr with hr|hr
       . exact x.o r hr
       . rw[List.mem_singleton.1 hr];have ah:=redG_okX h x.o (I.o s) (pl:=pl) _ zn;have hx:=Al.getD_ok ah.2 (by have:=h.q1;omega) P;exact⟨by unfold scaleRow;rw[List.length_map,ah.1],(qeG h.self (h.invL _ hx ae) ah.2).2⟩
      rw[ay.o] at J;have aw:zK (∀y∈pl++[P],y<rows.length):=fun y hy=>by
       rcases List.mem_append.1 hy with hy|hy
       . exact ab.o y hy
       . rw[List.mem_singleton.1 hy];exact J
      (have av:zK ((pl++[P]).length=(d++[scaleRow O (O.inv ((Al.redG O d pl (Al.colOf rows s) d.length).getD P 0)) (Al.redG O d pl (Al.colOf rows s) d.length)]).length):=by show _=_;rw [List.length_append,List.length_append,aa.o];rfl);(have ap:zK ((d++[scaleRow O (O.inv ((Al.redG O d pl (Al.colOf rows s) d.length).getD P 0)) (Al.redG O d pl (Al.colOf rows s) d.length)]).length=d.length+1):=by show _=_;rw [List.length_append];rfl);generalize d++[scaleRow O (O.inv ((Al.redG O d pl (Al.colOf rows s) d.length).getD P 0)) (Al.redG O d pl (Al.colOf rows s) d.length)]=ad at *;generalize pl++[P]=ai at *;obtain ⟨i0,hi,ba,bc,bd⟩:=qaF infoInt;have bm:=H.o.size;obtain ⟨v4,w4,X,ag,a3,bi,a6,a2⟩:=(B.o.grow intE (zV.alloc zn (.cells #[Y (s:Int)] 3))).append intE underlying23 hi ba bc bd rfl dc so (heap_alloc_new w2 (.cells #[Y (s:Int)] 3)) (show IntE _ _ (Y (s:Int)) s from rfl) (by have:=a0.o;omega);obtain ⟨A4,c4,rfl,_⟩:=ag.form;(have bn:zK ((f++[s]).length=f.length+1):=by show _=_;rw [List.length_append];rfl);generalize (f++[s]).length=k4 at *;have ao:zK (BasAt w4 w.heap.size (fun k=>(Value.slice A4 k4 c4).ownBlock=some k) w.heap.size gb ad ai):=by
       have h1:BasAt w2 w.heap.size (fun k=>((Value.slice L f.length V).ownBlock=some k\/k=wr.heap.size)\/(Value.slice A4 k4 c4).ownBlock=some k) w.heap.size gb ad ai:=j.turn fun k hk h=>by
        rcases h with h|h
        . exact h
        . rcases a2 with e|e
          . exact .inl (by rw[e];exact h)
          . rw[h] at e;injection e with e;simp at e;omega
       exact(h1.of_blocks (w':=w4) (by simp at bi;omega) fun k hk hn=>(a6 k so fun e=>hn (.inl (.inl e))).trans (heap_alloc_old _ _ hk)).turn fun k _ h=>.inr h
      have be:zK (zB w w4):=(H.o.trans (zV.alloc bm _)).trans a3;have az:=zH X;have au:=zH ag;clear X ag a3 a6 a2 j B H hi ba bc bd J ae;go_wp2_with (at_builtin;refine qaP rfl (.tmp 32) (.tmp 34) 23 rfl rfl rfl az.o ?_);go_roundw;case rel=>exact⟨i+1,f++[s],ad,ai,U0,U3,au.o,ao.o,z.o,⟨aq.o,av.o,aw.o,by rw[ap.o];omega,by rw[List.length_append,ap.o,<- t.o];rfl⟩,fun e=>a1.o (by rw[List.length_append,List.length_singleton] at e;omega),be.o⟩
      case measure=>simp[intOf];omega
  . (obtain rfl:i=set.length:=by omega);go_wp2;go_ret;have u:=Z.o;rw[List.take_length] at u;refine⟨⟨L,V,by rw[u];exact congrArg (fun n=>Ending.returned (zL L n V)) t.o,fun e=>⟨d,pl,?_⟩⟩,HB.o⟩;rw[u,<- t.o] at e;have:=HP.o e;rw[List.take_length] at this;exact this
def PreOk(n:Nat)(S:LN)(zs:LI)(i:Nat):Prop:=∀j,j<i->0<=zs.getD j 0/\zs.getD j 0<(n:Int)/\(0<j->zs.getD (j-1) 0<zs.getD j 0)/\zs.getD j 0∉nz S
theorem PreOk.step{n:Nat}{S:LN}{zs:LI}{i:Nat}(h:PreOk n S zs i)(b:0<=zs.getD i 0)(c:zs.getD i 0<(n:Int))(d:0<i->zs.getD (i-1) 0<zs.getD i 0)(f:zs.getD i 0∉nz S):PreOk n S zs (i+1):=fun j hj=>by
 by_cases e:j=i
 . subst e
   exact⟨b,c,d,f⟩
 . exact h j U0
theorem PreOk.asc{n:Nat}{S:LN}{zs:LI}{i:Nat}(h:PreOk n S zs i):∀ j,j<i->(j:Int)<=zs.getD j 0:=fun j=>by
 induction j with
 |zero=>intro b;exact(h 0 b).1
 |succ j ih=>
   intro b
   have d:=ih U0
   have c:=(h (j+1) b).2.2.1 U0
   rw[Nat.add_sub_cancel] at c
   omega
theorem PreOk.le{n:Nat}{S:LN}{zs:LI}{i:Nat}(h:PreOk n S zs i):i<=n:=by
 rcases Nat.eq_zero_or_pos i with e|e
 . omega
 . have b:=h.asc (i-1) U0;have c:=(h (i-1) U0).2.1;omega
theorem PreOk.nat{n:Nat}{S:LN}{zs:LI}(h:PreOk n S zs zs.length):∃set:LN,zs=nz set/\(∀s∈set,s<n/\s∉S)/\set.length<=n:=by
 have c:zs=nz (zs.map Int.toNat):=by unfold nz;rw[List.map_map];refine(List.ext_getElem U2 fun j b d=>?_);have:=(h j b).1;rw[show zs.getD j 0=zs[j] by simp[List.getD,b]] at this;simp;omega
 have i:∀s∈zs.map Int.toNat,s<n/\s∉S:=fun s hs=>by obtain⟨z,c,rfl⟩:=List.mem_map.1 hs;obtain⟨j,g,rfl⟩:=List.getElem_of_mem c;obtain⟨b,d,_,f⟩:=h j g;rw[show zs.getD j 0=zs[j] by simp[List.getD,g]] at b d f;refine⟨U0,fun hS=>f ?_⟩;unfold nz;exact List.mem_map.2 ⟨_,hS,so⟩
 exact⟨zs.map Int.toNat,c,i,by rw[List.length_map];exact h.le⟩
def RelRt(w:Wo)(n:Nat)(S:LN)(zs:LI)(v11:Value)(wr:Wo):Prop:=
 ∃i d:Nat,i<=zs.length/\v11=Y (i:Int)/\PreOk n S zs i/\wr=w.drewN d
def RightIs(O:Ops)(mm:Int)(n:Nat)(rows:LL)(S:LN)(zs:LI):Prop:=PreOk n S zs zs.length/\(gf O rows (zs.map Int.toNat)).1.length=zs.length/\(zs.length:Int)=mm
def RightPost{q:Nat}{O:Ops}(h:Al.Fld q O)(w:Wo)(b:Bool)(n:Nat)(rows:LL)(S:LN)(zs:LI)(e:Ending)(w':Wo):Prop:=
 (e=.returned (.bool b)/\(b=true->∃set:LN,zs=nz set/\(∀s∈set,s<n/\s∉S)/\∃bs pl,Al.BasP h rows.length rows bs pl set))/\zB w w'
theorem nz_backX(v:LN):(nz v).map Int.toNat=v:=by
 unfold nz;rw[List.map_map];conv=>rhs;rw[<- List.map_id v]
 exact List.map_congr_left fun x _=>U2
theorem right_c(bp gb p m:Nat)(md l:LN)(P M Ma SS:Value)(mm ww k:Int)(A:OA)(ca n:Nat)(rows:LL)(S:LN)(AS:OA)(cS:Nat)(zs:LI)(Az:OA)(cz:Nat)(w:Wo)(hF:FT p m md l)(hG:GFAt w w.heap.size gb p m l (logL l (p ^ m)))(hp:PrAt w bp (pcs gb P M Ma (Y (n:Int)) (zL A rows.length ca) mm ww SS k))(hA:zR w A (nzs rows))(hg:∀ r∈rows,Dv.Ok (p ^ m) n r)(hl:rows.length<=64)(hn:n<=64)(hS:zI w AS (nz S))(ar:S.length<=1000)(hZ:zI w Az zs)(b:Bool)(aq:b=true ↔ RightIs (opsT p m l) mm n rows S zs):
 zC 247 #[zP bp,zL AS S.length cS,zL Az zs.length cz] w (RightPost (Al.fld_of hF) w b n rows S zs):=by
 have J:zK (∀(d:Nat)(set:LN),zs=nz set->(∀s∈set,s<n)->set.length<=1000->zC 259 #[zP bp,zL Az zs.length cz,Y (zs.length:Int)] (w.drewN d) (GreedyPost (Al.fld_of hF) (w.drewN d) rows set)):=fun d set e h1 h2=>by
  have N:=qaB (Below.refl w.heap.size w) d;subst e;have:=greedy_c bp gb p m md l P M Ma (Y (n:Int)) SS mm ww k A ca n rows set Az cz (w.drewN d) hF (hG.keep N) (hp.grow N) (hA.keep N) hg hl (hZ.keep N) h1 h2
  rw[qaA];exact this
 have Q:zK (∀(d:Nat)(x:Int),zC 77 #[zL AS S.length cS,Y x] (w.drewN d) (Quiet (.bool (decide (x∈nz S))) (w.drewN d))):=fun d x=>by have N:=qaB (Below.refl w.heap.size w) d;have:=contains_c (nz S) x AS cS (w.drewN d) (hS.keep N) (by rw[qaA];omega);rw[qaA] at this;exact this
 have y4:w.cell? (zA bp 4)=some (Y (n:Int)):=hp.cell 4;have Z:=zH hp;have HZ:=zH hZ;have R:zK (RelRt w n S zs (Y ((0:Nat):Int)) w):=⟨0,0,U0,rfl,fun j hj=>absurd hj (Nat.not_lt_zero j),rfl⟩;have h:=Al.fld_of hF;revert h J;generalize Al.fld_of hF=h;intro J _;have I:=zH aq;clear hF hG hp hA hg hS ar hZ aq;generalize opsT p m l=O at *;generalize p^m=q at *;go_enter func247,ntmps247;go_wp2_with fail;clear y4;go_loopw [11] (fun v11 wr=>RelRt w n S zs v11 wr) (fun v11 _=>zs.length-(intOf v11).toNat);case atStart=>exact R.o
 case round =>
  obtain⟨i,d,hi,rfl,H,rfl⟩:=hrel;have g:=zH H;have f:zK (i<zs.length->¬(0<=zs.getD i 0/\zs.getD i 0<(n:Int)/\(0<i->zs.getD (i-1) 0<zs.getD i 0)/\zs.getD i 0∉nz S)->b=false):=fun hi hn=>by
   cases C:b with
   |false=>rfl
   |true=>exact absurd ((I.o.1 C).1 i hi) hn
  clear H R;have al:=g.o.le;have y4:(w.drewN d).cell? (zA bp 4)=some (Y (n:Int)):=Z.o.cell 4;by_cases W:i<zs.length
  . obtain ⟨bz,o,rfl,ai,hc⟩ := HZ.o.at_ (k := i) W;have V:(w.drewN d).cell? (zA bz (o+i))=some (Y (zs.getD i 0)):=hc;have B:=zH (g.o.step);have f:=zH (f.o W);have i0:(0:Int)<=(i:Int):=U0;have i1:(i:Int)<(zs.length:Int):=U0;clear hc;generalize zs.getD i 0=z at *;by_cases ap:z<0
    . go_wp2;go_ret;have c:=f.o (fun h=>U0);subst c;exact⟨⟨rfl,fun h=>by cases h⟩,qaB zV d⟩
    . by_cases ac : z ≥ (n : Int)
      . go_wp2;go_ret;have c:=f.o (fun h=>U0);subst c;exact⟨⟨rfl,fun h=>by cases h⟩,qaB zV d⟩
      . have af : ¬ (n : Int) <= z := ac;rcases Nat.eq_zero_or_pos i with rfl|hip
        . (have ae : 0 <= z := by omega);have aj:(w.drewN d).cell? (zA bz o)=some (Y z):=V;clear V;have y:=zH (Q.o d z);by_cases D:z∈nz S
          . rw[decide_eq_true D] at y;go_wp2_with fail;go_fit y.o;rintro e w' ⟨rfl,d2,rfl⟩;rw[World.drewN_drewN];go_wp2;go_ret;have c:=f.o (fun h=>h.2.2.2 D);subst c;exact⟨⟨rfl,fun h=>by cases h⟩,qaB zV _⟩
          . rw[decide_eq_false D] at y;go_wp2_with fail;go_fit y.o;rintro e w' ⟨rfl,d2,rfl⟩;rw[World.drewN_drewN];go_wp2;go_roundw;case rel=>exact⟨0+1,d+d2,U0,U3,B.o U0 U0 (fun h=>absurd h (Nat.lt_irrefl _)) D,rfl⟩
            case measure=>simp[intOf];omega
        . obtain ⟨j,rfl⟩ : ∃ j,i = j + 1 := ⟨i - 1,U0⟩;(have ak:(w.drewN d).cell? (zA bz (o+j))=some (Y (zs.getD j 0)):=by obtain ⟨b',o',e,_,hc⟩:=HZ.o.at_ (k:=j) U0;injection e with e;injection e with e1 e2;subst e1;subst e2;exact hc);have f:zK (¬ (0<=z/\z<(n:Int)/\(0<j+1->zs.getD j 0<z)/\z∉nz S)->b=false):=f.o;have B:zK (0<=z->z<(n:Int)->(0<j+1->zs.getD j 0<z)->z∉nz S->PreOk n S zs (j+1+1)):=B.o;(have ao:IntKind.i64.wrap (((j+1:Nat):Int)-1)=(j:Int):=by rw [IntWalk.i64_in _ U0];omega);generalize zs.getD j 0=zp at *;by_cases ad:z<=zp
          . go_wp2;go_ret;have c:=f.o (fun h=>by have:=h.2.2.1 U0;omega);subst c;exact⟨⟨rfl,fun h=>by cases h⟩,qaB zV d⟩
          . have y := zH (Q.o d z);have ag:¬ z<=zp:=ad;by_cases D:z∈nz S
            . rw[decide_eq_true D] at y;go_wp2_with fail;go_fit y.o;rintro e w' ⟨rfl,d2,rfl⟩;rw[World.drewN_drewN];go_wp2;go_ret;have c:=f.o (fun h=>h.2.2.2 D);subst c;exact⟨⟨rfl,fun h=>by cases h⟩,qaB zV _⟩
            . rw[decide_eq_false D] at y;go_wp2_with fail;go_fit y.o;rintro e w' ⟨rfl,d2,rfl⟩;rw[World.drewN_drewN];go_wp2;go_roundw;case rel=>exact⟨j+1+1,d+d2,U0,U3,B.o U0 U0 (fun _=>U0) D,rfl⟩
              case measure=>simp[intOf];omega
  . (obtain rfl : i = zs.length := by omega);have K:=g.o;obtain ⟨set,u,t,an⟩:=K.nat;have T:=zH t;have HG:=zH (J.o d set u (fun s hs=>(t s hs).1) U0);have aa:=zH u;(have X:zs.map Int.toNat=set:=by rw [u,nz_backX]);(have ab:zK (set.length=zs.length):=by show _=_;rw [u,qaA]);(have E:zK (b=true ↔ (gf O rows set).1.length=zs.length/\(zs.length:Int)=mm):=by have:=I.o;unfold RightIs at this;rw [X] at this;exact ⟨fun e=>(this.1 e).2,fun e=>this.2 ⟨K,e⟩⟩);have y3:(w.drewN d).cell? (zA bp 7)=some (.bool false):=Z.o.cell 7;clear u t g K X I f;go_wp2_with fail;go_fit HG.o;rintro e w1 ⟨⟨Ag,cg,rfl,hL⟩,hb1⟩;have v:zK (zB w w1):=(qaB zV d).trans hb1;have HL:zK ((gf O rows set).1.length=set.length->∃ bs pl,Al.BasP h rows.length rows bs pl set):=hL;clear hb1 hL HG y3 y4;generalize (gf O rows set).1.length=L at *;by_cases U:L=zs.length
    . subst U;have HQ:=zH (HL.o ab.o.symm);have y7:w1.cell? (zA bp 7)=some (.bool false):=(Z.o.grow v.o).cell 7;have y8:w1.cell? (zA bp 8)=some (Y mm):=(Z.o.grow v.o).cell 8;have C:((zs.length:Int)==mm)=b:=by
       have:=E.o;cases b with
       |false=>exact beq_false_of_ne fun e=>by have:=this.2 ⟨rfl,e⟩;cases this
       |true=>exact beq_iff_eq.2 (this.1 rfl).2
      go_wp2;go_ret;exact⟨⟨rfl,fun _=>⟨set,aa.o,T.o,HQ.o⟩⟩,v.o⟩
    . have ah : ((L : Int) != (zs.length : Int)) = true := bne_iff_ne.2 U0;have c:b=false:=by
       cases C:b with
       |false=>rfl
       |true=>exact absurd (E.o.1 C).1 U
      subst c;go_wp2;go_ret;exact⟨⟨rfl,fun h=>by cases h⟩,v.o⟩
theorem EOwn.of_row{w:Wo}{B g c:Nat}{L:LN}(h:Row w B g c (nz L)):EOwn 3 IntE (fun _=>False) w B (zS g L.length c) L:=
 ⟨(nz L).map (Value.int .i64),by have:=h;unfold Row at this;rw[qaA] at this;exact this,fun j x hj=>⟨_,by unfold nz;rw[List.map_map,List.getElem?_map,hj];rfl,rfl⟩⟩
theorem EOwn.intsQ{w:Wo}{B:Nat}{A:OA}{c:Nat}{L:LN}{q:Nat->Prop}(h:EOwn 3 IntE (fun _=>False) w B (zL A L.length c) L)(o:∀k,B<=k->k<w.heap.size->q k):IntsQ w q A (nz L):=fun hz=>by
 rw[qaA] at hz
 obtain⟨m,n,e,_,i⟩:=h.form
 injection e with e1 _ e3
 subst e1
 obtain⟨g,rfl,d,b,f⟩:=i hz
 refine⟨g,0,rfl,o g d b,b,fun j hj=>?_⟩
 rw[qaA] at hj
 obtain⟨u,l,rfl⟩:=f j L[j] (List.getElem?_eq_getElem hj)
 rw[Nat.zero_add,l,qaC]
 simp[List.getD,hj]
theorem clone_own(L:LN)(A:OA)(c:Nat)(w:Wo)(p:zI w A (nz L))(q:L.length<=1000000):
 zC 74 #[zL A L.length c] w fun e w'=>(∃A' c',e=.returned (zL A' L.length c')/\EOwn 3 IntE (fun _=>False) w' w.heap.size (zL A' L.length c') L)/\zB w w':=by
 rcases Nat.eq_zero_or_pos L.length with h0|h0
 . obtain rfl : L = []:=List.length_eq_zero_iff.1 h0;clear p q h0;cases A with
   |none=>have d:∀(W:Wo),(binOp .eql 23 (zL none 0 c) (zL none 0 0)).run prog W=.ok (.bool true) W:=fun W=>Lib.run_eql_slice_nil W 23 3 none 0 c 0 0 underlying23;go_enter func74,ntmps74;go_wp2;go_ret;exact⟨⟨none,0,rfl,EOwn.nil⟩,Below.refl _ _⟩
   |some a=>obtain⟨m,j,f,h,i⟩:=qaF infoInt;have b:zK (Row (w.alloc (.cells #[] 3)) w.heap.size w.heap.size 0 (nz [])):=World.ownsRow_made w #[] 0 zn ml rfl;have k:zK (zB w (w.alloc (.cells #[] 3))):=zV.alloc zn _;have d:∀(W:Wo)(a:OA)(n c n' c':Nat),(binOp .eql 23 (zL a n c) (zL none n' c')).run prog W=.ok (.bool a.isNone) W:=fun W a n c n' c'=>Lib.run_eql_slice_nil W 23 3 a n c n' c' underlying23;have l:(Builtin.append_ #[23,23] 23 #[zS w.heap.size 0 0,zL (some a) 0 c]).run prog (w.alloc (.cells #[] 3))=.ok (zS w.heap.size 0 0) (w.alloc (.cells #[] 3)):=qfH (w.alloc (.cells #[] 3)) w.heap.size 23 23 3 m 1 underlying23 j (zS w.heap.size 0 0) 0 [] b.o (some a) c;clear j f h i;go_enter func74,ntmps74;go_wp2;go_ret;exact⟨⟨_,_,rfl,EOwn.of_row b.o⟩,k.o⟩
 . have:=sclone_c (nz L) A c w p (by rw[qaA];exact h0) (by rw[qaA];exact q);rw[qaA] at this;exact this.mono fun e w' ⟨⟨g,c',h1,h2⟩,h3⟩=>⟨⟨_,c',h1,EOwn.of_row h2⟩,h3⟩
theorem nodup_le{n:Nat}{L:LN}(d:L.Nodup)(f:∀i∈L,i<n):L.length<=n:=by
 have c:=Al.ns_inj (n:=n) (N:=L.length) (P:=fun j=>L.getD j 0) (fun _=>1) (fun j hj=>f _ (Al.mem_getD' hj)) (fun i j hij hj e=>by
  have b:i<L.length:=U0
  rw[Al.getD_at b,Al.getD_at hj] at e
  exact Nat.lt_irrefl _ ((List.getElem_inj (h₀:=b) (h₁:=hj) d).1 e ▸ hij))
 rwa [Al.ns_one,Al.ns_one] at c
theorem qeT{w w':Wo}{b:Option Nat}(h:zB w w'):w.grownBy w' b:=⟨h.os,h.tape,h.output,h.size,fun k hk _=>h.block k hk⟩
theorem IntsQ.grow{w w':Wo}{b:Nat}{A:OA}{zs:LI}(h:IntsQ w (fun k=>k≠b) A zs)(g:w.grownBy w' (some b)):IntsQ w' (fun k=>k≠b) A zs:=fun hz=>by
 obtain⟨k,o,e,d,c,f⟩:=h hz
 exact⟨k,o,e,d,Nat.lt_of_lt_of_le c g.size,fun j hj=>(qeY g c d).trans (f j hj)⟩
theorem EOwn.keepX{w w':Wo}{B b:Nat}{v:Value}{L:LN}(h:EOwn 3 IntE (fun _=>False) w B v L)(c:w.grownBy w' (some b))(d:b<B):EOwn 3 IntE (fun _=>False) w' B v L :=
 h.of_blocks intE c.size fun k hk hp=>c.block k hk fun e=>by
  injection e with e
  rcases hp with hp|hp
  . have:=(h.own_lt k hp).1
    omega
  . exact hp.elim
theorem grown_below{w d f:Wo}{b:Option Nat}(h:w.grownBy d b)(c:Below w.heap.size d f):w.grownBy f b:=
 ⟨c.os.trans h.os,c.tape.trans h.tape,c.output.trans h.output,Nat.le_trans h.size c.size,fun k hk hne=>(c.block k hk).trans (h.block k hk hne)⟩
def XckPost(w:Wo)(bp:Nat)(cs:Int->List Value)(N:Nat)(Q:Prop)(e:Ending)(w':Wo):Prop:=
 ∃(ec:Int)(k':Nat),e=.returned (Y ec)/\k'<=N/\PrAt w' bp (cs k')/\w.grownBy w' (some bp)/\(ec=0->Q)
def RelCh{q:Nat}{O:Ops}(h:Al.Fld q O)(n ww:Nat)(rows:LL)(S Z set:LN)(w:Wo)(bp:Nat)(cs:Int->List Value)(N:Nat)(v2 v25:Value)(wr:Wo):Prop:=
 ∃(i k:Nat)(Zi:LN),i<=set.length/\v25=Y (i:Int)/\k<=N/\EOwn 3 IntE (fun _=>False) wr w.heap.size v2 Zi/\PrAt wr bp (cs k)/\w.grownBy wr (some bp)/\(Zi.Nodup/\∀z∈Zi,z<n)/\(Al.Kids h n ww rows S Zi (set.drop i)->Al.Kids h n ww rows S Z set)
theorem children_c{q:Nat}{O:Ops}(h:Al.Fld q O)(n ww bp:Nat)(rows:LL)(S Z set:LN)(AS:OA)(cS:Nat)(AZ:OA)(cZ:Nat)(At:OA)(ct:Nat)(cs:Int->List Value)(N k:Nat)(w:Wo)(hp:PrAt w bp (cs k))(hk:k<=N)(h9:∀ j,(cs j)[9]?=some (Y (ww:Int)))(hS:IntsQ w (fun k=>k≠bp) AS (nz S))(hZ:IntsQ w (fun k=>k≠bp) AZ (nz Z))(hT:IntsQ w (fun k=>k≠bp) At (nz set))(bt:S.length<=ww)(bv:ww<=64)(hn:n<=64)(bq:Z.Nodup/\∀ z∈Z,z<n)(bs:∀ s∈set,s<n)(bu:set.length<=1000)(br:∀ (W:Wo)(s:Nat)(Z':LN)(AS':OA)(cS':Nat)(AZ':OA)(cZ' k':Nat),w.grownBy W (some bp)->s∈set->S.length<ww->IntsQ W (fun k=>k≠bp) AS' (nz (S++[s]))->IntsQ W (fun k=>k≠bp) AZ' (nz Z')->(Z'.Nodup/\∀ z∈Z',z<n)->k'<=N->PrAt W bp (cs k')->zC 221 #[zP bp,zL AS' (S++[s]).length cS',zL AZ' Z'.length cZ'] W (XckPost W bp cs N (Al.Cl h n ww rows (S++[s]) Z'))):
 zC 248 #[zP bp,zL AS S.length cS,zL AZ Z.length cZ,zL At set.length ct,.func (.func 221) #[zP bp] #[]] w (XckPost w bp cs N (S.length=ww\/Al.Kids h n ww rows S Z set)):=by
 have a0:=(Array.getElem?_eq_some_iff.1 hp).1;have y9:w.cell? (zA bp 9)=some (Y (ww:Int)):=(hp.cell 9).trans (h9 k);have HP:=zH hp;have HS:=zH hS;have HT:=zH hT;have au:=zH bs;have aq:=zH br;have ah:zK (zC 74 #[zL AZ Z.length cZ] w fun e w'=>(∃A' c',e=.returned (zL A' Z.length c')/\EOwn 3 IntE (fun _=>False) w' w.heap.size (zL A' Z.length c') Z)/\zB w w'):=clone_own Z AZ cZ w hZ.ints (by have:=nodup_le bq.1 bq.2;omega);have l:=zH bq;clear hp hS hZ hT bs br bq h9;go_enter func248,ntmps248;by_cases he:S.length=ww
 . (have a7:((S.length:Int)==(ww:Int))=true:=by rw[he];simp);go_wp2;go_ret;exact⟨0,k,rfl,hk,HP.o,World.grownBy.refl _ _,fun _=>.inl he⟩
 . have a7 : ((S.length : Int) == (ww : Int)) = false := beq_false_of_ne U0;have bd:S.length<ww:=U0;go_wp2_with fail;go_fit ah.o;rintro e w1 ⟨⟨A2,c2,rfl,f⟩,hb1⟩;have U:zK (RelCh h n ww rows S Z set w bp cs N (zL A2 Z.length c2) (Y ((0:Nat):Int)) w1):=⟨0,k,Z,U0,rfl,hk,f,HP.o.grow (hb1.mono zn),qeT hb1,l.o,fun h=>h⟩;clear f hb1 ah y9 HP l hk;go_wp2;go_loopw [2,25] (fun v2 v25 wr=>RelCh h n ww rows S Z set w bp cs N v2 v25 wr) (fun _ v25 _=>set.length-(intOf v25).toNat);case atStart=>exact U.o
   case round =>
    obtain⟨i,ki,c,hi,rfl,ac,f,a1,az,t,V⟩:=hrel;obtain⟨u,v,rfl,_⟩:=f.form;have y:=zH f;have R:=zH a1;have E:=zH az;have l:=zH t;have B:=zH V;clear f a1 az t V U;by_cases A:i<set.length
    . have av := HT.o.grow E.o;obtain ⟨b,o,rfl,_,bm,hc⟩:=av (by rw [qaA];omega);have ay:=hc i (by rw [qaA];exact A);rw [qaC] at ay;(have a2:set.getD i 0∈set:=Al.mem_getD' A);(have hdr:set.drop i=set.getD i 0 :: set.drop (i+1):=by rw [List.drop_eq_getElem_cons A];simp [List.getD,A]);have C:zK ((if set.getD i 0∈c then Al.Kids h n ww rows S c (set.drop (i+1)) else Al.Cl h n ww rows (S++[set.getD i 0]) c/\Al.Kids h n ww rows S (c++[set.getD i 0]) (set.drop (i+1)))->Al.Kids h n ww rows S Z set):=fun hh=>B.o (by rw [hdr];exact hh);clear hc av hdr B;(generalize set.getD i 0=s at *);have bo:c.length<=n:=nodup_le l.o.1 l.o.2;(have D:zK (zC 77 #[zL u c.length v,Y (s:Int)] wr (Quiet (.bool (decide ((s:Int)∈nz c))) wr)):=by have:=contains_c (nz c) (s:Int) u v wr (y.o.intsQ (q:=fun _=>True) fun _ _ _=>trivial).ints (by rw [qaA];omega);rw [qaA] at this;exact this);have i0:(0:Int)<=(i:Int):=U0;have i1:(i:Int)<(set.length:Int):=U0;by_cases hm:s∈c
      . have L : decide ((s : Int)∈ nz c) = true:=decide_eq_true (List.mem_map.2 ⟨s,hm,rfl⟩);rw[L] at D;clear L;go_wp2_with fail;go_fit D.o;rintro e w2 ⟨rfl,d,rfl⟩;have ba:w.grownBy (wr.drewN d) (some bp):=grown_trans E.o (grown_drewN wr d _);go_wp2;go_roundw;case rel=>exact⟨i+1,ki,c,U0,U3,ac,y.o,R.o,ba,l.o,fun hh=>C.o (by rw[if_pos hm];exact hh)⟩
        case measure=>simp[intOf];omega
      . (have L : decide ((s : Int) ∈ nz c) = false := decide_eq_false fun hh => by obtain ⟨x,hx,e⟩:=List.mem_map.1 hh;exact hm ((show x=s by omega) ▸ hx));rw [L] at D;clear L;go_wp2_with fail;go_fit D.o;rintro e w2 ⟨rfl,d,rfl⟩;have H:zK (EOwn 3 IntE (fun _=>False) (wr.drewN d) w.heap.size (zL u c.length v) c):=y.o.grow intE (qaB zV d);have T:zK (PrAt (wr.drewN d) bp (cs ki)):=R.o.grow (qaB zV d);have m:zK (w.grownBy (wr.drewN d) (some bp)):=grown_trans E.o (grown_drewN wr d _);clear y R E D ay;generalize wr.drewN d=wd at *;have bn:=m.o.size;have bj:S.length<=64:=U0;have af:=zH (clone_own S AS cS wd (HS.o.grow m.o).ints U0);go_wp2_with fail;go_fit af.o;rintro e w3 ⟨⟨A3,c3,rfl,hown3⟩,hb3⟩;obtain ⟨i0,K,M,P,t⟩:=qaF infoInt;have be:=hb3.size;obtain ⟨v4,w4,r,ad,aw,bf,a8,aa⟩:=(hown3.grow intE (zV.alloc zn (.cells #[Y (s:Int)] 3))).append intE underlying23 K M P t rfl dc so (heap_alloc_new w3 (.cells #[Y (s:Int)] 3)) (show IntE _ _ (Y (s:Int)) s from rfl) U0;obtain ⟨A4,c4,rfl,_⟩:=ad.form;have g:zK (zB wd w4):=(hb3.trans (zV.alloc be _)).trans aw;have p:=zH r;have ar:zK (IntsQ w4 (fun k=>k≠bp) A4 (nz (S++[s]))):=ad.intsQ fun k hk _=>U0;have X:zK (EOwn 3 IntE (fun _=>False) w4 w.heap.size (zL u c.length v) c):=H.o.grow intE g.o;have ag:=zH (clone_own c u v w4 (X.o.intsQ (q:=fun _=>True) fun _ _ _=>trivial).ints U0);have ap:=zH fun (w5:Wo) (A5:OA) (c5:Nat) (hb5:zB w4 w5) (ho5:EOwn 3 IntE (fun _=>False) w5 w4.heap.size (zL A5 c.length c5) c)=>aq.o w5 s c A4 c4 A5 c5 ki (grown_trans m.o (qeT (g.o.trans (hb5.mono g.o.size)))) a2 bd (ar.o.grow (qeT hb5)) (ho5.intsQ fun k hk _=>by have:=g.o.size;omega) l.o ac (T.o.grow (g.o.trans (hb5.mono g.o.size)));(have bb:(S++[s]).length=S.length+1:=by rw [List.length_append];rfl);clear hown3 hb3 r ad aw bf a8 aa K M P t af;generalize (S++[s]).length=L4 at *;subst bb;go_wp2_with (at_builtin;refine qaP rfl (.tmp 34) (.tmp 36) 23 rfl rfl rfl p.o ?_);go_fit ag.o;rintro e w5 ⟨⟨A5,c5,rfl,hown5⟩,hb5⟩;have ao:=zH (ap.o w5 A5 c5 hb5 hown5);have aj:zK (EOwn 3 IntE (fun _=>False) w5 w.heap.size (zL u c.length v) c):=X.o.grow intE hb5;have ai:zK (w.grownBy w5 (some bp)):=grown_trans m.o (qeT (g.o.trans (hb5.mono g.o.size)));clear hown5 hb5 ap ag X ar p g m T H;go_wp2_with fail;go_fit ao.o;rintro e w6 ⟨ec,k6,rfl,hk6,hpr6,hg6,hq6⟩;have I:=zH hpr6;have Q:zK (w.grownBy w6 (some bp)):=grown_trans ai.o hg6;have ak:zK (EOwn 3 IntE (fun _=>False) w6 w.heap.size (zL u c.length v) c):=aj.o.keepX hg6 a0;have a5:=zH hq6;clear hpr6 hg6 hq6 ao aj ai;by_cases ab:ec=0
        . subst ab;have HQ:=zH (a5.o rfl);have bg:=Q.o.size;obtain ⟨i0,K,M,P,t⟩:=qaF infoInt;obtain ⟨v7,w7,r,ae,ax,bh,a9,aa⟩:=(ak.o.grow intE (zV.alloc zn (.cells #[Y (s:Int)] 3))).append intE underlying23 K M P t rfl dc so (heap_alloc_new w6 (.cells #[Y (s:Int)] 3)) (show IntE _ _ (Y (s:Int)) s from rfl) U0;obtain ⟨A7,c7,rfl,_⟩:=ae.form;have p:=zH r;have al:=zH ae;have J:Below w.heap.size w6 w7:=(zV.alloc bg _).trans ax;have a4:zK (w.grownBy w7 (some bp)):=grown_below Q.o J;have an:zK (PrAt w7 bp (cs k6)):=(J.block bp a0).trans I.o;clear r ae ax bh a9 aa K M P t J ak Q I;(have bc:(c++[s]).length=c.length+1:=by rw [List.length_append];rfl)
          have a6:zK ((c++[s]).Nodup/\∀ z∈c++[s],z<n):=⟨List.nodup_append.2 ⟨l.o.1,U2,fun a ha b hb e=>hm (by rw [List.mem_singleton.1 hb] at e;rw [<- e];exact ha)⟩,fun z hz=>by
           rcases List.mem_append.1 hz with hz|hz
           . exact l.o.2 z hz
           . rw[List.mem_singleton.1 hz]
             exact au.o s a2⟩
          have a3:zK (Al.Kids h n ww rows S (c++[s]) (set.drop (i+1))->Al.Kids h n ww rows S Z set):=fun hh=>C.o (by rw[if_neg hm];exact⟨HQ.o,hh⟩);rw[bc] at p al;go_wp2_with (at_builtin;refine qaP rfl (.tmp 44) (.tmp 46) 23 rfl rfl rfl p.o ?_);go_roundw;case rel=>exact⟨i+1,k6,c++[s],U0,U3,hk6,al.o,an.o,a4.o,a6.o,a3.o⟩
          case measure=>simp[intOf];omega
        . have bi:(ec != 0)=true:=bne_iff_ne.2 ab;go_wp2;go_ret;exact⟨ec,k6,rfl,hk6,I.o,Q.o,fun e=>absurd e ab⟩
    . (obtain rfl:i=set.length:=by omega);go_wp2;go_ret;refine⟨0,ki,rfl,ac,R.o,E.o,fun _=>.inr (B.o ?_)⟩;rw[List.drop_length];exact trivial
end Go.Proofs.YtkcdlealipfnbaaGreat
