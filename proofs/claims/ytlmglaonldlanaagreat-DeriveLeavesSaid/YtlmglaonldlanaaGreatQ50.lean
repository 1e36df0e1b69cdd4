/-
 Plain: the claim of the rule of zeros; the law of the leaves. The argument, opened; the row's last step. The argument, opened: steps of a derivation. The argument, opened: a list of steps.
-/
import Derived.Test.YtlmglaonldlanaaGreatRows
import Derived.Test.YtlmglaonldlanaaGreatQ49
import Derived.Test.YtlmglaonldlanaaGreatQ26
import Derived.Test.YtlmglaonldlanaaGreatQ17
import Derived.KernelRfl
import Derived.Deep.Slices
import Derived.ChangeSame
import Derived.ProofKit
import Derived.OpenShut
import Derived.Deep.DeepHandedRow
namespace Go.Proofs.YtlmglaonldlanaaGreat
open Go.RowKit Pln
open Al
section
variable {p m m1:Nat} {md l md1 l1:List Nat}
theorem emb_of (hF:FT p m md l) (hF1:FT p m1 md1 l1) {r:Nat} (hr:r<p ^ m) (hmd:md1.length=m1) (hlt:∀ d∈md1,d<p) (h1:m1=1->md1=[0]) (hroot:m1=1\/evN (opsT p m l) (md1++[1]) r=0) :
 ∃ r',r'<p ^ m/\Emb hF hF1 (El.of (fld_of hF) r')/\∀ x,imN (opsT p m l) p m1 r x=imN (opsT p m l) p m1 r' x:=by
 have H:=El.fd (h:=fld_of hF)
 have hq1:=(fld_of hF).q1
 have hpq:p<=p ^ m:=Nat.le_self_pow (by have:=hF.small.m1;omega) p
 by_cases hm1:m1=1
 . refine ⟨0,by omega,⟨?_⟩,fun x => ?_⟩
   . rw [h1 hm1,hm1,El.of_zero]
     show (0+cst (fld_of hF) 0*1)+1*0=0
     rw [H.mulU,H.addZ,H.zadd]
     exact H.zmul 1
   . rw [hm1]
     rfl
 . rcases hroot with h | h
   . exact absurd h hm1
   . refine ⟨r,hr,⟨?_⟩,fun x => rfl⟩
     have hv:∀ a∈md1++[1],a<p ^ m:=fun a ha=>by
      rcases List.mem_append.1 ha with h | h
      . have:=hlt a h;omega
      . have : a = 1 := by simpa using h
        omega
     have e:=of_evN (h:=fld_of hF) hr (md1++[1]) hv
     rw [h,El.of_zero,ev_sm,List.map_append,List.length_append,List.length_map,hmd] at e
     show Es (fld_of hF) (El.of (fld_of hF) r) m1 md1+pwr (El.of (fld_of hF) r) m1=0
     rw [e]
     show _=sm m1 _+_
     congr 1
     . refine H.sm_congr fun j hj => ?_
       have e1:(md1.map (El.of (fld_of hF))++[1].map (El.of (fld_of hF))).getD j 0=El.of (fld_of hF) (md1.getD j 0):=by
        simp [List.getD,List.getElem?_append_left,hmd,hj]
       have hd:md1.getD j 0<p:=by
        rw [qbY (by omega)]
        exact hlt _ (List.getElem_mem _)
       rw [e1,(chr_of hF).of _ hd]
     . have e1 : (md1.map (El.of (fld_of hF)) ++ [1].map (El.of (fld_of hF))).getD m1 0 = El.of (fld_of hF) 1 := by
        simp [List.getD,hmd]
       show _=(md1.map (El.of (fld_of hF))++[1].map (El.of (fld_of hF))).getD m1 0*pwr (El.of (fld_of hF) r) m1
       rw [e1,El.of_one,H.mulU]
theorem zero_at (hF:FT p m md l) (hF1:FT p m1 md1 l1) {r r' a n z:Nat} (hr':r'<p ^ m) (him:∀ x,imN (opsT p m l) p m1 r x=imN (opsT p m l) p m1 r' x) (ha:a<p ^ m) (ha0:a≠0) {row:List Nat} (hrow:Dv.Ok (p ^ m1) n row)
 (hz:valN (opsT p m l) (imL (opsT p m l) p m1 r (p ^ m1)) row (powT l (logL l (p ^ m)) (p ^ m) a z)=0):ZeroAt hF hF1 (El.of (fld_of hF) r') (El.of (fld_of hF) a) n z (wd (fld_of hF1) row):=by
 have H:=El.fd (h:=fld_of hF)
 have hq1:=(fld_of hF).q1
 have hq11:=(fld_of hF1).q1
 have him2:∀ y,y<p ^ m1->(imL (opsT p m l) p m1 r (p ^ m1)).getD y 0=imN (opsT p m l) p m1 r' y:=fun y hy=>by
  rw [<- him y]
  unfold imL
  simp [List.getD,hy]
 have hpt:powT l (logL l (p ^ m)) (p ^ m) a z<p ^ m:=powT_lt hF ha z
 have hv:∀ b∈row.map (fun y=>(imL (opsT p m l) p m1 r (p ^ m1)).getD y 0),b<p ^ m:=fun b hb=>by
  obtain ⟨y,hy,rfl⟩:=List.mem_map.1 hb
  rw [him2 y (hrow.2 y hy)]
  exact imN_lt hF hr' _ _
 have e:=of_evN (h:=fld_of hF) hpt _ hv
 unfold valN at hz
 rw [hz,El.of_zero,of_powT hF ha ha0,ev_sm,List.length_map,List.length_map,hrow.1] at e
 unfold ZeroAt
 rw [e]
 refine H.sm_congr fun t ht=>?_
 congr 1
 have ht2:t<row.length:=by rw [hrow.1];exact ht
 have hyq:row.getD t 0<p ^ m1:=by rw [qbY ht2];exact hrow.2 _ (List.getElem_mem _)
 have e1:((row.map (fun y=>(imL (opsT p m l) p m1 r (p ^ m1)).getD y 0)).map (El.of (fld_of hF))).getD t 0=El.of (fld_of hF) ((imL (opsT p m l) p m1 r (p ^ m1)).getD (row.getD t 0) 0):=by
  simp [List.getD,ht2]
 rw [e1,him2 _ hyq,of_imN hF hr']
 unfold phi wd
 rw [El.of_n hyq]
end
theorem mod3 (n:Nat) (hn:1<=n) (s t cr:Int) (i j:Nat):((((s % (n:Int)).toNat+i*(t % (n:Int)).toNat+j*(cr % (n:Int)).toNat) % n:Nat):Int)=(s+(i:Int)*t+(j:Int)*cr) % (n:Int):=by
 have hz:∀ x:Int,(((x % (n:Int)).toNat:Nat):Int)=x % (n:Int):=fun x=>by
  have:=Int.emod_nonneg x (show (n:Int)≠0 by omega)
  omega
 rw [Int.natCast_emod,Int.natCast_add,Int.natCast_add,Int.natCast_mul,Int.natCast_mul,hz,hz,hz]
 simp [Int.add_emod,Int.mul_emod]
theorem leaf_law2 {s:StD} {bl:List Int} (hf:formZ s=0) (h:Leaf2 s bl) {msg:List Nat} (hm:∀ x∈msg,x<s.p.toNat ^ s.m.toNat) (h0:Dv.wt (cwO s.p.toNat s.m.toNat (mdOf s.m s.mod) s.n.toNat (natR s.gen) msg)≠0):s.low<=(Dv.wt (cwO s.p.toNat s.m.toNat (mdOf s.m s.mod) s.n.toNat (natR s.gen) msg):Int):=by
 obtain ⟨zs,a,r,bound,hE,hzs,⟨c,mo,hc,hmo,hc1,_,_,hg1,hg2,hb,hhit⟩,hlo⟩:=h
 have hFo:=qfO hf
 obtain ⟨eok,eok1,epp,erq,eroot,eaq,ea0,eord,en1,en2⟩:=hE
 unfold ZeroN at hzs
 rw [<- epp] at eok erq eroot eaq eord hzs
 have hF:=qaW eok
 have hF1:=qaW hFo.field
 have hs1:=qbJ (by have h:=hFo.field;unfold fieldOK at h;rw [Bool.and_eq_true] at h;exact h.1:shapeM s.p s.m s.mod=true)
 have hmd:(mdOf s.m s.mod).length=s.m.toNat:=by
  by_cases hm1:s.m=1
  . rw [hm1];simp [mdOf]
  . unfold mdOf
    rw [if_neg hm1,List.length_map,hs1.len hm1]
 have hm1i:s.m.toNat=1->s.m=1:=fun h=>by have:=hs1.m0;omega
 obtain ⟨r',hr',hEm,him⟩:=emb_of hF hF1 erq hmd hs1.lt (fun h=>by rw [hm1i h];simp [mdOf]) (by
  rcases eroot with h | h
  . left;rw [h];rfl
  . exact .inr h)
 obtain ⟨o1,o2⟩:=ord_of hF eaq ea0 (by omega:s.n.toNat=_)
 have hcw:=fun z hz=>cw_lin hf (hfl:=fld_of hF1) (zeroAt_lin hEm (El.of (fld_of hF) a) s.n.toNat z) hz hm
 have hzero:∀ z∈zs,ZeroAt hF hF1 (El.of (fld_of hF) r') (El.of (fld_of hF) a) s.n.toNat z (wd (fld_of hF1) (cwO s.p.toNat s.m.toNat (mdOf s.m s.mod) s.n.toNat (natR s.gen) msg)):=fun z hz=>by
  refine (hcw z fun row hrow=>?_).1
  obtain ⟨i,hi,rfl⟩:=List.getElem_of_mem hrow
  have:=(hzs z hz).2 i hi
  rw [show (natR s.gen).getD i []=(natR s.gen)[i] by simp [List.getD,hi]] at this
  exact zero_at hF hF1 hr' him eaq ea0 (hFo.grid.2 _ (List.getElem_mem hi)) this
 have hok:Dv.Ok (s.p.toNat ^ s.m.toNat) s.n.toNat (cwO s.p.toNat s.m.toNat (mdOf s.m s.mod) s.n.toNat (natR s.gen) msg):=(cw_lin hf (hfl:=fld_of hF1) (Q:=fun _=>True) ⟨trivial,fun _ _ _ _ _=>trivial⟩ (fun _ _=>trivial) hm).2
 have hw:=run_wt (s0:=(s.r0 % (s.n.toNat:Int)).toNat) (st:=(s.r1 % (s.n.toNat:Int)).toNat) (cr:=(s.r3 % (s.n.toNat:Int)).toNat) (count:=c) (more:=mo) hEm o1 o2 (by omega) hg1 hg2 hok (fun i j hi hj=>by
  obtain ⟨z,hz,he⟩:=hhit i j hi (by omega)
  have hzn:=(hzs z hz).1
  rw [Nat.mod_eq_of_lt hzn,<- mod3 s.n.toNat en1] at he
  have he2:z=((s.r0 % (s.n.toNat:Int)).toNat+i*(s.r1 % (s.n.toNat:Int)).toNat+j*(s.r3 % (s.n.toNat:Int)).toNat) % s.n.toNat:=by omega
  rw [<- he2]
  exact hzero z hz) h0
 omega
theorem leaf_law0 {s:StD} (_hf:formZ s=0) (h:Leaf0 s) {msg:List Nat} (h0:Dv.wt (cwO s.p.toNat s.m.toNat (mdOf s.m s.mod) s.n.toNat (natR s.gen) msg)≠0):s.low<=(Dv.wt (cwO s.p.toNat s.m.toNat (mdOf s.m s.mod) s.n.toNat (natR s.gen) msg):Int):=by
 rcases h with h | h
 . omega
 . exfalso
   apply h0
   rw [h]
   have e:cwO s.p.toNat s.m.toNat (mdOf s.m s.mod) s.n.toNat (natR []) msg=List.replicate s.n.toNat 0:=by
    unfold cwO natR
    cases msg <;> rfl
   rw [e,wt_supp]
   have:supp (List.replicate s.n.toNat 0)=[]:=by
    rw [List.eq_nil_iff_forall_not_mem]
    intro j hj
    obtain ⟨h1,h2⟩:=mem_supp.1 hj
    apply h2
    have h3:j<s.n.toNat:=by simpa using h1
    simp [List.getD,h3]
   rw [this]
   rfl
theorem leaf_law (s:StD) (bl:List Int) (msg:List Nat) (hf:formZ s=0) (h:LeafOk s bl) (hm:∀ x∈msg,x<s.p.toNat ^ s.m.toNat):Dv.wt (cwO s.p.toNat s.m.toNat (mdOf s.m s.mod) s.n.toNat (natR s.gen) msg)=0\/s.low<=(Dv.wt (cwO s.p.toNat s.m.toNat (mdOf s.m s.mod) s.n.toNat (natR s.gen) msg):Int):=by
 by_cases h0:Dv.wt (cwO s.p.toNat s.m.toNat (mdOf s.m s.mod) s.n.toNat (natR s.gen) msg)=0
 . exact .inl h0
 . right
   rcases h with ⟨_,h⟩ | ⟨_,h⟩ | ⟨_,h⟩ | ⟨_,h⟩
   . exact leaf_law0 hf h h0
   . exact leaf_law1 hf h hm h0
   . exact leaf_law2 hf h hm h0
   . exact leaf_law3 hf h hm h0
end Go.Proofs.YtlmglaonldlanaaGreat
namespace Go.Proofs.YtlmglaonldlanaaGreat
open Go.RowKit Go.ChangeShapes Go.WideShapes Go.Deep Go.ChangeAt
section
variable {H:Type} {enc:TypeId × Value->H} {P:Program}
theorem post_of_below {f:Func} {s:ChangeSpec} {apart fresh handsOn again:Bool} {W W':World} {args:Array Value} {v:Value} {ds gs:List (DataW H)} {before pa pv:List MemPlace}
 (hW:DataW.Whole enc P f.params.toList s.vars apart W args.toList ds gs before)
 (hres:∀ (b:Nat) (sp:Nat->Bool) (hd:Bool),DataW.TrodAll enc P W' b sp hd f.resultTypes.toList (v.resultList f.resultTypes.size) (s.fn H (ds++gs)).results [])
 (hargs:∀ sp:Nat->Bool,(∀ p∈before,sp p.block=true)->DataW.TrodAll enc P W' 0 sp true f.params.toList args.toList (s.fn H (ds++gs)).args pa)
 (hvars:∀ sp:Nat->Bool,(∀ p∈before,sp p.block=true)->DataW.TrodVars enc P W' sp s.vars (s.fn H (ds++gs)).vars pv)
 (hps:before=pa++pv) (hb:Below W.heap.size W W')
 (hok:∀ (j:Nat) (t:TypeId) (r:Value),f.resultTypes[j]?=some t->(v.resultList f.resultTypes.size)[j]?=some r->Value.okWide P W' .any 0 t r) :
 s.post enc P f apart fresh handsOn again W args v W':=by
 have hlt:∀ p∈before,p.block<W.heap.size:=fun p hp=>hW.lt p hp
 have hold:∀ p∈before,(fun b=>decide (b<W.heap.size)) p.block=true:=fun p hp=>by simpa using hlt p hp
 refine ⟨ds,gs,before,[],pa,pv,hW,hres _ _ _,hargs _ hold,hvars _ hold,World.keptBut_mono (fun p hp=>⟨hp,?_⟩) (hb.frame (·∈before)),fun _=>?_⟩
 . rw [hps,List.mem_append] at hp
   exact Or.inr hp
 . obtain ⟨_,_,_,_,_,hz,hn⟩ := hW
   refine ⟨hok,_,_,([]++pa)++pv,⟨[]++pa,pv,trodAll_append (hargs _ (fun _ _=>rfl)) (hres _ _ _),hvars _ (fun _ _=>rfl),rfl,?_,?_⟩,?_⟩
   . intro b off hp
     have hin:MemPlace.cell b off∈before:=by rw [hps];simpa using hp
     rw [hb.frozen (hlt _ hin)]
     exact hz b off hin
   . intro ha
     have:=hn ha
     rw [hps] at this
     simpa using this
   . intro p hp _
     rw [hps]
     simpa using hp
end
theorem own:ownKnob Tryz.prog.godebug=none:=by kernel_rfl
theorem laidOut:laidOutB Tryz.prog=true:=by kernel_rfl
section
variable {H:Type} {enc:TypeId × Value->H} {w:World} {base:Nat} {spare:Nat->Bool} {held:Bool}
theorem cellsInt:Tryz.prog.cellsOf 3=1:=by kernel_rfl
theorem cellsInts:Tryz.prog.cellsOf 23=1:=by kernel_rfl
theorem cellsRows:Tryz.prog.cellsOf 30=1:=by kernel_rfl
theorem cellsField:Tryz.prog.cellsOf 29=3:=by kernel_rfl
theorem qeS {a:Addr} {v:Value} (h:w.cell? a=some v):a=⟨a.block,a.off,none⟩:=by
 obtain ⟨b,o,s⟩:=a
 cases s with
 | none=>rfl
 | some s =>
   unfold World.cell? at h
   split at h <;> simp at h
theorem qcI {fuel:Nat} {c:Value} {x:DataW H × List MemPlace} (h:DataW.trod enc Tryz.prog w base spare held fuel 3 [c]=some x):∃ n,c=.int .i64 n:=by
 obtain ⟨n,h1,_,_⟩:=DataW.trod_int Tryz.underlying3 h
 exact ⟨n,by simpa using h1⟩
theorem qdF {fuel:Nat} {c:Value} {x:DataW H × List MemPlace} (h:DataW.trod enc Tryz.prog w base spare held fuel 23 [c]=some x) :
 ∃ (zs:List Int) (A:Option Addr) (k:Nat),c=.slice A zs.length k/\zs.length<=maxLen/\IntsAt w w.heap.size A zs:=by
 rcases open_slice1 Tryz.underlying23 cellsInt h with ⟨h0,_⟩ | ⟨a,len,cap,m,n,V,D,Pl,hcs,_,hl,hm,hmm,_,hx⟩
 . exact ⟨[],none,0,by simpa using h0,by simp,fun h=>absurd h (by simp)⟩
 . have hlm : len <= m := by rw [hmm];split <;> omega
   have hV:∀ i,i<len->∃ z,V i=.int .i64 z:=fun i hi=>qcI (hx i (by omega)).2
   refine ⟨(List.range len).map fun i=>intOf (V i),some a,cap,by simpa using hcs,by simp;omega,fun hz=>?_⟩
   simp only [List.length_map,List.length_range] at hz ⊢
   have h0:=(hx 0 (by omega)).1
   have ha:a.add 0=a:=rfl
   rw [ha] at h0
   refine ⟨a.block,a.off,congrArg some (qeS h0),World.block_lt_of_cell? w _ h0,fun j hj=>?_⟩
   have hj':=(hx j (by omega)).1
   obtain ⟨z,e⟩:=hV j hj
   have hadd:a.add j=⟨a.block,a.off+j,none⟩:=by rw [qeS h0];exact Addr.add_mid _ _ _
   rw [hadd] at hj'
   rw [hj',e]
   simp [List.getD,hj,e,intOf]
theorem rows_cell {fuel:Nat} {c:Value} {x:DataW H × List MemPlace} (h:DataW.trod enc Tryz.prog w base spare held fuel 30 [c]=some x) :
 ∃ (zs:List (List Int)) (A:Option Addr) (k:Nat),c=.slice A zs.length k/\zs.length<=maxLen/\zs.length<=k/\RowsAt w w.heap.size A zs:=by
 rcases open_slice1 Tryz.underlying30 cellsInts h with ⟨h0,_⟩ | ⟨a,len,cap,m,n,V,D,Pl,hcs,_,hl,hm,hmm,_,hx⟩
 . exact ⟨[],none,0,by simpa using h0,by simp,by simp,fun h=>absurd h (by simp)⟩
 . have hlm : len <= m := by rw [hmm];split <;> omega
   have key:∀ i,i<len->∃ (zs:List Int) (A:Option Addr) (k:Nat),V i=.slice A zs.length k/\zs.length<=maxLen/\IntsAt w w.heap.size A zs:=fun i hi=>qdF (hx i (by omega)).2
   obtain ⟨f,hf⟩:∃ f:Nat->List Int,∀ i,i<len->∃ (A:Option Addr) (k:Nat),V i=.slice A (f i).length k/\(f i).length<=maxLen/\IntsAt w w.heap.size A (f i) :=
    ⟨fun i=>if h:i<len then Classical.choose (key i h) else [],fun i hi=>by simp only [hi,dif_pos];exact Classical.choose_spec (key i hi)⟩
   refine ⟨(List.range len).map f,some a,cap,by simpa using hcs,by simp;omega,by simp;omega,fun hz=>?_⟩
   simp only [List.length_map,List.length_range] at hz ⊢
   have h0:=(hx 0 (by omega)).1
   have ha:a.add 0=a:=rfl
   rw [ha] at h0
   refine ⟨a.block,a.off,congrArg some (qeS h0),World.block_lt_of_cell? w _ h0,fun j hj=>?_⟩
   have hj':=(hx j (by omega)).1
   obtain ⟨Aj,kj,e,_,hi⟩:=hf j hj
   have hadd:a.add j=⟨a.block,a.off+j,none⟩:=by rw [qeS h0];exact Addr.add_mid _ _ _
   rw [hadd] at hj'
   have hg:((List.range len).map f).getD j []=f j:=by simp [List.getD,hj]
   rw [hg]
   exact ⟨Aj,kj,by rw [hj',e],hi⟩
theorem qaS {fuel:Nat} {t:TypeId} {fs:Array Field} {cs:List Value} {x:DataW H × List MemPlace} (ht:Tryz.prog.underlying t=some (.struct fs)) (h:DataW.trod enc Tryz.prog w base spare held fuel t cs=some x) (i:Nat) (t':TypeId) (off k:Nat) (hf:(fs[i]?).map (fun f=>(f.type,f.offset))=some (t',off)) (hk:Tryz.prog.cellsOf t'=k) :
 ∃ n y,n<fuel/\DataW.trod enc Tryz.prog w base spare held n t' ((cs.drop off).take k)=some y:=by
 obtain ⟨xs,n,hn,_,_,hlen,hg⟩:=DataW.trod_struct ht h
 obtain ⟨f,hff,he⟩:=Option.map_eq_some_iff.1 hf
 have hi:i<fs.size:=(Array.getElem?_eq_some_iff.1 hff).1
 simp only [Prod.mk.injEq] at he
 obtain ⟨rfl,rfl⟩:=he
 subst hk
 exact ⟨n,xs[i]'(by omega),by omega,by rw [hg i f hff,List.getElem?_eq_getElem]⟩
end
end Go.Proofs.YtlmglaonldlanaaGreat
namespace Go.Proofs.YtlmglaonldlanaaGreat
open Go.RowKit Go.ChangeShapes Go.WideShapes Go.Deep
section
variable {H:Type} {enc:TypeId × Value->H} {w:World} {base:Nat} {spare:Nat->Bool} {held:Bool}
theorem cellsCode:Tryz.prog.cellsOf 32=5:=by kernel_rfl
theorem cellsRun:Tryz.prog.cellsOf 34=5:=by kernel_rfl
theorem cellsMono:Tryz.prog.cellsOf 36=3:=by kernel_rfl
theorem cellsExcl:Tryz.prog.cellsOf 38=1:=by kernel_rfl
theorem cellsStep:Tryz.prog.cellsOf 40=23:=by kernel_rfl
theorem slice_cell {fuel:Nat} {t e:TypeId} {c:Value} {x:DataW H × List MemPlace} (ht:Tryz.prog.underlying t=some (.slice e)) (h:DataW.trod enc Tryz.prog w base spare held fuel t [c]=some x) :
 ∃ (A:Option Addr) (n k:Nat),c=.slice A n k/\n<=maxLen:=by
 rcases DataW.trod_slice ht h with ⟨h0,_⟩ | ⟨a,len,cap,_,_,_,_,hcs,_,_,hl,hm,_⟩
 . exact ⟨none,0,0,by simpa using h0,by simp⟩
 . exact ⟨some a,len,cap,by simpa using hcs,by omega⟩
theorem field_cells {fuel:Nat} {a b c:Value} {x:DataW H × List MemPlace} (h:DataW.trod enc Tryz.prog w base spare held fuel 29 [a,b,c]=some x) :
 ∃ (p m:Int) (zs:List Int) (A:Option Addr) (k:Nat),a=.int .i64 p/\b=.int .i64 m/\c=.slice A zs.length k/\zs.length<=maxLen/\IntsAt w w.heap.size A zs:=by
 obtain ⟨_,_,_,h0⟩:=qaS Tryz.underlying29 h 0 3 0 1 rfl cellsInt
 obtain ⟨_,_,_,h1⟩:=qaS Tryz.underlying29 h 1 3 1 1 rfl cellsInt
 obtain ⟨_,_,_,h2⟩:=qaS Tryz.underlying29 h 2 23 2 1 rfl cellsInts
 obtain ⟨p,e0⟩:=qcI h0
 obtain ⟨m,e1⟩:=qcI h1
 obtain ⟨zs,A,k,e2,hl,hi⟩:=qdF h2
 exact ⟨p,m,zs,A,k,e0,e1,e2,hl,hi⟩
end
end Go.Proofs.YtlmglaonldlanaaGreat
namespace Go.Proofs.YtlmglaonldlanaaGreat
open Go.RowKit Go.ChangeShapes Go.WideShapes Go.Deep
section
variable {H:Type} {enc:TypeId × Value->H} {w:World} {base:Nat} {spare:Nat->Bool} {held:Bool}
theorem add_of_add (a:Addr) (i j:Nat):(a.add i).add j=a.add (i+j):=by
 unfold Addr.add
 by_cases hi:i=0 <;> by_cases hj:j=0 <;> simp [hi,hj,Nat.add_assoc]
end
end Go.Proofs.YtlmglaonldlanaaGreat
