/- Parts of the proof. -/
import Derived.Test.YtocbdafcolbfeaaGreatR32
set_option maxRecDepth 100000
set_option maxHeartbeats 8000000
namespace Go.Proofs.YtocbdafcolbfeaaGreat
open Go.RowKit Pln
def conF(p m:Nat)(l:LN)(d:Nat)(L:LI)(j i:Nat):Nat:=itN (itN (frN p m l) (d % m)) i (inZ (p^m) (L.getD j 0))
def SsPost(W:Wo)(lo:Nat)(p m:Nat)(l:LN)(d:Nat)(L:LI)(right:LN)(e:Ending)(w':Wo):Prop :=
 (e = .returned (.tuple #[zL none 0 0,.bool false])\/∃(g : Nat)(out : LN),e = .returned (.tuple #[zS g L.length L.length,.bool true])/\Row w' lo g L.length (nz out)/\Dv.Ok (p^m) L.length out/\
   ∃rows,SysI (p^m) L.length L.length (conF p m l d L) right L.length 0 rows/\Solv (opsT p m l) (p^m) L.length rows out)/\Below lo W w'
theorem syssol(j p m d:Nat)(mod:LI)(md l:LN)(L:LI)(k:OA)(t:Nat)(right:LN)(n:OA)(u:Nat)(w:Wo)(hF:FT p m md l)(v:GFM w w.heap.size j p m mod l (logL l (p^m)))(q:mod.length<=1000000)(o:1<=d)(hd:d<=m)(x:zI w k L)(z:L.length=m / d)(A:zI w n (nz right))(s:∀y∈right,y<p^m)(r:right.length=L.length):
 zC 229 #[zP j,zL k L.length t,Y (d:Int),zL n L.length u] w fun e w1=>∃R,e=.returned (zS R L.length L.length)/\zB w w1/\
  zC 228 #[zP j,zS R L.length L.length] w1 (SsPost w1 w.heap.size p m l d L right):=by
 have b:=hF.small.m2;have c:L.length<=8:=by have:m / d<=m:=Nat.div_le_self _ _;omega
 have h:=system_c j p m d mod md l L k t right n u w hF v q o hd x U0 A s U0;rw[r] at h;refine h.mono ?_;rintro e w1 ⟨⟨R,rows,bs,rfl,hgd,hsys⟩,hb⟩;refine⟨R,rfl,hb,?_⟩;refine(solve_c j w.heap.size p m R L.length md l rows bs w1 hF (v.gf.keep hb) hb.size hgd hsys.1 U0).mono ?_;rintro f i ⟨he,hb2⟩;refine⟨?_,hb2⟩;rcases he with rfl|⟨g,out,rfl,hr,ho,hs⟩
 . exact .inl rfl
 . exact .inr ⟨g,out,rfl,hr,ho,rows,hsys,hs⟩
theorem eachL_lt{p m:Nat}{md l:LN}(hF:FT p m md l){d:Nat}(b:1<=d)(c:d<=m)(n:Nat)(x:Int):∀y∈eachL (itN (frN p m l) (d % m)) n (inZ (p^m) x),y<p^m:=fun y hy=>by
 obtain⟨i,_,rfl⟩:=List.mem_map.1 hy
 exact(qeX hF b c (inZ_lt (by have:=(Al.fld_of hF).q1;omega) x) i).1
def MadeC(s:StD)(p m:Int)(mod:LI)(N:Nat)(F:Prop)(Q:LN->Prop):Prop:=
 ∃rows:LL,s.p=p/\s.m=m/\s.mod=mod/\s.n=(N:Int)/\s.gen=nzs (canonM (opsT p.toNat m.toNat (lOf p m mod)) rows N)/\Grid (p.toNat^m.toNat) rows.length N rows/\N<=64/\F/\∀r∈rows,Q r
theorem qbA{s:StD}(h:FormIs s):s.mod.length<=9223372036854775807/\s.gen.length<=9223372036854775807/\∀ k,k<s.gen.length->(s.gen.getD k []).length<=9223372036854775807:=by
 refine⟨?_,by have:=h.len;omega,fun k hk=>?_⟩
 . have d:=qeU (by have h:=h.field;unfold fieldOK at h;rw[Bool.and_eq_true] at h;exact h.1 : shapeM s.p s.m s.mod = true);by_cases c:s.m=1
   . rw[d.one c];simp
   . rw[d.len c];have:=d.small.m2;omega
 . have g:=h.rows;(have b:k<(natR s.gen).length:=by unfold natR;rw[List.length_map];exact hk);(have e:s.gen.getD k []=nz ((natR s.gen).getD k []):=by(conv=>lhs;rw[<- g]);simp[nzs,List.getD,b]);(have f:(natR s.gen).getD k []∈natR s.gen:=by(have:(natR s.gen).getD k []=(natR s.gen)[k]:=by simp[List.getD,b]);rw[this];exact List.getElem_mem b);rw[e,qaA,(h.grid.2 _ f).1];have:=h.n2;omega
end Go.Proofs.YtocbdafcolbfeaaGreat
