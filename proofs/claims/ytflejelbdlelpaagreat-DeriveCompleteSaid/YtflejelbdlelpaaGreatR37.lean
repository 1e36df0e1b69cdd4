/- Parts of the proof. -/
import Derived.Test.YtflejelbdlelpaaGreatR32
set_option maxRecDepth 100000
set_option maxHeartbeats 8000000
namespace Go.Proofs.YtflejelbdlelpaaGreat
open Go.RowKit Pln Go.Proofs.Tryz
def RelFax(w:Wo)(R:List LI)(col:LI)(v8:Value)(wr:Wo):Prop:=∃k m:Nat,k<=R.length/\v8=Y k/\wr=w.drewN m/\∀i,i<k->R.getD i []≠col
def FaxPost(w:Wo)(R:List LI)(col:LI)(e:Ending)(w':Wo):Prop:=(∃z:Int,e=.returned (Y z)/\(z<0->∀i,i<R.length->R.getD i []≠col)/\(0<=z->∃i,i<R.length/\R.getD i []=col))/\∃m,w'=w.drewN m
theorem indexfar_x(R:List LI)(K:LI)(A N:OA)(c cc L:Nat)(w:Wo)(O:zR w A R)(P:w.cell? (zA L 0)=some (zL N K.length cc))(M:zI w N K)(S:R.length<=1000)(Q:∀ o∈R,o.length<=1000):
 zC 150 #[zL A R.length c,.func (.func 98) #[] #[zP L]] w (FaxPost w R K):=by
 have y:=zH O;have B:zK (∀(m k:Nat)(Ao:OA)(co:Nat),k<R.length->zI w Ao (R.getD k [])->zC 98 #[zL Ao (R.getD k []).length co,zP L] (w.drewN m) (Quiet (.bool (decide (R.getD k []=K))) (w.drewN m))):=fun m k Ao co s ho=>by
  have C:R.getD k []∈R:=by(have:R.getD k []=R[k]:=by simp[List.getD,s]);rw[this];exact List.getElem_mem s
  exact columns2_any (R.getD k []) K Ao N co cc L (w.drewN m) (ho.keep (qaB zV m)) P (M.keep (qaB zV m)) (Q _ C)
 clear O P M Q;go_enter func150,ntmps150;go_wp2;go_loopw [8] (fun v8 wr=>RelFax w R K v8 wr) (fun v8 _=>R.length-(intOf v8).toNat);case atStart=>exact⟨0,0,U0,rfl,rfl,fun i h=>absurd h U0⟩
 case round =>
  obtain⟨k,m,s,rfl,rfl,x⟩:=hrel;have u:=zH x;clear x;by_cases d:k<R.length
  . obtain ⟨b,o,t,v,rfl,E,g,j⟩ := y.o.at_ (i := k) d;have J:(w.drewN m).cell? (zA b (o+k))=some (zL t (R.getD k []).length v):=g;have l:=zH (B.o m k t v d j);have H:(0:Int)<=(k:Int):=U0;have I:(k:Int)<(R.length:Int):=U0;have D:IntKind.i64.wrap ((k:Int)+1)=(k:Int)+1:=IntWalk.i64_in _ U0;have p:zK (R.getD k []≠K->∀ i,i<k+1->R.getD i []≠K):=fun h i M=>by
     rcases Nat.lt_succ_iff_lt_or_eq.1 M with h1|rfl
     . exact u.o i h1
     . exact h
    clear g j;by_cases f:R.getD k []=K
    . rw[decide_eq_true f] at l;have z:zK (∃i,i<R.length/\R.getD i []=K):=⟨k,d,f⟩;clear f p;generalize R.getD k []=r at *;go_wp2_with fail;refine l.o.mono ?_;rintro e w' ⟨rfl,n,rfl⟩;go_wp2;go_ret;exact⟨⟨_,rfl,fun h=>U0,fun _=>z.o⟩,m+n,df⟩
    . rw[decide_eq_false f] at l;have q:=zH (p.o f);clear f p;generalize R.getD k []=r at *;go_wp2_with fail;refine l.o.mono ?_;rintro e w' ⟨rfl,n,rfl⟩;go_wp2;go_roundw;case rel=>exact⟨k+1,m+n,U0,U3,df,q.o⟩
      case measure=>simp[intOf];omega
  . (obtain rfl:k=R.length:=by omega);go_wp2;go_ret;exact⟨⟨_,rfl,fun _=>u.o,fun h=>by first|omega|(simp at h)⟩,m,rfl⟩
theorem containsfar_x(R:List LI)(p:LI)(A q:OA)(c cc r:Nat)(w:Wo)(s:zR w A R)(v:w.cell? (zA r 0)=some (zL q p.length cc))(t:zI w q p)(x:R.length<=1000)(u:∀o∈R,o.length<=1000):
 zC 97 #[zL A R.length c,.func (.func 98) #[] #[zP r]] w fun e w'=>(∃b:Bool,e=.returned (.bool b)/\(b=false->∀i,i<R.length->R.getD i []≠p)/\(b=true->∃i,i<R.length/\R.getD i []=p))/\∃m,w'=w.drewN m:=by
 have g:=zH (indexfar_x R p A q c cc r w s v t x u);clear s t u;go_enter func97,ntmps97;go_wp2_with fail;refine g.o.mono ?_;rintro e w' ⟨⟨z,rfl,hz,hy⟩,n,rfl⟩;have l:=zH hz;have k:=zH hy;clear hz hy;by_cases f:0<=z
 . have j:=zH (k.o f);go_wp2;go_ret;exact⟨⟨_,rfl,fun h=>by simp at h<;>omega,fun _=>j.o⟩,n,rfl⟩
 . (have d:zK (z<0):=by show z<0;omega);clear f;go_wp2;go_ret;exact⟨⟨_,rfl,fun _=>l.o d.o,fun h=>by first|cases h|(simp at h;have:=d.o;omega)⟩,n,rfl⟩
end Go.Proofs.YtflejelbdlelpaaGreat
