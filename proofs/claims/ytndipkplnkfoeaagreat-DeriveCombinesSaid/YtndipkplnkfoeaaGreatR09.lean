/- Parts of the proof. -/
import Derived.Test.YtndipkplnkfoeaaGreatR05
set_option maxRecDepth 100000
set_option maxHeartbeats 8000000
namespace Go.Proofs.YtndipkplnkfoeaaGreat
open Go.RowKit Pln
def RelDv(w:World)(B p:Nat)(low md:List Nat)(g c:Nat)(v9:Value)(wr:World):Prop:=
 ∃t i:Nat,t<=md.length+1-low.length/\i+t=md.length/\v9=Y (i:Int)/\Row wr B g c (nz (divGo p low (md++[1]) t))/\Below B w wr
def RelDr(w:World)(B p:Nat)(low:List Nat)(i cc:Nat)(s:List Nat)(g c:Nat)(v11:Value)(wr:World):Prop:=
 ∃j:Nat,j<=low.length/\v11=Y (j:Int)/\Row wr B g c (nz (divRow p low.length low i cc s j))/\Below B w wr
theorem rdivides_c(p:Nat)(low md:List Nat)(Al Am:Option Addr)(cl cm:Nat)(w:World)(hp:2<=p)(bf:p<=256)(hL:IntsAt w w.heap.size Al (nz low))(hM:IntsAt w w.heap.size Am (nz md))(hl:Dig p low.length low)(hm:Dig p md.length md)(bc:1<=low.length)(bd:low.length<=md.length)(be:md.length<=8):
 zC 84 #[zL Al low.length cl,zL Am md.length cm,Y p] w fun e w'=>e=.returned (.bool (dividesM p low md))/\Below w.heap.size w w':=by
 obtain⟨i0,hi,an,ao,ap⟩:=qaF infoInt;have HI:=zH hi;have ac:=zH an;have ad:=zH ao;have ae:=zH ap;obtain⟨b,o,rfl,af,hc⟩:=hM.at_ (k:=0) (by rw[qaA];omega);have HL:=zH hL;have aa:Hid ((w.alloc (.cells #[] 3)).ownsRow w.heap.size 3 1 (zS w.heap.size 0 0) 0 []):=World.ownsRow_made w #[] 0 (Nat.le_refl _) U3 rfl;have H:Hid (∀(j:Nat)(u:Value),((nz md).map (Value.int .i64))[j]?=some u->(w.alloc (.cells #[] 3)).cell? ((⟨b,o,none⟩:Addr).add j)=some u):=(hM.keep ((Below.refl _ _).alloc (Nat.le_refl _) _)).news
 have T:Hid (∀t,Dig p (md.length+1) (divGo p low (md++[1]) t)):=fun t=>divGo_dig U0 low ⟨U2,fun d hd=>by
  rcases List.mem_append.1 hd with h|h
  . exact hm.2 d h
  . simp at h;omega⟩ t
 have V:Hid (∀i cc s,Dig p (md.length+1) s->∀j,Dig p (md.length+1) (divRow p low.length low i cc s j)):=fun i cc s hs j=>qcY U0 _ low i cc hs j;have ar:Hid (∀j,low.getD j 0<p):=fun j=>getD_lt U0 hl j;have m:=zH (qaA md);clear hi an ao ap hM hL hc hm hl;go_enter Tryz.func84,Tryz.ntmps84;go_upto_region 3 with(at_builtin;refine wpList_append_lies _ rfl (.tmp 15) (.tmp 16) 23 rfl w.heap.size 3 i0 _ 1 8 Tryz.underlying23 HI.out ac.out ad.out ae.out rfl dc (zS w.heap.size 0 0) 0 [] rfl aa.out (zA b o) md.length cm ((nz md).map (Value.int .i64)) rfl ?c0 H.out ?c2 ?c1 ?c3 ?c4 ?c5 _ rfl ?_);case c0=>simp[nz]
 case c1=>omega
 case c2=>intro u hu;obtain⟨z,_,rfl⟩:=List.mem_map.1 hu;rfl
 case c3=>unfold maxLen;omega
 case c4=>omega
 case c5=>simp
 intro g1 I w1 L ah Q ai;have M:Hid (Below w.heap.size w w1):=((Below.refl _ _).alloc (Nat.le_refl _) _).grown ah U2 (fun k hk=>by simp[Value.ownBlock] at hk;omega);have O:Hid (Row w1 w.heap.size g1 I (nz md)):=by show w1.ownsRow _ _ _ _ _ _;rw[m.out];exact L
 have a3:=M.out.size;clear L ah Q ai af;go_upto_region 4 with(at_builtin;refine wpList_append_own_at _ rfl (.tmp 18) (.tmp 19) 23 rfl w.heap.size 3 i0 _ 1 8 Tryz.underlying23 HI.out ac.out ad.out ae.out rfl dc (zS g1 md.length I) md.length ((nz md).map (Value.int .i64)) rfl (own_of_row O.out m.out) (zA w1.heap.size 0) 1 1 [Y 1] rfl rfl ?d1 ?d2 ?d3 ?d4 ?d5 ?_);case d1=>exact World.news_of_block (cs:=#[Y 1]) (t:=3) (fr:=(0,0)) (heap_alloc_new w1 _)
 case d2=>intro u hu;simp at hu;subst hu;rfl
 case d3=>unfold maxLen;omega
 case d4=>omega
 case d5=>simp;omega
 intro v' w3 v K _ Q;have S:Hid (Below w.heap.size w w3):=(M.out.alloc a3 _).grown K so (fun j hj=>by simp[Value.ownBlock] at hj;have:=O.out.lt;omega);have aw:OwnI w3 w.heap.size v' (nz (md++[1])):=own_of_append (y:=1) v m.out;obtain⟨g,cg,rfl,f⟩:=aw;have aj:(nz (md++[1])).length=md.length+1:=by simp[nz]
 rw[aj];have ab:Hid (RelDv w w.heap.size p low md g cg (Y (md.length:Int)) w3):=⟨0,md.length,Nat.zero_le _,rfl,rfl,f,S.out⟩;clear v K Q f aj O M S H aa;have q:Hid (∀t i,i+t=md.length->divGo p low (md++[1]) (t+1)=(divRow p low.length low i ((divGo p low (md++[1]) t).getD i 0) (divGo p low (md++[1]) t) low.length).set i 0):=fun t i h=>by show(divRow p low.length low ((md++[1]).length-1-t) _ _ low.length).set ((md++[1]).length-1-t) 0=_;have e:(md++[1]).length-1-t=i:=so;rw[e]
 have E:Hid (dividesM p low md=(divGo p low (md++[1]) (md.length+1-low.length)).all (·==0)):=rfl;have aq:Hid (∀W:World,Below w.heap.size w W->IntsAt W w.heap.size Al (nz low)):=fun W hW=>HL.out.keep hW;clear HL m;go_wp2_with fail;go_loopw [9] (fun v9 wr=>RelDv w w.heap.size p low md g cg v9 wr) (fun v9 _=>(intOf v9+1).toNat-low.length);case atStart=>exact ab.out
 case round =>
  obtain⟨t,i,ht,az,rfl,f,hb⟩:=hrel;have c:=zH f;have D:=zH hb;have l:=T.out t;have r:(nz (divGo p low (md++[1]) t)).length=md.length+1:=by rw[qaA];exact l.1
  have U:=zH l;clear f hb ab;by_cases ai:low.length<=i
  . have av := zH (q.out t i az);(have ay:wr.cell? (zA g i)=some (Y (((divGo p low (md++[1]) t).getD i 0:Nat):Int)):=by rw [<- qaC];exact c.out.cell (by rw [r];omega));have a8:(divGo p low (md++[1]) t).getD i 0<p:=getD_lt U0 l i;have X:=zH (fun cc=>V.out i cc _ l);clear l r;generalize (divGo p low (md++[1]) t).getD i 0=cc at *;generalize divGo p low (md++[1]) t=s at *;have Z:Hid (RelDr w w.heap.size p low i cc s g cg (Y ((0:Nat):Int)) wr):=⟨0,Nat.zero_le _,rfl,c.out,D.out⟩;have j0:(0:Int)<=(i:Int):=U0;have j1:(i:Int)<((md.length+1:Nat):Int):=U0;go_wp2_with fail;clear ay c D;go_loopw [11] (fun v11 wr=>RelDr w w.heap.size p low i cc s g cg v11 wr) (fun v11 _=>low.length-(intOf v11).toNat);case atStart=>exact Z.out
    case round =>
     obtain⟨j,hj,rfl,f,hb⟩:=hrel;have c:=zH f;have D:=zH hb;have hdr:=X.out cc j;clear f hb Z;by_cases a1:j<low.length
     . obtain ⟨a,rfl⟩ : ∃ a,i = a + low.length := ⟨i - low.length,U0⟩;(have ak:wr.cell? (zA g (a+j))=some (Y (((divRow p low.length low (a+low.length) cc s j).getD (a+j) 0:Nat):Int)):=by rw [<- qaC];exact c.out.cell (by rw [qaA,hdr.1];omega));obtain ⟨bl,ol,rfl,af,a0⟩:=(aq.out wr D.out).at_ (k:=j) (by rw [qaA];exact a1);rw [qaC] at a0;have a9:=ar.out j;have bb:(divRow p low.length low (a+low.length) cc s j).getD (a+j) 0<p:=getD_lt U0 hdr (a+j);(have au:Hid (divRow p low.length low (a+low.length) cc s (j+1)=(divRow p low.length low (a+low.length) cc s j).set (a+j) (((divRow p low.length low (a+low.length) cc s j).getD (a+j) 0+(p-cc)*low.getD j 0) % p)):=by show addAt p _ (a+low.length-low.length+j) _=_;rw [Nat.add_sub_cancel];rfl);have hf:=c.out.frozen (a+j);have T1:Hid (Int.tmod ((((divRow p low.length low (a+low.length) cc s j).getD (a+j) 0+(p-cc)*low.getD j 0:Nat):Nat):Int) (p:Int)=((((divRow p low.length low (a+low.length) cc s j).getD (a+j) 0+(p-cc)*low.getD j 0) % p:Nat):Int)):=qaY _ _;clear hdr;generalize divRow p low.length low (a+low.length) cc s j=rj at *;generalize rj.getD (a+j) 0=x at *;generalize low.getD j 0=lj at *;(have E1:Hid (IntKind.i64.wrap (((a+low.length:Nat):Int)-(low.length:Int))=(a:Int)):=by show _=_;rw [show ((a+low.length:Nat):Int)-(low.length:Int)=(a:Int) by omega];exact IntWalk.i64_in _ U0);(have E3:Hid (IntKind.i64.wrap ((p:Int)-(cc:Int))=((p-cc:Nat):Int)):=by show _=_;rw [Int.natCast_sub U0];exact IntWalk.i64_in _ U0);have a2:p-cc<=256:=U0;(have E2:Hid (IntKind.i64.wrap ((a:Int)+(j:Int))=((a+j:Nat):Int)):=by show _=_;rw [Int.natCast_add];exact IntWalk.i64_in _ U0);have a5:(p-cc)*lj<=65536:=Nat.le_trans (Nat.mul_le_mul a2 (show lj<=256 by omega)) U0;(have E4:Hid (IntKind.i64.wrap (((p-cc:Nat):Int)*(lj:Int))=(((p-cc)*lj:Nat):Int)):=by show _=_;rw [<- Int.natCast_mul];exact IntWalk.i64_in _ U0);generalize (p-cc)*lj=pl at *;generalize p-cc=pc at *;(have E5:Hid (IntKind.i64.wrap ((x:Int)+(pl:Int))=((x+pl:Nat):Int)):=by show _=_;rw [Int.natCast_add];exact IntWalk.i64_in _ U0);have k0:(0:Int)<=((a+j:Nat):Int):=U0;have k1:((a+j:Nat):Int)<(md.length:Int)+1:=U0;have l0:(0:Int)<=(j:Int):=U0;have l1:(j:Int)<(low.length:Int):=U0;have ba:¬ (p:Int)=0:=U0;have a6:¬ p=0:=U0;generalize (x+pl) % p=z at *;generalize x+pl=xp at *;generalize hy:a+j=y at *;generalize B:a+low.length=i at *;have HY:=zH hy;have a7:=zH B;clear hy B;go_upto_region 11 with fail;have e1:=E1.out;have e2:=E2.out;have e3:=E3.out;have e4:=E4.out;have e5:=E5.out;have t1:=T1.out;refine qaI 26 (SDrew wr) U1 U1 ⟨1,rfl⟩ ?_;simp only [List.take_succ_cons,List.take_zero,List.drop_succ_cons,List.drop_zero]
       repeat (apply qaJ rfl
               . intro W hS;obtain⟨n,rfl⟩:=hS;go_simp;rfl
               go_simp)
       refine qaE ?_;intro w2 ax;obtain⟨n,rfl⟩:=ax;clear e1 e2 e3 e4 e5 t1;go_wp2_with fail;go_roundw;case rel=>exact⟨j+1,U0,gn,by rw[au.out,<- qbC];exact Row.set (w:=wr.drewN n) c.out y z,(qaB D.out n).setCell (p:=(zA g y)) c.out.lt.1 _⟩
       case measure=>exact mE
     . (obtain rfl : j = low.length:=by omega);have hf:=c.out.frozen i;(have ak:wr.cell? (zA g i)=some (Y (((divRow p low.length low i cc s low.length).getD i 0:Nat):Int)):=by rw[<- qaC];exact c.out.cell (by rw[qaA,hdr.1];omega));clear hdr;go_wp2_with fail;go_roundw;case rel=>exact⟨t+1,i-1,U0,U0,by rw[show((i-1:Nat):Int)=(i:Int)-1 by omega],by rw[av.out,<- qbC];exact c.out.set i 0,D.out.setCell (p:=(zA g i)) c.out.lt.1 _⟩
       case measure=>exact mE
  . (have al : t = md.length + 1 - low.length := by omega);(have HE:Hid (dividesM p low md=(divGo p low (md++[1]) t).all (·==0)):=by show _=_;rw [E.out,<- al]);have ag:=l.1;clear al l r U T V q E;generalize divGo p low (md++[1]) t=s at *;have B:(i:Int)<(low.length:Int):=U0;have A:Hid (s.length=md.length+1):=ag;clear ag;go_wp2_with fail;clear B;go_loop [12] (fun v12=>∃ k:Nat,k<=md.length+1/\v12=Y k/\(s.take k).all (·==0)=true) (fun v12=>md.length+1-(intOf v12).toNat);case atStart=>exact ⟨0,U0,rfl,U2⟩
    case round =>
     obtain⟨k,hk,rfl,J⟩:=hrel;have C:=zH J;clear J;by_cases R:k<md.length+1
     . (have ak : wr.cell? (zA g k) = some (Y ((s.getD k 0 : Nat) : Int)) := by rw [<- qaC];exact c.out.cell (by rw [qaA,A.out];exact R));have P:=zH (qbN (·==0) s 0 k (by rw [A.out];exact R));have N:=zH (qbL (·==0) s 0 k (by rw [A.out];exact R));generalize s.getD k 0=z at *;by_cases hz:z=0
       . (have a4 : ((z : Int) != 0) = false:=by rw[hz];rfl);(have HN:Hid ((s.take (k+1)).all (·==0)=true):=by show _=_;rw[P.out,C.out,hz];rfl);clear hz P N;go_wp2_with fail;go_round;case rel=>exact⟨k+1,U0,gn,HN.out⟩
         case measure=>exact mE
       . (have a4:((z:Int) != 0)=true:=by rw[bne_iff_ne];omega);(have HN:Hid (dividesM p low md=false):=by show _=_;rw[HE.out];exact N.out (by simpa using hz));clear hz P N;go_wp2_with fail;go_ret;exact⟨qaN HN.out.symm,D.out⟩
     . (have HN:Hid (dividesM p low md=true):=by show _=_;have:=C.out;rw[List.take_of_length_le (by rw[A.out];omega)] at this;rw[HE.out,this]);go_wp2_with fail;go_ret;exact⟨qaN HN.out.symm,D.out⟩
theorem qeF(f:Nat->Bool)(k:Nat):(List.range (k+1)).all f=((List.range k).all f && f k):=by rw[List.range_succ,List.all_append];simp
theorem qdS(f:Nat->Bool){n k:Nat}(b:k<n)(h:f k=false):(List.range n).all f=false:=by rw[List.all_eq_false];exact⟨k,List.mem_range.2 b,by rw[h];simp⟩
def noDiv(p:Nat)(md:List Nat)(d:Nat):Bool:=(List.range (p^(d+1))).all fun v=>!dividesM p (digs p (d+1) v) md
theorem irrM_eq(p:Nat)(md:List Nat):irrM p md=(List.range (md.length / 2)).all (noDiv p md):=rfl
def RelIr(w:World)(p:Nat)(md:List Nat)(v5 v6:Value)(wr:World):Prop:=
 ∃d:Nat,d<=md.length / 2/\v6=Y ((d+1:Nat):Int)/\v5=Y ((p^d:Nat):Int)/\(List.range d).all (noDiv p md)=true/\Below w.heap.size w wr
def RelIv(w:World)(p:Nat)(md:List Nat)(d:Nat)(v7:Value)(wr:World):Prop:=
 ∃v:Nat,v<=p^(d+1)/\v7=Y (v:Int)/\(List.range v).all (fun v=>!dividesM p (digs p (d+1) v) md)=true/\Below w.heap.size w wr
theorem rirr_c(p:Nat)(md:List Nat)(Am:Option Addr)(cm:Nat)(w:World)(hp:2<=p)(ae:p<=256)(hM:IntsAt w w.heap.size Am (nz md))(hm:Dig p md.length md)(ad:md.length<=8)(hq:p ^ md.length<=256):
 zC 35 #[zL Am md.length cm,Y p] w fun e w'=>e=.returned (.bool (irrM p md))/\Below w.heap.size w w':=by
 have HM:=zH hM;have N:=zH hm;have y:=zH (irrM_eq p md);have P:Hid (∀d,d<md.length / 2->p^(d+1)<=256):=fun d hd=>Nat.le_trans (qbZ hp U0) hq;clear hM hm;go_enter Tryz.func35,Tryz.ntmps35;go_wp2_with fail;go_loopw [5,6] (fun v5 v6 wr=>RelIr w p md v5 v6 wr) (fun _ v6 _=>md.length+1-(intOf v6).toNat);case atStart=>exact⟨0,Nat.zero_le _,rfl,by rw[Nat.pow_zero];rfl,rfl,Below.refl _ _⟩
 case round =>
  obtain⟨d,hd,rfl,rfl,m,H⟩:=hrel;have j:=zH m;have X:=zH H;clear m H;by_cases I:d<md.length / 2
  . have Q : Hid (p ^ (d + 1) = p ^ d * p) := Nat.pow_succ _ _;have U:=P.out d I;rw [Q.out] at U;have J:((p ^ d:Nat):Int)*(p:Int)=((p ^ d*p:Nat):Int):=(Int.natCast_mul _ _).symm;have u:Hid (RelIv w p md d (zN 0) wr):=⟨0,Nat.zero_le _,rfl,rfl,X.out⟩
    have K:Hid (∀(v:Nat)(wr:World),v<=256->zC 85 #[Y (v:Int),Y (p:Int),Y ((d+1:Nat):Int)] wr fun e w'=>e=.returned (zS wr.heap.size (d+1) (d+1))/\Row w' wr.heap.size wr.heap.size (d+1) (nz (digs p (d+1) v))/\Below wr.heap.size wr w'):=
     fun v wr hv=>rdigits_c v p (d+1) wr U0 U0 U0 U0
    have M:Hid (∀v:Nat,(digs p (d+1) v).length=d+1):=fun v=>qaK p (d+1) v;(have B:Hid ((List.range (p^(d+1))).all (fun v=>!dividesM p (digs p (d+1) v) md)=true->(List.range (d+1)).all (noDiv p md)=true):=fun h=>by rw[qeF,j.out];unfold noDiv;rw[h];rfl);(have O:Hid ((List.range (p^(d+1))).all (fun v=>!dividesM p (digs p (d+1) v) md)=false->irrM p md=false):=fun h=>by rw[y.out];exact qdS _ I (k:=d) h);have D:2*(d+1)<=md.length:=U0;have E:2*((d+1:Nat):Int)<=(md.length:Int):=U0;have ab:1<=d+1:=U0;have L:Hid (RelIr w p md (Y ((p^(d+1):Nat):Int)) (Y ((d+1+1:Nat):Int))=RelIr w p md (Y ((p^(d+1):Nat):Int)) (Y (((d+1)+1:Nat):Int))):=rfl;have z:Hid (∀v wr,RelIv w p md d v wr=∃x:Nat,x<=p^(d+1)/\v=Y (x:Int)/\(List.range x).all (fun v=>!dividesM p (digs p (d+1) v) md)=true/\Below w.heap.size w wr):=fun _ _=>rfl;have C:Hid (∀wr,(List.range (d+1)).all (noDiv p md)=true->Below w.heap.size w wr->RelIr w p md (Y ((p^(d+1):Nat):Int)) (Y (((d+1:Nat):Int)+1)) wr):=fun wr h1 h2=>⟨d+1,U0,by rw[Int.natCast_add (d+1) 1];rfl,rfl,h1,h2⟩;clear L;generalize V:p^d=q at *;generalize W:q*p=q2 at *;have f:Hid (p^(d+1)=q2):=Q.out;clear V W Q;generalize d+1=e at *;go_wp2_with fail;clear J;go_loopw [7] (fun v7 wr=>RelIv w p md d v7 wr) (fun v7 _=>q2-(intOf v7).toNat);case atStart=>exact u.out
    case round =>
     rw[z.out] at hrel;obtain⟨v,hv,rfl,g,H⟩:=hrel;have b:=zH g;have c:=zH H;rw[f.out] at hv;clear g H u;by_cases T:v<q2
     . (have s : Hid (∀ i,Below wr.heap.size wr i -> Row i wr.heap.size wr.heap.size e (nz (digs p e v)) -> zC 84 #[zS wr.heap.size e e,zL Am md.length cm,Y p] i fun e' w' => e' = .returned (.bool (dividesM p (digs p e v) md)) /\ Below i.heap.size i w') := fun i hb1 hr1 => by have n:=M.out v;have:=rdivides_c p (digs p e v) md (zO wr.heap.size) Am e cm i hp ae (hr1.ints hr1.lt.2) (((HM.out.keep c.out).more c.out.size).grow (Nat.le_refl _) hb1 |>.more hb1.size) ⟨rfl,qdU U0 _ _⟩ N.out (by rw [n];omega) (by rw [n];omega) ad;rw [n] at this;exact this);have S:=zH (qeF (fun v=>!dividesM p (digs p e v) md) v);(have R:Hid (dividesM p (digs p e v) md=true->irrM p md=false):=fun h=>by refine O.out ?_;exact qdS _ (by rw [f.out];exact T) (by rw [h];rfl));have l:=zH (K.out v wr U0);go_wp2_with fail;(with_reducible refine l.out.mono ?_);rintro e1 i ⟨rfl,hr1,hb1⟩;have t:=zH (s.out i hb1 hr1);have o:=zH (c.out.trans (hb1.mono c.out.size));clear hr1 hb1 l s;generalize dividesM p (digs p e v) md=bb at *;go_wp2_with fail;(with_reducible refine t.out.mono ?_);rintro e2 w2 ⟨rfl,hb2⟩;have r:=zH (o.out.trans (hb2.mono o.out.size));clear hb2 t;cases bb
       . go_wp2_with fail;go_roundw;case rel=>rw[z.out];exact⟨v+1,by rw[f.out];omega,gn,by rw[S.out,b.out];rfl,r.out⟩
         case measure=>exact mE
       . have HN:=zH (R.out rfl);go_wp2_with fail;go_ret;exact⟨qaN HN.out.symm,r.out⟩
     . (obtain rfl : v = q2:=by omega);have A:=zH (C.out wr (B.out (by rw[f.out];exact b.out)) c.out);rw[f.out] at A;go_wp2_with fail;go_roundw;case rel=>exact A.out
       case measure=>exact mE
  . (obtain rfl:d=md.length / 2:=by omega);(have HT:Hid (irrM p md=true):=by show _=_;rw[y.out];exact j.out);have D:md.length<2*(md.length / 2+1):=U0;have aa:md.length / 2<=4:=U0;generalize md.length / 2=d at *;have E:¬2*((d+1:Nat):Int)<=(md.length:Int):=U0;have Z:decide (2*((d+1:Nat):Int)<=(md.length:Int))=false:=decide_eq_false E;have ac:d+1<=9:=U0;clear D;generalize p^d=q at *;generalize d+1=e at *;go_wp2_with fail;go_ret;exact⟨qaN HT.out.symm,X.out⟩
theorem fieldOK_order{p m:Int}{mod:List Int}(h:orderM p m=0):fieldOK p m mod=false:=by rw[qdY];unfold shapeM;rw[h];rfl
theorem fieldOK_prime{p m:Int}{mod:List Int}(h:primeB p.toNat=false):fieldOK p m mod=false:=by rw[qdY];unfold shapeM primeP;rw[h];simp
theorem shape_of{p m:Int}{mod:List Int}(c:orderM p m≠0)(d:primeB p.toNat=true):shapeM p m mod=(if m=1 then mod.length==0 else((mod.length:Int)==m) && mod.all (inB p)):=by have b:=(orderM_ne c).2.2.1.p1;unfold shapeM primeP;rw[d,show(orderM p m==0)=false by rw[beq_eq_false_iff_ne];exact c,show Nat.ble 2 p.toNat=true by rw[Nat.ble_eq];exact b];simp
theorem fieldOK_one{p m:Int}{mod:List Int}(c:orderM p m≠0)(d:primeB p.toNat=true)(b:m=1):fieldOK p m mod=(mod.length==0):=by rw[qdY,shape_of c d,if_pos b];simp[b]
theorem fieldOK_more{p m:Int}{mod:List Int}(c:orderM p m≠0)(d:primeB p.toNat=true)(b:m≠1):fieldOK p m mod=(((mod.length:Int)==m) && mod.all (inB p) && irrM p.toNat (mod.map Int.toNat)):=by rw[qdY,shape_of c d,if_neg b];simp[b]
theorem map_nz{p:Int}{mod:List Int}(h:mod.all (inB p)=true):nz (mod.map Int.toNat)=mod/\∀d∈mod.map Int.toNat,d<p.toNat:=by
 have b:∀z∈mod,0<=z/\z<p:=fun z c=>by have:=List.all_eq_true.1 h z c;simpa[inB] using this
 refine⟨?_,fun d hd=>?_⟩
 . unfold nz;rw[List.map_map];(conv=>rhs;rw[<- List.map_id mod]);apply List.map_congr_left;intro z c;have:=b z c;simp;omega
 . obtain⟨z,c,rfl⟩:=List.mem_map.1 hd;have:=b z c;omega
def RelMo(w1:World)(p:Int)(mod:List Int)(v3:Value)(wr:World):Prop:=∃k n:Nat,k<=mod.length/\v3=Y k/\(mod.take k).all (inB p)=true/\wr=w1.drewN n
theorem rfcheck_c(p m:Int)(mod:List Int)(A:Option Addr)(c:Nat)(w:World)(hA:IntsAt w w.heap.size A mod)(hl:mod.length<=9223372036854775807):
 zC 18 #[Ch p m A mod.length c] w fun e w'=>e=.returned (Y (errF (fieldOK p m mod)))/\Below w.heap.size w w':=by
 have Z:Hid (SBoxF w p m A mod.length c (w.alloc (Ce p m A mod.length c))):=⟨(Below.refl _ _).alloc (Nat.le_refl _) _,U2,heap_alloc_new _ _⟩;have HA:=zH hA;clear hA;go_enter Tryz.func18,Tryz.ntmps18;go_upto_region 1 with fail;generalize w.alloc (Ce p m A mod.length c)=W0 at *;have C:Hid (W0.rangeAt w.heap.size 0 (Ci p m A mod.length c)):=range_of_row Z.out.2.2;have V:=zH (rorder_c p m A mod.length c W0);by_cases H:orderM p m=0
 . (have B:Hid (errF (fieldOK p m mod)=1):=by show _=_;rw[fieldOK_order H];rfl);rw[H] at V;clear H;go_wp2_with (refine wpList_load_mid rfl 29 (.tmp 1) rfl w.heap.size 0 rfl (Ci p m A mod.length c) _ C.out Tryz.underlying29 rfl fieldSize ?_);(with_reducible refine V.out.mono ?_);rintro e j ⟨rfl,hb1⟩;have d:=zH (Z.out.grow hb1);clear hb1;go_wp2_with fail;go_ret;exact⟨qaG B.out.symm,d.out.1⟩
 . have HO := zH H;obtain ⟨O,ac,P,ae⟩:=orderM_ne H;(have au:(orderM p m==0)=false:=by rw [beq_eq_false_iff_ne];exact H);(have i:Hid (∀ W:World,zC 34 #[Y p] W fun e w'=>e=.returned (.bool (primeB p.toNat))/\W=w'):=fun W=>by have:=rprime_c p.toNat (by have:=P.p2;omega) W;rw [O] at this;exact this);have M:=zH O;have ag:=zH ac;have HS:=zH P;(have ar:m<=8:=by have:=P.m2;omega);(have aq:1<=m:=by have:=P.m1;omega);(have aw:p<=256:=by have:=P.p2;omega);(have av:2<=p:=by have:=P.p1;omega);have J:Hid (primeB p.toNat=true->m=1->fieldOK p m mod=(mod.length==0)):=fun h h'=>fieldOK_one H h h';have u:Hid (primeB p.toNat=true->m≠1->fieldOK p m mod=(((mod.length:Int)==m) && mod.all (inB p) && irrM p.toNat (mod.map Int.toNat))):=fun h h'=>fieldOK_more H h h';clear H O ac P ae;generalize orderM p m=q at *;cases hpr:primeB p.toNat
   . (have B:Hid (errF (fieldOK p m mod)=1):=by show _=_;rw[fieldOK_prime hpr];rfl);rw[hpr] at i;clear hpr;go_wp2_with (refine wpList_load_mid rfl 29 (.tmp 1) rfl w.heap.size 0 rfl (Ci p m A mod.length c) _ C.out Tryz.underlying29 rfl fieldSize ?_);(with_reducible refine V.out.mono ?_);rintro e j ⟨rfl,hb1⟩;have d:=zH (Z.out.grow hb1);have b0:j.cell? (zA w.heap.size 0)=some (Y p):=cell_of_row _ _ 0 _ _ _ d.out.2.2;clear hb1;go_wp2_with (go_at_call 34;(with_reducible refine(i.out _).mono ?_);rintro e w' ⟨rfl,rfl⟩);go_ret;exact⟨qaG B.out.symm,d.out.1⟩
   . have X := zH hpr;rw [hpr] at i;clear hpr;go_wp2_with (refine wpList_load_mid rfl 29 (.tmp 1) rfl w.heap.size 0 rfl (Ci p m A mod.length c) _ C.out Tryz.underlying29 rfl fieldSize ?_);(with_reducible refine V.out.mono ?_);rintro e j ⟨rfl,hb1⟩;have d:=zH (Z.out.grow hb1);have b0:j.cell? (zA w.heap.size 0)=some (Y p):=cell_of_row _ _ 0 _ _ _ d.out.2.2;have b1:j.cell? (zA w.heap.size 1)=some (Y m):=cell_of_row _ _ 1 _ _ _ d.out.2.2;have b2:j.cell? (zA w.heap.size 2)=some (zL A mod.length c):=cell_of_row _ _ 2 _ _ _ d.out.2.2;clear hb1 V C Z;clear W0;by_cases E:m=1
     . have g:=zH (J.out X.out E);by_cases l:mod.length=0
       . (have B:Hid (errF (fieldOK p m mod)=0):=by show _=_;rw[g.out,l];rfl);(have Q:((mod.length:Int) != 0)=false:=by rw[l];rfl);(have ad:(m==1)=true:=by rw[E];rfl);clear l E;go_wp2_with (go_at_call 34;(with_reducible refine(i.out _).mono ?_);rintro e w' ⟨rfl,rfl⟩);go_ret;exact⟨qaG B.out.symm,d.out.1⟩
       . (have B:Hid (errF (fieldOK p m mod)=1):=by show _=_;rw[g.out,show(mod.length==0)=false by simpa using l];rfl);(have Q:((mod.length:Int) != 0)=true:=by rw[bne_iff_ne];omega);(have ad:(m==1)=true:=by rw[E];rfl);clear l E;go_wp2_with (go_at_call 34;(with_reducible refine(i.out _).mono ?_);rintro e w' ⟨rfl,rfl⟩);go_ret;exact⟨qaG B.out.symm,d.out.1⟩
     . have g := zH (u.out X.out E);(have ad:(m==1)=false:=by rw [beq_eq_false_iff_ne];exact E);have an:=zH E;clear E;by_cases l:(mod.length:Int)=m
       . (have Q : ((mod.length : Int) != m) = false := by rw [l];simp);have HZ:=zH l;have ah:mod.length<=8:=U0;clear l;have S:=zH ((HA.out.keep d.out.1).more d.out.1.size);have L:Hid (∀ n,Below w.heap.size w (j.drewN n)):=fun n=>qaB d.out.1 n;(have f:Hid (mod.all (inB p)=false->errF (fieldOK p m mod)=1):=fun h=>by rw [g.out,h,Bool.and_false,Bool.false_and];rfl);(have s:Hid (mod.all (inB p)=true->errF (fieldOK p m mod)=errF (irrM p.toNat (mod.map Int.toNat))):=fun h=>by rw [g.out,h,show ((mod.length:Int)==m)=true by rw [beq_iff_eq];exact HZ.out];rfl);have I:Hid (mod.all (inB p)=true->∀ n,zC 35 #[zL A mod.length c,Y p] (j.drewN n) fun e w'=>e=.returned (.bool (irrM p.toNat (mod.map Int.toNat)))/\Below j.heap.size (j.drewN n) w'):=fun h n=>by
          obtain⟨h1,h2⟩:=map_nz h;have y:(mod.map Int.toNat).length=mod.length:=U2
          have:=rirr_c p.toNat (mod.map Int.toNat) A c (j.drewN n) (by have:=M.out;omega) (by have:=M.out;omega) (by rw[h1];exact S.out.keep (qaB (Below.refl _ _) n)) ⟨rfl,h2⟩ (by rw[y];exact ah) (by
           rw[y]
           have e:mod.length=m.toNat:=by have:=HZ.out;have:=ag.out;omega
           rw[e]
           exact HS.out.q)
          rw[y,M.out] at this;exact this
         clear g u J;go_wp2_with (go_at_call 34;(with_reducible refine(i.out _).mono ?_);rintro e w' ⟨rfl,rfl⟩);go_loopw [3] (fun v3 wr=>RelMo j p mod v3 wr) (fun v3 _=>mod.length-(intOf v3).toNat);case atStart=>exact⟨0,0,U0,rfl,U2,rfl⟩
         case round =>
          obtain⟨k,n,hk,rfl,K,rfl⟩:=hrel;have r:=zH K;clear K;(have ap:(k:Int)<=m:=by have:=HZ.out;omega);by_cases N:k<mod.length
          . obtain ⟨b,o,rfl,ao,hc⟩ := S.out.at_ N;have D:=zH (qbN (inB p) mod 0 k N);have t:=zH (qbL (inB p) mod 0 k N);(have ab:(k:Int)<m:=by have:=HZ.out;omega);have k0:(0:Int)<=(k:Int):=U0;have k1:(k:Int)<(mod.length:Int):=U0;generalize mod.getD k 0=z at *;by_cases ai:z<0
            . have R : Hid (errF (fieldOK p m mod) = 1) := f.out (t.out (by unfold inB;rw [decide_eq_false U0];rfl));clear D t;go_upto_region 12 with fail;refine qaD (SDrew j) U1 U1 ⟨n+1,by rw [<- World.drewN_drewN];rfl⟩ ?_
              repeat (first
               | (apply qaJ rfl
                  . intro W v
                    obtain⟨n',rfl⟩:=v
                    go_simp
                    rfl
                  go_simp)
               | (apply qbD rfl
                  . intro W v
                    obtain⟨n',rfl⟩:=v
                    go_simp
                    rfl
                  go_simp)
               |(apply qbI rfl;go_simp))
              refine qaE ?_;intro w2 x;obtain⟨n2,rfl⟩:=x;go_wp2_with fail;go_ret;exact⟨qaG R.out.symm,L.out _⟩
            . have ak : decide (z < 0) = false := decide_eq_false ai;by_cases aj:p<=z
              . have R : Hid (errF (fieldOK p m mod) = 1) := f.out (t.out (by unfold inB;rw [decide_eq_false (p := z < p) U0,Bool.and_false]));clear D t;go_upto_region 12 with fail;refine qaD (SDrew j) U1 U1 ⟨n+1,by rw [<- World.drewN_drewN];rfl⟩ ?_
                repeat (first
                 | (apply qaJ rfl
                    . intro W v
                      obtain⟨n',rfl⟩:=v
                      go_simp
                      rfl
                    go_simp)
                 | (apply qbD rfl
                    . intro W v
                      obtain⟨n',rfl⟩:=v
                      go_simp
                      rfl
                    go_simp)
                 |(apply qbI rfl;go_simp))
                refine qaE ?_;intro w2 x;obtain⟨n2,rfl⟩:=x;go_wp2_with fail;go_ret;exact⟨qaG R.out.symm,L.out _⟩
              . have al : decide (p <= z) = false := decide_eq_false aj;(have HN:Hid ((mod.take (k+1)).all (inB p)=true):=by show _=_;rw [D.out,r.out];unfold inB;rw [decide_eq_true (by omega:0<=z),decide_eq_true (by omega:z<p)];rfl);clear D t;go_upto_region 12 with fail;refine qaD (SDrew j) U1 U1 ⟨n+1,by rw [<- World.drewN_drewN];rfl⟩ ?_
                repeat (first
                 | (apply qaJ rfl
                    . intro W v
                      obtain⟨n',rfl⟩:=v
                      go_simp
                      rfl
                    go_simp)
                 | (apply qbD rfl
                    . intro W v
                      obtain⟨n',rfl⟩:=v
                      go_simp
                      rfl
                    go_simp)
                 |(apply qbI rfl;go_simp))
                refine qaE ?_;intro w2 x;obtain⟨n2,rfl⟩:=x;go_wp2_with fail;go_roundw;case rel=>exact⟨k+1,n2,U0,gn,HN.out,rfl⟩
                case measure=>exact mE
          . (have aa : k = mod.length:=by omega);(have T:Hid (mod.all (inB p)=true):=by have:=r.out;rw[aa,List.take_length] at this;exact this);(have ab:¬(k:Int)<m:=by have:=HZ.out;omega);have af:=zH (I.out T.out n);have R:=zH (s.out T.out);clear r I s f aa;generalize irrM p.toNat (mod.map Int.toNat)=ir at *;go_wp2_with fail;(with_reducible refine af.out.mono ?_);rintro e w2 ⟨rfl,hb2⟩;have U:=zH ((L.out n).trans (hb2.mono (by have:=d.out.2.1;omega)));clear hb2;cases ir
            . go_wp2_with fail;go_ret;exact⟨qaG R.out.symm,U.out⟩
            . go_wp2_with fail;go_ret;exact⟨qaG R.out.symm,U.out⟩
       . (have B:Hid (errF (fieldOK p m mod)=1):=by show _=_;rw[g.out,show((mod.length:Int)==m)=false by rw[beq_eq_false_iff_ne];exact l];rfl);(have Q:((mod.length:Int) != m)=true:=by rw[bne_iff_ne];exact l);clear l;go_wp2_with (go_at_call 34;(with_reducible refine(i.out _).mono ?_);rintro e w' ⟨rfl,rfl⟩);go_ret;exact⟨qaG B.out.symm,d.out.1⟩
theorem SBoxF.c0{w:World}{p m:Int}{A:Option Addr}{n c:Nat}{W:World}(h:SBoxF w p m A n c W):W.cell? (zA w.heap.size 0)=some (Y p):=cell_of_row _ _ 0 _ _ _ h.2.2
theorem SBoxF.c1{w:World}{p m:Int}{A:Option Addr}{n c:Nat}{W:World}(h:SBoxF w p m A n c W):W.cell? (zA w.heap.size 1)=some (Y m):=cell_of_row _ _ 1 _ _ _ h.2.2
theorem SBoxF.c2{w:World}{p m:Int}{A:Option Addr}{n c:Nat}{W:World}(h:SBoxF w p m A n c W):W.cell? (zA w.heap.size 2)=some (zL A n c):=cell_of_row _ _ 2 _ _ _ h.2.2
theorem SBoxF.range{w:World}{p m:Int}{A:Option Addr}{n c:Nat}{W:World}(h:SBoxF w p m A n c W):W.rangeAt w.heap.size 0 (Ci p m A n c):=range_of_row h.2.2
theorem qbK(w:World)(p m:Int)(A:Option Addr)(n c:Nat):SBoxF w p m A n c (w.alloc (Ce p m A n c)):=⟨(Below.refl _ _).alloc (Nat.le_refl _) _,U2,heap_alloc_new _ _⟩
theorem ris_c(p m:Int)(A:Option Addr)(n c:Nat)(x:Int)(w:World):zC 41 #[Ch p m A n c,Y x] w fun e w'=>e=.returned (.bool (inB (orderM p m) x))/\Below w.heap.size w w':=by
 have b:Hid (SBoxF w p m A n c (w.alloc (Ce p m A n c))):=⟨(Below.refl _ _).alloc (Nat.le_refl _) _,U2,heap_alloc_new _ _⟩;go_enter Tryz.func41,Tryz.ntmps41;go_upto_region 1 with fail;generalize w.alloc (Ce p m A n c)=g at *;have j:Hid (g.rangeAt w.heap.size 0 (Ci p m A n c)):=range_of_row b.out.2.2;by_cases h:x<0
 . (have d:Hid (inB (orderM p m) x=false):=by show _=_;unfold inB;rw[decide_eq_false U0];rfl);have q:decide (0<=x)=false:=decide_eq_false U0;clear h;go_wp2_with fail;go_ret;exact⟨qaN d.out.symm,b.out.1⟩
 . (have d:Hid (inB (orderM p m) x=decide (x<orderM p m)):=by show _=_;unfold inB;rw[decide_eq_true U0];rfl);have q:decide (0<=x)=true:=decide_eq_true U0;have i:=zH (rorder_c p m A n c g);have k:=b.out.c0;have l:=b.out.c1;have o:=b.out.c2;clear h;go_wp2_with fail;(with_reducible refine i.out.mono ?_);rintro e r ⟨rfl,hb1⟩;have f:=zH (b.out.grow hb1);clear hb1 k l o;go_wp2_with fail;go_ret;exact⟨qaN d.out.symm,f.out.1⟩
theorem rin_c(p m:Nat)(A:Option Addr)(n c x:Nat)(w:World)(l:Small p m)(o:x<p^m):zC 22 #[Ch p m A n c,Y x] w fun e w'=>e=.returned (Y x)/\Below w.heap.size w w':=by
 have i:=zH (qbK w p m A n c);have b:inB (orderM p m) x=true:=by rw[qbX l.p1 l.p2 l.m1 l.m2,if_neg (by have:=l.q;omega)];unfold inB;rw[decide_eq_true U0,decide_eq_true U0];rfl
 have d:=zH b;clear l o b;go_enter Tryz.func22,Tryz.ntmps22;go_upto_region 1 with fail;generalize w.alloc (Ce p m A n c)=j at *;have f:=zH i.out.range;have h:=zH (ris_c p m A n c x j);rw[d.out] at h;go_wp2_with (refine wpList_load_mid rfl 29 (.tmp 2) rfl w.heap.size 0 rfl (Ci p m A n c) _ f.out Tryz.underlying29 rfl fieldSize ?_);(with_reducible refine h.out.mono ?_);rintro e k ⟨rfl,hb1⟩;have g:=zH (i.out.grow hb1);clear hb1;go_wp2_with fail;go_ret;exact⟨rfl,g.out.1⟩
theorem rdig_c(p m:Nat)(A:Option Addr)(n c x:Nat)(w:World)(v:Small p m)(y:x<p^m):zC 151 #[Ch p m A n c,Y x] w fun e w'=>(∃g,e=.returned (zS g m m)/\Row w' w.heap.size g m (nz (digs p m x)))/\Below w.heap.size w w':=by
 have b:=zH (qbK w p m A n c);have j:Hid (∀W:World,zC 22 #[Ch p m A n c,Y x] W fun e w'=>e=.returned (Y x)/\Below W.heap.size W w'):=fun W=>rin_c p m A n c x W v y;have i:Hid (∀W:World,zC 85 #[Y x,Y p,Y m] W fun e w'=>e=.returned (zS W.heap.size m m)/\Row w' W.heap.size W.heap.size m (nz (digs p m x))/\Below W.heap.size W w'):=fun W=>rdigits_c x p m W (by have:=v.q;omega) (by have:=v.p1;omega) (by have:=v.p2;omega) (by have:=v.m2;omega);clear v y;go_enter Tryz.func151,Tryz.ntmps151;go_upto_region 1 with fail;generalize w.alloc (Ce p m A n c)=k at *;have s:=b.out.c0;have t:=b.out.c1;have u:=b.out.c2;have d:w.heap.size<k.heap.size:=b.out.2.1
 go_region_held3 (fun w'=>w'.cell? (zA w.heap.size 0)=some (Y p)/\w'.cell? (zA w.heap.size 1)=some (Y m)/\w'.cell? (zA w.heap.size 2)=some (zL A n c)/\w.heap.size<w'.heap.size)
  (first|go_keep|(go_split_ands;first|exact⟨(hbd2.cell (p:=(zA w.heap.size 0)) am).trans am,(hbd2.cell (p:=(zA w.heap.size 1)) am).trans am,(hbd2.cell (p:=(zA w.heap.size 2)) am).trans am,Nat.lt_of_lt_of_le am hbd2.size⟩|exact⟨(hbd1.cell (p:=(zA w.heap.size 0)) am).trans am,(hbd1.cell (p:=(zA w.heap.size 1)) am).trans am,(hbd1.cell (p:=(zA w.heap.size 2)) am).trans am,Nat.lt_of_lt_of_le am hbd1.size⟩))
  (first|((with_reducible refine(j.out _).mono ?_);rintro e f ⟨rfl,hbd1⟩)|((with_reducible refine(i.out _).mono ?_);rintro e h ⟨rfl,hrowa,hbd2⟩))
 have l:Below k.heap.size k f:=⟨hbd1.os,hbd1.tape,hbd1.output,hbd1.size,hbd1.block⟩;have o:Hid (Below w.heap.size w h):=b.out.1.trans ((l.mono (Nat.le_of_lt d)).trans (hbd2.mono (by have:=l.size;omega)));have r:Hid (Row h w.heap.size f.heap.size m (nz (digs p m x))):=hrowa.base (by have:=l.size;omega);clear s t u hrowa hbd1 hbd2;go_wp2_with fail;go_ret;exact⟨⟨_,rfl,r.out⟩,o.out⟩
def RelVa(W0:World)(p:Nat)(l:List Nat)(v5 v6:Value)(wr:World):Prop:=∃k n:Nat,k<=l.length/\v6=Y ((k:Int)-1)/\v5=Y ((val p (l.drop k):Nat):Int)/\wr=W0.drewN n
theorem rval_c(p m:Nat)(A:Option Addr)(n c:Nat)(l:List Nat)(U:Option Addr)(cl:Nat)(w:World)(X:IntsAt w w.heap.size U (nz l))(hp:1<=p)(Z:∀ d∈l,d<p)(hq:p ^ l.length<=1000000000)(_:p<=1000000000)(aa:l.length<=1000):
 zC 152 #[Ch p m A n c,zL U l.length cl] w fun e w'=>e=.returned (Y ((val p l:Nat):Int))/\Below w.heap.size w w':=by
 have h:=zH (qbK w p m A n c);have D:=zH Z;have B:=zH ((X.keep h.out.1).more h.out.1.size);clear X Z;go_enter Tryz.func152,Tryz.ntmps152;go_upto_region 1 with fail;generalize w.alloc (Ce p m A n c)=i at *;have T:=h.out.c0;have C:Hid (∀n,Below w.heap.size w (i.drewN n)):=fun n=>qaB h.out.1 n;go_wp2_with fail;go_loopw [5,6] (fun v5 v6 wr=>RelVa i p l v5 v6 wr) (fun _ v6 _=>(intOf v6+1).toNat);case atStart=>exact⟨l.length,0,Nat.le_refl _,rfl,by simp[val],rfl⟩
 case round =>
  obtain⟨k,L,N,rfl,rfl,rfl⟩:=hrel;rcases k with _|k
  . go_wp2_with fail;go_ret;exact⟨qaG U2,C.out _⟩
  . obtain ⟨b,o,rfl,K,J⟩ := B.out.at_ (k := k) (by rw [qaA];omega);rw [qaC] at J;have u:=zH (val_drop p l k U0);have r:=val_drop_lt hp D.out k;have s:p ^ (l.length-k)<=p ^ l.length:=Nat.pow_le_pow_right hp U0;have g:val p (l.drop k)<=1000000000:=U0;(have q:val p (l.drop (k+1))*p+l.getD k 0<=1000000000:=by rw [<- u.out];exact g);generalize val p (l.drop (k+1))=y at *;generalize l.getD k 0=z at *;(have v:Hid (IntKind.i64.wrap ((y:Int)*(p:Int))=((y*p:Nat):Int)):=by show _=_;rw [<- Int.natCast_mul];exact IntWalk.i64_in _ U0);generalize y*p=t at *;(have x:Hid (IntKind.i64.wrap ((t:Int)+(z:Int))=((t+z:Nat):Int)):=by show _=_;rw [Int.natCast_add];exact IntWalk.i64_in _ U0);generalize t+z=S at *;have f:((k+1:Nat):Int)-1=(k:Int):=U0;have O:(0:Int)<=(k:Int):=U0;have P:(k:Int)<(l.length:Int):=U0;rw [f];clear r s g q f;go_upto_region 5 with fail;have E:=v.out;have H:=x.out;refine qaD (SDrew i) U1 U1 ⟨L+1,by rw [<- World.drewN_drewN];rfl⟩ ?_
    repeat (apply qaJ rfl
            . intro W I;obtain⟨Q,rfl⟩:=I;go_simp;rfl
            go_simp)
    refine qaE ?_;intro R j;obtain⟨M,rfl⟩:=j;clear E H;go_wp2_with fail;go_roundw;case rel=>exact⟨k,M,U0,rfl,by rw[u.out],rfl⟩
    case measure=>simp[intOf]
def rK(r a:List Nat)(k:Nat):List Nat:=r.take k++a.drop k
theorem rK_len(r a:List Nat)(c:r.length=a.length)(k:Nat)(b:k<=a.length):(rK r a k).length=a.length:=by unfold rK;rw[List.length_append,List.length_take,List.length_drop];omega
theorem rK_at(r a:List Nat)(c:r.length=a.length)(k:Nat)(b:k<a.length):(rK r a k).getD k 0=a.getD k 0:=by
 unfold rK;have h:(r.take k).length=k:=by rw[List.length_take];omega
 simp only[List.getD];rw[List.getElem?_append_right U0,h,Nat.sub_self,List.getElem?_drop,Nat.add_zero]
theorem rK_set(r a:List Nat)(c:r.length=a.length)(k:Nat)(b:k<a.length):(rK r a k).set k (r.getD k 0)=rK r a (k+1):=by
 unfold rK;have h:(r.take k).length=k:=by rw[List.length_take];omega
 rw[List.set_append_right _ _ U0,h,Nat.sub_self,List.drop_eq_getElem_cons b,List.set_cons_zero,List.take_succ_eq_append_getElem (l:=r) U0,List.append_assoc];simp[List.getD,show k<r.length by omega]
theorem rK_end(r a:List Nat)(b:r.length=a.length):rK r a a.length=r:=by unfold rK;rw[<- b,List.take_length,b,List.drop_length,List.append_nil]
theorem SBoxF.wrote{w:World}{p m:Int}{A:Option Addr}{n c:Nat}{W:World}(h:SBoxF w p m A n c W){g k:Nat}(b:w.heap.size<g)(u:Value):SBoxF w p m A n c (W.setCell (zA g k) u):=
 ⟨h.1.setCell (p:=(zA g k)) (Nat.le_of_lt b) u,by simpa using h.2.1,(Below.heap_setCell W (zA g k) u w.heap.size (by show w.heap.size≠g;omega)).trans h.2.2⟩
theorem SBoxF.drewN{w:World}{p m:Int}{A:Option Addr}{n c:Nat}{W:World}(h:SBoxF w p m A n c W)(k:Nat):SBoxF w p m A n c (W.drewN k):=⟨qaB h.1 k,h.2.1,h.2.2⟩
def RelAd2(w:World)(p m:Nat)(A:Option Addr)(n c ga gb:Nat)(r a b:List Nat)(v9:Value)(wr:World):Prop:=
 ∃k:Nat,k<=m/\v9=Y (k:Int)/\Row wr (w.heap.size+1) ga m (nz (rK r a k))/\Row wr (w.heap.size+1) gb m (nz b)/\SBoxF w p m A n c wr
theorem radd_c(p m:Nat)(A:Option Addr)(n c x y:Nat)(w:World)(hs:Small p m)(hx:x<p ^ m)(hy:y<p ^ m):zC 90 #[Ch p m A n c,Y x,Y y] w fun e w'=>e=.returned (Y ((addD p m x y:Nat):Int))/\Below w.heap.size w w':=by
 have HX:=zH (qbK w p m A n c);have P:Hid (∀W:World,zC 151 #[Ch p m A n c,Y x] W fun e w'=>(∃g,e=.returned (zS g m m)/\Row w' W.heap.size g m (nz (digs p m x)))/\Below W.heap.size W w'):=fun W=>rdig_c p m A n c x W hs hx;have Q:Hid (∀W:World,zC 151 #[Ch p m A n c,Y y] W fun e w'=>(∃g,e=.returned (zS g m m)/\Row w' W.heap.size g m (nz (digs p m y)))/\Below W.heap.size W w'):=fun W=>rdig_c p m A n c y W hs hy;have aw:=hs.p1;have ax:=hs.p2;have au:=hs.m2;have aj:=zH (addD_val p m x y);have M:=qaK p m x;have N:=qaK p m y;have ac:Hid (∀k,(digs p m x).getD k 0<p/\(digs p m y).getD k 0<p):=fun k=>⟨getD_lt U0 (qcB U0 m x) k,getD_lt U0 (qcB U0 m y) k⟩;have V:(List.zipWith (fun a b=>(a+b) % p) (digs p m x) (digs p m y)).length=m:=by rw[List.length_zipWith,M,N,Nat.min_self]
 have ag:Hid (∀k,k<m->(List.zipWith (fun a b=>(a+b) % p) (digs p m x) (digs p m y)).getD k 0=((digs p m x).getD k 0+(digs p m y).getD k 0) % p):=fun k J=>by
  have e1:(digs p m x)[k]?=some ((digs p m x).getD k 0):=by simp[List.getD,show k<(digs p m x).length by omega]
  have e2:(digs p m y)[k]?=some ((digs p m y).getD k 0):=by simp[List.getD,show k<(digs p m y).length by omega]
  rw[List.getD_eq_getElem?_getD,List.getElem?_zipWith,e1,e2];rfl
 have ak:Hid (∀(l:List Nat)(Al:Option Addr)(W:World),l.length=m->(∀d∈l,d<p)->IntsAt W W.heap.size Al (nz l)->zC 152 #[Ch p m A n c,zL Al m m] W fun e w'=>e=.returned (Y ((val p l:Nat):Int))/\Below W.heap.size W w'):=fun l Al W h1 h2 h3=>by have:=rval_c p m A n c l Al m W h3 U0 h2 (by rw[h1];have:=hs.q;omega) U0 U0;rw[h1] at this;exact this
 have ae:Hid (∀d∈List.zipWith (fun a b=>(a+b) % p) (digs p m x) (digs p m y),d<p):=fun d hd=>by obtain⟨i,hi,rfl⟩:=List.mem_iff_getElem.1 hd;rw[List.getElem_zipWith];exact Nat.mod_lt _ U0
 have h:=zH M;have B:=zH V;have ab:=zH N;clear hs hx hy M N V;generalize List.zipWith (fun a b=>(a+b) % p) (digs p m x) (digs p m y)=r at *;generalize digs p m x=a at *;generalize digs p m y=b at *;have ai:=zH (fun k J=>rK_set r a (by rw[B.out,h.out]) k J);have ad:=zH (fun k J=>rK_at r a (by rw[B.out,h.out]) k J);have ah:=zH (fun k J=>rK_len r a (by rw[B.out,h.out]) k J);have af:=zH (rK_end r a (by rw[B.out,h.out]));go_enter Tryz.func90,Tryz.ntmps90;go_upto_region 1 with fail;have K:Hid (w.heap.size+1=(w.alloc (Ce p m A n c)).heap.size):=U7;generalize w.alloc (Ce p m A n c)=W0 at *;have f:=zH HX.out.range;go_wp2_with (refine wpList_load_mid rfl 29 (.tmp 3) rfl w.heap.size 0 rfl (Ci p m A n c) _ f.out Tryz.underlying29 rfl fieldSize ?_);(with_reducible refine(P.out W0).mono ?_);rintro e w1 ⟨⟨ga,rfl,t⟩,hb1⟩;have L:=zH (HX.out.grow hb1);have j:Hid (Row w1 (w.heap.size+1) ga m (nz a)):=t.base (by have:=t.lt;have:=K.out;omega);have ao:=hb1.size;clear t hb1 HX f;have f:=zH L.out.range;go_wp2_with (refine wpList_load_mid rfl 29 (.tmp 3) rfl w.heap.size 0 rfl (Ci p m A n c) _ f.out Tryz.underlying29 rfl fieldSize ?_);(with_reducible refine(Q.out w1).mono ?_);rintro e w2 ⟨⟨gb,rfl,o⟩,hb2⟩;have U:=zH (L.out.grow hb2);have Z:Hid (ga<gb):=Nat.lt_of_lt_of_le j.out.lt.2 o.lt.1;have H:Hid (Row w2 (w.heap.size+1) gb m (nz b)):=o.base (by have:=o.lt;have:=K.out;omega);have E:Hid (Row w2 (w.heap.size+1) ga m (nz a)):=j.out.below hb2 j.out.lt.2;have X:Hid (w.heap.size<ga):=j.out.lt.1;clear o hb2 ao L f j P Q;clear w1;have S:Hid (RelAd2 w p m A n c ga gb r a b (Y ((0:Nat):Int)) w2):=⟨0,Nat.zero_le _,rfl,by simpa[rK] using E.out,H.out,U.out⟩;clear U E H;go_wp2_with fail;go_loopw [9] (fun v9 wr=>RelAd2 w p m A n c ga gb r a b v9 wr) (fun v9 _=>m-(intOf v9).toNat);case atStart=>exact S.out
 case round =>
  obtain⟨k,J,rfl,t,o,hx⟩:=hrel;have s:=zH t;have I:=zH o;have D:=zH hx;clear t o hx S;by_cases C:k<m
  . (have ya : wr.cell? (zA ga k) = some (Y ((a.getD k 0 : Nat) : Int)) := by rw [<- ad.out k (by rw [h.out];exact C),<- qaC];exact s.out.cell (by rw [qaA,ah.out k (by rw [h.out];exact J),h.out];exact C));(have yb:wr.cell? (zA gb k)=some (Y ((b.getD k 0:Nat):Int)):=by rw [<- qaC];exact I.out.cell (by rw [qaA,ab.out];exact C));have y0:=D.out.c0;have f1:=s.out.frozen k;have T:=zH (ai.out k (by rw [h.out];exact C));have aa:=zH (ag.out k C);obtain ⟨aq,ar⟩:=ac.out k;have T1:Hid (Int.tmod ((a.getD k 0+b.getD k 0:Nat):Int) (p:Int)=(((a.getD k 0+b.getD k 0) % p:Nat):Int)):=qaY _ _;generalize a.getD k 0=u at *;generalize b.getD k 0=v at *;(have E1:Hid (IntKind.i64.wrap ((u:Int)+(v:Int))=((u+v:Nat):Int)):=by show _=_;rw [Int.natCast_add];exact IntWalk.i64_in _ U0);generalize (u+v) % p=z at *;generalize u+v=uv at *;have av:¬ (p:Int)=0:=U0;have ap:¬ p=0:=U0;have k0:(0:Int)<=(k:Int):=U0;have k1:(k:Int)<(m:Int):=U0;go_upto_region 6 with fail;have e1:=E1.out;have t1:=T1.out;refine qaI 15 (SDrew wr) U1 U1 ⟨1,rfl⟩ ?_;simp only [List.take_succ_cons,List.take_zero,List.drop_succ_cons,List.drop_zero]
    repeat (apply qaJ rfl
            . intro W hS;obtain⟨n',rfl⟩:=hS;go_simp;rfl
            go_simp)
    refine qaE ?_;intro w3 an;obtain⟨n3,rfl⟩:=an;clear e1 t1 yb y0;go_wp2_with fail;go_roundw;case rel=>exact⟨k+1,U0,gn,by rw[<- T.out,aa.out,<- qbC];exact Row.set (w:=wr.drewN n3) s.out k z,Row.far (w:=wr.drewN n3) I.out (p:=(zA ga k)) (by show gb≠ga;have:=Z.out;omega) _,(D.out.drewN n3).wrote X.out _⟩
    case measure=>exact mE
  . (obtain rfl:k=m:=by omega);(have R:Hid (Row wr (w.heap.size+1) ga k (nz r)):=by have:=s.out;have e:=af.out;rw[h.out] at e;rw[e] at this;exact this);have O:=zH (ak.out r (zO ga) wr B.out ae.out (R.out.ints R.out.lt.2));rw[<- aj.out] at O;have f:=zH D.out.range;go_wp2_with (refine wpList_load_mid rfl 29 (.tmp 3) rfl w.heap.size 0 rfl (Ci p k A n c) _ f.out Tryz.underlying29 rfl fieldSize ?_);(with_reducible refine O.out.mono ?_);rintro e w4 ⟨rfl,hb4⟩;have al:=zH (D.out.grow hb4);clear hb4;go_wp2_with fail;go_ret;exact⟨rfl,al.out.1⟩
def RelNg2(w:World)(p m:Nat)(A:Option Addr)(n c ga:Nat)(r a:List Nat)(v9:Value)(wr:World):Prop:=
 ∃k:Nat,k<=m/\v9=Y (k:Int)/\Row wr (w.heap.size+1) ga m (nz (rK r a k))/\SBoxF w p m A n c wr
theorem rneg_c(p m:Nat)(A:Option Addr)(n c x:Nat)(w:World)(hs:Small p m)(hx:x<p ^ m):zC 150 #[Ch p m A n c,Y x] w fun e w'=>e=.returned (Y ((negD p m x:Nat):Int))/\Below w.heap.size w w':=by
 have Z:=zH (qbK w p m A n c);have D:Hid (∀W:World,zC 151 #[Ch p m A n c,Y x] W fun e w'=>(∃g,e=.returned (zS g m m)/\Row w' W.heap.size g m (nz (digs p m x)))/\Below W.heap.size W w'):=fun W=>rdig_c p m A n c x W hs hx;have ag:=hs.p1;have ah:=hs.p2;have ae:=hs.m2;have V:=zH (negD_val p m x);have B:=qaK p m x;have O:Hid (∀k,(digs p m x).getD k 0<p):=fun k=>getD_lt U0 (qcB U0 m x) k;have K:((digs p m x).map fun a=>(p-a) % p).length=m:=by rw[List.length_map,B]
 have S:Hid (∀k,k<m->((digs p m x).map fun a=>(p-a) % p).getD k 0=(p-(digs p m x).getD k 0) % p):=fun k y=>by
  have e1:(digs p m x)[k]?=some ((digs p m x).getD k 0):=by simp[List.getD,show k<(digs p m x).length by omega]
  rw[List.getD_eq_getElem?_getD,List.getElem?_map,e1];rfl
 have X:Hid (∀(l:List Nat)(Al:Option Addr)(W:World),l.length=m->(∀d∈l,d<p)->IntsAt W W.heap.size Al (nz l)->zC 152 #[Ch p m A n c,zL Al m m] W fun e w'=>e=.returned (Y ((val p l:Nat):Int))/\Below W.heap.size W w'):=fun l Al W h1 h2 h3=>by have:=rval_c p m A n c l Al m W h3 U0 h2 (by rw[h1];have:=hs.q;omega) U0 U0;rw[h1] at this;exact this
 have Q:Hid (∀d∈(digs p m x).map fun a=>(p-a) % p,d<p):=fun d hd=>by obtain⟨i,_,rfl⟩:=List.mem_map.1 hd;exact Nat.mod_lt _ U0
 have b:=zH B;have o:=zH K;clear hs hx B K;generalize ((digs p m x).map fun a=>(p-a) % p)=r at *;generalize digs p m x=a at *;have U:=zH (fun k y=>rK_set r a (by rw[o.out,b.out]) k y);have P:=zH (fun k y=>rK_at r a (by rw[o.out,b.out]) k y);have T:=zH (fun k y=>rK_len r a (by rw[o.out,b.out]) k y);have R:=zH (rK_end r a (by rw[o.out,b.out]));go_enter Tryz.func150,Tryz.ntmps150;go_upto_region 1 with fail;have L:Hid (w.heap.size+1=(w.alloc (Ce p m A n c)).heap.size):=U7;generalize w.alloc (Ce p m A n c)=W0 at *;have h:=zH Z.out.range;go_wp2_with (refine wpList_load_mid rfl 29 (.tmp 2) rfl w.heap.size 0 rfl (Ci p m A n c) _ h.out Tryz.underlying29 rfl fieldSize ?_);(with_reducible refine(D.out W0).mono ?_);rintro e w1 ⟨⟨ga,rfl,j⟩,hb1⟩;have J:=zH (Z.out.grow hb1);have s:Hid (Row w1 (w.heap.size+1) ga m (nz a)):=j.base (by have:=j.lt;have:=L.out;omega);have M:Hid (w.heap.size<ga):=s.out.lt.1;clear j hb1 Z h D;have H:Hid (RelNg2 w p m A n c ga r a (Y ((0:Nat):Int)) w1):=⟨0,Nat.zero_le _,rfl,by simpa[rK] using s.out,J.out⟩;clear J s;go_wp2_with fail;go_loopw [6] (fun v9 wr=>RelNg2 w p m A n c ga r a v9 wr) (fun v9 _=>m-(intOf v9).toNat);case atStart=>exact H.out
 case round =>
  obtain⟨k,y,rfl,j,hx⟩:=hrel;have f:=zH j;have t:=zH hx;clear j hx H;by_cases v:k<m
  . (have ya : wr.cell? (zA ga k) = some (Y ((a.getD k 0 : Nat) : Int)) := by rw [<- P.out k (by rw [b.out];exact v),<- qaC];exact f.out.cell (by rw [qaA,T.out k (by rw [b.out];exact y),b.out];exact v));have y0:=t.out.c0;have f1:=f.out.frozen k;have I:=zH (U.out k (by rw [b.out];exact v));have N:=zH (S.out k v);have ad:=O.out k;have T1:Hid (Int.tmod ((p-a.getD k 0:Nat):Int) (p:Int)=(((p-a.getD k 0) % p:Nat):Int)):=qaY _ _;generalize a.getD k 0=u at *;(have E1:Hid (IntKind.i64.wrap ((p:Int)-(u:Int))=((p-u:Nat):Int)):=by show _=_;rw [Int.natCast_sub U0];exact IntWalk.i64_in _ U0);generalize (p-u) % p=z at *;generalize p-u=uv at *;have af:¬ (p:Int)=0:=U0;have ac:¬ p=0:=U0;have k0:(0:Int)<=(k:Int):=U0;have k1:(k:Int)<(m:Int):=U0;go_upto_region 5 with fail;have e1:=E1.out;have t1:=T1.out;refine qaI 13 (SDrew wr) U1 U1 ⟨1,rfl⟩ ?_;simp only [List.take_succ_cons,List.take_zero,List.drop_succ_cons,List.drop_zero]
    repeat (apply qaJ rfl
            . intro W hS;obtain⟨n',rfl⟩:=hS;go_simp;rfl
            go_simp)
    refine qaE ?_;intro w3 ab;obtain⟨n3,rfl⟩:=ab;clear e1 t1 y0;go_wp2_with fail;go_roundw;case rel=>exact⟨k+1,U0,gn,by rw[<- I.out,N.out,<- qbC];exact Row.set (w:=wr.drewN n3) f.out k z,(t.out.drewN n3).wrote M.out _⟩
    case measure=>exact mE
  . (obtain rfl:k=m:=by omega);(have E:Hid (Row wr (w.heap.size+1) ga k (nz r)):=by have:=f.out;have e:=R.out;rw[b.out] at e;rw[e] at this;exact this);have C:=zH (X.out r (zO ga) wr o.out Q.out (E.out.ints E.out.lt.2));rw[<- V.out] at C;have h:=zH t.out.range;go_wp2_with (refine wpList_load_mid rfl 29 (.tmp 2) rfl w.heap.size 0 rfl (Ci p k A n c) _ h.out Tryz.underlying29 rfl fieldSize ?_);(with_reducible refine C.out.mono ?_);rintro e w4 ⟨rfl,hb4⟩;have aa:=zH (t.out.grow hb4);clear hb4;go_wp2_with fail;go_ret;exact⟨rfl,aa.out.1⟩
def MuInv(w:World)(p m:Nat)(A:Option Addr)(n c ga gb gc N:Nat)(a b C:List Nat)(wr:World):Prop:=
 Row wr (w.heap.size+1) ga m (nz a)/\Row wr (w.heap.size+1) gb m (nz b)/\Row wr (w.heap.size+1) gc N (nz C)/\SBoxF w p m A n c wr/\ga<gc/\gb<gc
section
variable {w:World} {p m:Nat} {A:Option Addr} {n c ga gb gc N:Nat} {a b C:List Nat} {wr wx:World}
theorem MuInv.set(h:MuInv w p m A n c ga gb gc N a b C wr)(k x:Nat):MuInv w p m A n c ga gb gc N a b (C.set k x) (wr.setCell (zA gc k) (Y (x:Int))):=by obtain⟨f,g,d,i,j,l⟩:=h;refine⟨f.far (p:=(zA gc k)) (by show ga≠gc;omega) _,g.far (p:=(zA gc k)) (by show gb≠gc;omega) _,?_,i.wrote d.lt.1 _,j,l⟩;rw[<- qbC];exact d.set k x
theorem MuInv.drewN(h:MuInv w p m A n c ga gb gc N a b C wr)(k:Nat):MuInv w p m A n c ga gb gc N a b C (wr.drewN k):=by obtain⟨d,f,g,i,j,l⟩:=h;exact⟨d,f,g,i.drewN k,j,l⟩
theorem MuInv.grow(h:MuInv w p m A n c ga gb gc N a b C wr)(l:Below wr.heap.size wr wx):MuInv w p m A n c ga gb gc N a b C wx:=by obtain⟨d,f,g,i,j,k⟩:=h;exact⟨d.below l d.lt.2,f.below l f.lt.2,g.below l g.lt.2,i.grow l,j,k⟩
theorem MuInv.ca(h:MuInv w p m A n c ga gb gc N a b C wr){k:Nat}(d:k<a.length):wr.cell? (zA ga k)=some (Y ((a.getD k 0:Nat):Int)):=by rw[<- qaC];exact h.1.cell (by rw[qaA];exact d)
theorem MuInv.cb(h:MuInv w p m A n c ga gb gc N a b C wr){k:Nat}(d:k<b.length):wr.cell? (zA gb k)=some (Y ((b.getD k 0:Nat):Int)):=by rw[<- qaC];exact h.2.1.cell (by rw[qaA];exact d)
theorem MuInv.cc(h:MuInv w p m A n c ga gb gc N a b C wr){k:Nat}(d:k<C.length):wr.cell? (zA gc k)=some (Y ((C.getD k 0:Nat):Int)):=by rw[<- qaC];exact h.2.2.1.cell (by rw[qaA];exact d)
end
theorem ints_take{w:World}{B:Nat}{A:Option Addr}{C:List Nat}(h:IntsAt w B A (nz C))(m:Nat)(f:m<=C.length):IntsAt w B A (nz (C.take m)):=fun hz=>by
 rw[qaA,List.length_take] at hz
 obtain⟨b,o,e,c,d⟩:=h (by rw[qaA];omega)
 refine⟨b,o,e,c,fun j hj=>?_⟩
 rw[qaA,List.length_take] at hj
 rw[d j (by rw[qaA];omega),qaC,qaC]
 congr 2
 simp only[List.getD]
 rw[List.getElem?_take_of_lt U0]
def RelC1(w:World)(p m:Nat)(A:Option Addr)(n c ga gb gc N:Nat)(a b:List Nat)(v10:Value)(wr:World):Prop:=
 ∃i:Nat,i<=m/\v10=Y (i:Int)/\MuInv w p m A n c ga gb gc N a b (conv p m a b i) wr
def RelC2(w:World)(p m:Nat)(A:Option Addr)(n c ga gb gc N:Nat)(a b:List Nat)(i:Nat)(v11:Value)(wr:World):Prop:=
 ∃j:Nat,j<=m/\v11=Y (j:Int)/\MuInv w p m A n c ga gb gc N a b (convRow p i (a.getD i 0) b (conv p m a b i) j) wr
def RelC3(w:World)(p m:Nat)(A:Option Addr)(n c ga gb gc N:Nat)(a b md C0:List Nat)(v12:Value)(wr:World):Prop:=
 ∃t i:Nat,t<=m-1/\i+t+1=N/\v12=Y (i:Int)/\MuInv w p m A n c ga gb gc N a b (red p m md C0 t) wr
def RelC4(w:World)(p m:Nat)(A:Option Addr)(n c ga gb gc N:Nat)(a b md:List Nat)(i:Nat)(C1:List Nat)(v13:Value)(wr:World):Prop:=
 ∃j:Nat,j<=m/\v13=Y (j:Int)/\MuInv w p m A n c ga gb gc N a b (redRow p m md i C1 j) wr
theorem rmul_c(p m:Nat)(md:List Nat)(A:Option Addr)(n c x y:Nat)(w:World)(hs:Small p m)(cf:md.length=m)(cg:∀ d∈md,d<p)(hM:2<=m->n=m/\IntsAt w w.heap.size A (nz md))(hx:x<p ^ m)(hy:y<p ^ m):
 zC 91 #[Ch p m A n c,Y x,Y y] w fun e w'=>e=.returned (Y ((refMul p m md x y:Nat):Int))/\Below w.heap.size w w':=by
 have HX:=zH (qbK w p m A n c);have aj:Hid (∀W:World,zC 151 #[Ch p m A n c,Y x] W fun e w'=>(∃g,e=.returned (zS g m m)/\Row w' W.heap.size g m (nz (digs p m x)))/\Below W.heap.size W w'):=fun W=>rdig_c p m A n c x W hs hx;have ak:Hid (∀W:World,zC 151 #[Ch p m A n c,Y y] W fun e w'=>(∃g,e=.returned (zS g m m)/\Row w' W.heap.size g m (nz (digs p m y)))/\Below W.heap.size W w'):=fun W=>rdig_c p m A n c y W hs hy;have b9:=hs.p1;have cd:=hs.p2;have b7:=hs.m1;have b8:=hs.m2;have aw:Hid (refMul p m md x y=val p ((red p m md (conv p m (digs p m x) (digs p m y) m) (m-1)).take m)):=rfl;have al:=zH (qaK p m x);have an:=zH (qaK p m y);have S:Hid (∀k,(digs p m x).getD k 0<p):=fun k=>getD_lt U0 (qcB U0 m x) k;have T:Hid (∀k,(digs p m y).getD k 0<p):=fun k=>getD_lt U0 (qcB U0 m y) k;have ao:Hid (∀k,md.getD k 0<p):=fun k=>getD_lt U0 (m:=m) ⟨cf,cg⟩ k;have ai:Hid (∀i,Dig p (2*m-1) (conv p m (digs p m x) (digs p m y) i)):=fun i=>qcO U0 m _ _ i;have X:Hid (∀i j,Dig p (2*m-1) (convRow p i ((digs p m x).getD i 0) (digs p m y) (conv p m (digs p m x) (digs p m y) i) j)):=fun i j=>qdI U0 i _ _ (qcO U0 m _ _ i) j;have J:Hid (∀t,Dig p (2*m-1) (red p m md (conv p m (digs p m x) (digs p m y) m) t)):=fun t=>red_dig U0 m md (qcO U0 m _ _ m) t;have aa:Hid (∀i t j,Dig p (2*m-1) (redRow p m md i (red p m md (conv p m (digs p m x) (digs p m y) m) t) j)):=fun i t j=>qdW U0 m md i (red_dig U0 m md (qcO U0 m _ _ m) t) j;have az:Hid (∀(l:List Nat)(Al:Option Addr)(cl:Nat)(W:World),l.length=m->(∀d∈l,d<p)->IntsAt W W.heap.size Al (nz l)->zC 152 #[Ch p m A n c,zL Al m cl] W fun e w'=>e=.returned (Y ((val p l:Nat):Int))/\Below W.heap.size W w'):=fun l Al cl W h1 h2 h3=>by have:=rval_c p m A n c l Al cl W h3 U0 h2 (by rw[h1];have:=hs.q;omega) U0 U0;rw[h1] at this;exact this
 have ap:Hid (2<=m->n=m/\∀W,Below w.heap.size w W->IntsAt W w.heap.size A (nz md)):=fun h=>⟨(hM h).1,fun W hW=>(hM h).2.keep hW⟩;have aq:=zH cf;clear hs hx hy cg hM cf;obtain⟨N,P⟩:∃N,N=2*m-1:=⟨_,rfl⟩;have hN:(2:Int)*(m:Int)-1=(N:Int):=U0;have bv:(2:Int)*(m:Int)-2=(N:Int)-1:=U0;have bw:2*m=N+1:=U0;have br:N<=15:=U0;rw[<- P] at ai X J aa;have ah:Hid (conv p m (digs p m x) (digs p m y) 0=List.replicate N 0):=by show List.replicate (2*m-1) 0=_;rw[P]
 generalize digs p m x=a at *;generalize digs p m y=b at *;obtain⟨i0,hi,bc,bd,be⟩:=qaF infoInt;have HI:=zH hi;have a2:=zH bc;have a3:=zH bd;have af:=zH (show i0.bytes*N<=281474976710656 by rw[be];omega);have ag:=zH (show N<=maxLen by unfold maxLen;omega);have bt:=zH P;clear hi bc bd be P;go_enter Tryz.func91,Tryz.ntmps91;go_upto_region 1 with fail;have a9:Hid (w.heap.size+1=(w.alloc (Ce p m A n c)).heap.size):=U7;generalize w.alloc (Ce p m A n c)=W0 at *;have s:=zH HX.out.range;go_wp2_with (refine wpList_load_mid rfl 29 (.tmp 3) rfl w.heap.size 0 rfl (Ci p m A n c) _ s.out Tryz.underlying29 rfl fieldSize ?_);(with_reducible refine(aj.out W0).mono ?_);rintro e w1 ⟨⟨ga,rfl,hra⟩,hb1⟩;have ab:=zH (HX.out.grow hb1);have B:Hid (Row w1 (w.heap.size+1) ga m (nz a)):=hra.base (by have:=hra.lt;have:=a9.out;omega);clear hra hb1 HX s;have s:=zH ab.out.range;go_wp2_with (refine wpList_load_mid rfl 29 (.tmp 3) rfl w.heap.size 0 rfl (Ci p m A n c) _ s.out Tryz.underlying29 rfl fieldSize ?_);(with_reducible refine(ak.out w1).mono ?_);rintro e w2 ⟨⟨gb,rfl,hrb⟩,hb2⟩;have O:=zH (ab.out.grow hb2);have D:Hid (Row w2 (w.heap.size+1) gb m (nz b)):=hrb.base (by have:=hrb.lt;have:=B.out.lt;omega);have C:Hid (Row w2 (w.heap.size+1) ga m (nz a)):=B.out.below hb2 B.out.lt.2;have bb:w.heap.size+1<=w2.heap.size:=O.out.2.1;clear hrb hb2 ab s B aj ak;clear w1;have H:=O.out.c1;go_wp2_with (refine wpList_make_full w2 rfl (.tmp 23) (.tmp 23) 23 rfl (w.heap.size+1) 3 i0 (Y 0) 1 Tryz.underlying23 HI.out a2.out a3.out .i64 .i64 N N N rfl rfl rfl rfl af.out ag.out bb ?_;intro w3 V a5);have Q:=qaL a5;have a8:=Row.of_make V;have ax:Hid (RelC1 w p m A n c ga gb w2.heap.size N a b (Y ((0:Nat):Int)) w3):=⟨0,Nat.zero_le _,rfl,C.out.below Q C.out.lt.2,D.out.below Q D.out.lt.2,by rw[ah.out];exact a8,O.out.grow Q,C.out.lt.2,D.out.lt.2⟩;clear V a5 Q a8 O C D H HI a2 a3 af ag ah bb;generalize w2.heap.size=E at *;clear w2;go_wp2_with fail;go_loopw [10] (fun v10 wr=>RelC1 w p m A n c ga gb E N a b v10 wr) (fun v10 _=>m-(intOf v10).toNat);case atStart=>exact ax.out
 case round =>
  obtain⟨i,hi,rfl,f⟩:=hrel;have o:=zH f;have H:=f.2.2.2.1.c1;clear f ax;by_cases bo:i<m
  . have I : Hid (RelC2 w p m A n c ga gb E N a b i (Y ((0 : Nat) : Int)) wr) := ⟨0,Nat.zero_le _,rfl,o.out⟩;go_wp2_with fail;clear H o;go_loopw [11] (fun v11 wr=>RelC2 w p m A n c ga gb E N a b i v11 wr) (fun v11 _=>m-(intOf v11).toNat);case atStart=>exact I.out
    case round =>
     obtain⟨j,hj,rfl,f⟩:=hrel;have o:=zH f;have H:=f.2.2.2.1.c1;clear I;by_cases ad:j<m
     . have r := X.out i j;have y0:=f.2.2.2.1.c0;have ya:=f.ca (k:=i) (by rw [al.out];exact bo);have yb:=f.cb (k:=j) (by rw [an.out];exact ad);have yc:=f.cc (k:=i+j) (by rw [r.1];omega);have fc:=f.2.2.1.frozen (i+j);have bz:a.getD i 0<p:=S.out i;have b2:b.getD j 0<p:=T.out j;have bn:(convRow p i (a.getD i 0) b (conv p m a b i) j).getD (i+j) 0<p:=getD_lt U0 r (i+j);have Z:Hid (convRow p i (a.getD i 0) b (conv p m a b i) (j+1)=(convRow p i (a.getD i 0) b (conv p m a b i) j).set (i+j) (((convRow p i (a.getD i 0) b (conv p m a b i) j).getD (i+j) 0+a.getD i 0*b.getD j 0) % p)):=rfl;have bj:Hid (∀ v wr,(∃ j:Nat,j<=m/\v=Y (j:Int)/\MuInv w p m A n c ga gb E N a b (convRow p i (a.getD i 0) b (conv p m a b i) j) wr)->RelC2 w p m A n c ga gb E N a b i v wr):=fun _ _ h=>h;clear f r;generalize convRow p i (a.getD i 0) b (conv p m a b i) j=cj at *;generalize a.getD i 0=u at *;generalize b.getD j 0=v at *;generalize hz:cj.getD (i+j) 0=z at *;have T1:Hid (Int.tmod ((z+u*v:Nat):Int) (p:Int)=(((z+u*v) % p:Nat):Int)):=qaY _ _;have ae:u*v<=65536:=Nat.le_trans (Nat.mul_le_mul (show u<=256 by omega) (show v<=256 by omega)) U0;(have E1:Hid (IntKind.i64.wrap ((i:Int)+(j:Int))=((i+j:Nat):Int)):=by show _=_;rw [Int.natCast_add];exact IntWalk.i64_in _ U0);(have E2:Hid (IntKind.i64.wrap ((u:Int)*(v:Int))=((u*v:Nat):Int)):=by show _=_;rw [<- Int.natCast_mul];exact IntWalk.i64_in _ U0);(have E3:Hid (IntKind.i64.wrap ((z:Int)+((u*v:Nat):Int))=((z+u*v:Nat):Int)):=by show _=_;rw [Int.natCast_add];exact IntWalk.i64_in _ U0);clear hz;generalize (z+u*v) % p=rr at *;generalize z+u*v=zu at *;generalize u*v=uv at *;have k0:(0:Int)<=((i+j:Nat):Int):=U0;have k1:((i+j:Nat):Int)<(N:Int):=U0;have a0:(0:Int)<=(i:Int):=U0;have a1:(i:Int)<(m:Int):=U0;have b0:(0:Int)<=(j:Int):=U0;have b1:(j:Int)<(m:Int):=U0;have bp:¬ (p:Int)=0:=U0;have a6:¬ p=0:=U0;generalize K:i+j=ij at *;have bh:=zH K;clear K ae;go_upto_region 10 with fail;have e1:=E1.out;have e2:=E2.out;have e3:=E3.out;have t1:=T1.out;refine qaI 24 (SDrew wr) U1 U1 ⟨1,rfl⟩ ?_;simp only [List.take_succ_cons,List.take_zero,List.drop_succ_cons,List.drop_zero]
       repeat (apply qaJ rfl
               . intro W U;obtain⟨n',rfl⟩:=U;go_simp;rfl
               go_simp)
       refine qaE ?_;intro w3 ac;obtain⟨n3,rfl⟩:=ac;clear e1 e2 e3 t1 ya yb y0 H;go_wp2_with fail;go_roundw;case rel=>exact bj.out _ _ ⟨j+1,U0,gn,by rw[Z.out];exact(o.out.drewN n3).set ij rr⟩
       case measure=>exact mE
     . (obtain rfl : j = m:=by omega);clear f;go_wp2_with fail;go_roundw;case rel=>exact⟨i+1,U0,gn,o.out⟩
       case measure=>exact mE
  . (obtain rfl : i = m := by omega);have ay:Hid (RelC3 w p i A n c ga gb E N a b md (conv p i a b i) (Y ((N:Int)-1)) wr):=⟨0,N-1,U0,U0,by rw [show ((N-1:Nat):Int)=(N:Int)-1 by omega],o.out⟩;clear o X ai S T al an;(generalize conv p i a b i=L at *);go_wp2_with fail;clear H;go_loopw [12] (fun v12 wr=>RelC3 w p i A n c ga gb E N a b md L v12 wr) (fun v12 _=>(intOf v12+1).toNat-i);case atStart=>exact ay.out
    case round =>
     obtain⟨t,k,ht,ce,rfl,f⟩:=hrel;have o:=zH f;have H:=f.2.2.2.1.c1;clear f ay;by_cases bs:i<=k
     . obtain ⟨hn,cf⟩ := ap.out U0;subst hn;have ar:=zH cf;clear cf;have I:Hid (RelC4 w p n A n c ga gb E N a b md k (red p n md L t) (Y ((0:Nat):Int)) wr):=⟨0,Nat.zero_le _,rfl,o.out⟩;(have bi:Hid (redRow p n md k (red p n md L t) n=red p n md L (t+1)):=by show _=redRow p n md (2*n-2-t) _ n;rw [show 2*n-2-t=k by omega]);have av:=zH (aa.out k t);go_wp2_with fail;clear H o;generalize red p n md L t=M at *;go_loopw [13] (fun v13 wr=>RelC4 w p n A n c ga gb E N a b md k M v13 wr) (fun v13 _=>n-(intOf v13).toNat);case atStart=>exact I.out
       case round =>
        obtain⟨j,hj,rfl,f⟩:=hrel;have o:=zH f;have H:=f.2.2.2.1.c1;clear I;by_cases ad:j<n
        . have r := av.out j;obtain ⟨q,rfl⟩:∃ q,k=q+n:=⟨k-n,U0⟩;have y0:=f.2.2.2.1.c0;have y2:=f.2.2.2.1.c2;have yc:=f.cc (k:=q+j) (by rw [r.1];omega);have yk:=f.cc (k:=q+n) (by rw [r.1];omega);have fc:=f.2.2.1.frozen (q+j);obtain ⟨bm,om,rfl,bx,ym⟩:=(ar.out wr f.2.2.2.1.1).at_ (k:=j) (by rw [qaA,aq.out];exact ad);rw [qaC] at ym;have b6:md.getD j 0<p:=ao.out j;have bn:(redRow p n md (q+n) M j).getD (q+j) 0<p:=getD_lt U0 r (q+j);have b3:(redRow p n md (q+n) M j).getD (q+n) 0<p:=getD_lt U0 r (q+n);(have Z:Hid (redRow p n md (q+n) M (j+1)=(redRow p n md (q+n) M j).set (q+j) (((redRow p n md (q+n) M j).getD (q+j) 0+(p-(redRow p n md (q+n) M j).getD (q+n) 0)*md.getD j 0) % p)):=by show addAt p _ (q+n-n+j) _=_;rw [Nat.add_sub_cancel];rfl);clear f r;generalize redRow p n md (q+n) M j=cj at *;generalize md.getD j 0=v at *;generalize hz:cj.getD (q+j) 0=z at *;generalize hu:cj.getD (q+n) 0=u at *;have T1:Hid (Int.tmod ((z+(p-u)*v:Nat):Int) (p:Int)=(((z+(p-u)*v) % p:Nat):Int)):=qaY _ _;have bq:p-u<=256:=U0;have ae:(p-u)*v<=65536:=Nat.le_trans (Nat.mul_le_mul bq (show v<=256 by omega)) U0;(have E0:Hid (IntKind.i64.wrap (((q+n:Nat):Int)-(n:Int))=(q:Int)):=by show _=_;rw [show ((q+n:Nat):Int)-(n:Int)=(q:Int) by omega];exact IntWalk.i64_in _ U0);(have E1:Hid (IntKind.i64.wrap ((q:Int)+(j:Int))=((q+j:Nat):Int)):=by show _=_;rw [Int.natCast_add];exact IntWalk.i64_in _ U0);(have E4:Hid (IntKind.i64.wrap ((p:Int)-(u:Int))=((p-u:Nat):Int)):=by show _=_;rw [Int.natCast_sub U0];exact IntWalk.i64_in _ U0);(have E2:Hid (IntKind.i64.wrap (((p-u:Nat):Int)*(v:Int))=(((p-u)*v:Nat):Int)):=by show _=_;rw [<- Int.natCast_mul];exact IntWalk.i64_in _ U0);(have E3:Hid (IntKind.i64.wrap ((z:Int)+(((p-u)*v:Nat):Int))=((z+(p-u)*v:Nat):Int)):=by show _=_;rw [Int.natCast_add];exact IntWalk.i64_in _ U0);clear hz hu;generalize (z+(p-u)*v) % p=rr at *;generalize z+(p-u)*v=zu at *;generalize (p-u)*v=uv at *;generalize p-u=pu at *;have k0:(0:Int)<=((q+j:Nat):Int):=U0;have k1:((q+j:Nat):Int)<(N:Int):=U0;have a0:(0:Int)<=((q+n:Nat):Int):=U0;have a1:((q+n:Nat):Int)<(N:Int):=U0;have b0:(0:Int)<=(j:Int):=U0;have b1:(j:Int)<(n:Int):=U0;have bp:¬ (p:Int)=0:=U0;have a6:¬ p=0:=U0;generalize K:q+j=ij at *;generalize a7:q+n=qn at *;have bh:=zH K;have bu:=zH a7;clear K a7 ae;go_upto_region 17 with fail;have e0:=E0.out;have e1:=E1.out;have e2:=E2.out;have e3:=E3.out;have e4:=E4.out;have t1:=T1.out;refine qaI 34 (SDrew wr) U1 U1 ⟨1,rfl⟩ ?_;simp only [List.take_succ_cons,List.take_zero,List.drop_succ_cons,List.drop_zero]
          repeat (apply qaJ rfl
                  . intro W U;obtain⟨n',rfl⟩:=U;go_simp;rfl
                  go_simp)
          refine qaE ?_;intro w3 ac;obtain⟨n3,rfl⟩:=ac;clear e0 e1 e2 e3 e4 t1 ym yk y0 H y2;go_wp2_with fail;go_roundw;case rel=>exact⟨j+1,U0,gn,by rw[Z.out];exact(o.out.drewN n3).set ij rr⟩
          case measure=>exact mE
        . (obtain rfl : j = n:=by omega);clear f;go_wp2_with fail;go_roundw;case rel=>exact⟨t+1,k-1,U0,U0,by rw[show((k-1:Nat):Int)=(k:Int)-1 by omega],by rw[<- bi.out];exact o.out⟩
          case measure=>exact mE
     . (have ba : t = i - 1 := by omega);(have au:Hid (refMul p i md x y=val p ((red p i md L t).take i)):=by show _=_;rw [aw.out,ba]);have R:=J.out t;(have bg:Hid (∀ W,MuInv w p i A n c ga gb E N a b (red p i md L t) W->zC 152 #[Ch p i A n c,zS E i N] W fun e w'=>e=.returned (Y ((refMul p i md x y:Nat):Int))/\MuInv w p i A n c ga gb E N a b (red p i md L t) w'):=fun W hW=>by have:=az.out ((red p i md L t).take i) (zO E) N W (by rw [List.length_take,R.1];omega) (fun d hd=>R.2 d (List.mem_of_mem_take hd)) (ints_take (hW.2.2.1.ints hW.2.2.1.lt.2) i (by rw [R.1];omega));rw [<- au.out] at this;exact this.mono fun e w' ⟨he,hb⟩=>⟨he,hW.grow hb⟩);clear R az au aw J aa ap ba;generalize red p i md L t=M at *;have m0:(0:Int)<=(i:Int):=U0;have m1:(i:Int)<=(N:Int):=U0;go_upto_region 18 with fail;clear H;refine qaD (MuInv w p i A n c ga gb E N a b M) U1 U1 (o.out.grow (Below.refl _ _).drew) ?_
       repeat (first
        | (refine keep_load_mid rfl 29 (.tmp 3) rfl w.heap.size 0 rfl (Ci p i A n c) _ (fun W hW => hW.2.2.2.1.range) Tryz.underlying29 rfl fieldSize ?_
           go_simp)
        | (apply qaJ rfl
           . intro W U
             have H:=U.2.2.2.1.c1
             go_simp
             rfl
           go_simp)
        | (apply qaO rfl
           . intro W U
             go_simp
             exact⟨rfl,rfl⟩
           . intro W U
             exact bg.out W U
           go_simp))
       refine qaE ?_;intro w5 a4;have bf:=zH a4.2.2.2.1.1;clear a4;go_wp2_with fail;go_ret;exact⟨rfl,bf.out⟩
end Go.Proofs.YtndipkplnkfoeaaGreat
