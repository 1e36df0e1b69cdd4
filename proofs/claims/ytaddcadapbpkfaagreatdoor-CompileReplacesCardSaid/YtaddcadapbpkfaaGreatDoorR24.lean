/-
 lang.write and lang.Check.
-/
import Derived.Lib.FrozenHead2
import Derived.Test.YtaddcadapbpkfaaGreatDoorR23
import Derived.Test.YtaddcadapbpkfaaGreatDoorR03
import Derived.Test.YtaddcadapbpkfaaGreatDoorR01
namespace Go.Proofs.YtaddcadapbpkfaaGreatDoor
open Go.RowKit
def sepL : List (List UInt8) -> List UInt8
 | [] => []
 | x :: r => x ++ (r.map ([44,32] ++ ·)).flatten
theorem sepL_snoc (l : List (List UInt8)) (x : List UInt8) : sepL (l ++ [x]) = sepL l ++ (if l = [] then x else [44,32] ++ x) := by
 cases l with
 | nil => simp [sepL]
 | cons y r => simp [sepL]
mutual
def textE : E -> List UInt8
 | .mk k nm n ls xs => if k = 1 then Lib.itoa n else if k = 2 then [91] ++ sepL (ls.map Lib.itoa) ++ [93] else if k = 4 then nm else if k = 3 then nm ++ [40] ++ sepL (textL xs) ++ [41] else []
def textL : List E -> List (List UInt8)
 | [] => []
 | x :: r => textE x :: textL r
end
theorem textL_map : ∀ l : List E,textL l = l.map textE
 | [] => by simp [textL]
 | x :: r => by unfold textL;rw [textL_map r];rfl
def Wr (p : Nat) (t full : List UInt8) : Prop := t = full \/ (65536 < p + t.length /\ t.length <= full.length)
theorem Wr.le {p : Nat} {t full : List UInt8} (h : Wr p t full) : t.length <= full.length := h.elim (fun e => by rw [e];omega) (fun e => e.2)
theorem Wr.append {p : Nat} {t f t' f' : List UInt8} (h : Wr p t f) (h' : Wr (p + t.length) t' f') : Wr p (t ++ t') (f ++ f') := by
 rcases h with rfl | ⟨h1,h2⟩
 . rcases h' with rfl | ⟨h3,h4⟩
   . exact .inl rfl
   . exact .inr ⟨by simp;omega,by simp;omega⟩
 . have := h'.le
   exact .inr ⟨by simp;omega,by simp;omega⟩
abbrev Bld (B b : Nat) (bs : List UInt8) (w : World) : Prop := Lib.IsBuilderF 81 5 B b (Lib.byteCells bs) w
def Kept (B b : Nat) (w w' : World) : Prop := Below B w w' /\ Lib.OthersKept 5 (some b) w w'
theorem Kept.refl (B b : Nat) (w : World) : Kept B b w w := ⟨Below.refl _ _,Lib.OthersKept.refl _ _ _⟩
theorem Kept.trans {B b : Nat} {w w' w'' : World} (h : Kept B b w w') (k : Kept B b w' w'') : Kept B b w w'' := ⟨h.1.trans k.1,h.2.trans k.2⟩
theorem kept_below {B b : Nat} {w w' : World} (h : Below w.heap.size w w') (hB : B <= w.heap.size) : Kept B b w w' :=
 ⟨h.mono hB,fun k _ hk _ _ => (h.block k (Array.getElem?_eq_some_iff.1 hk).1).trans hk⟩
def WPost (B b : Nat) (bs full : List UInt8) (w : World) (e : Ending) (w' : World) : Prop :=
 e = .returned (.tuple #[]) /\ ∃ t,Wr bs.length t full /\ Bld B b (bs ++ t) w' /\ Kept B b w w'
structure StL (B b bb xb : Nat) (x : E) (cs : List Value) (bs : List UInt8) (w : World) : Prop where
 bld : Bld B b bs w
 siz : B <= w.heap.size
 hbb : w.heap[bb]? = some (.cells #[.pointer (some ⟨b,0,none⟩)] 78 (0,0))
 hxb : w.heap[xb]? = some (.cells cs.toArray 25 (0,0))
 nbb : bb ≠ b
 nxb : xb ≠ b
 exp : ExprC w (· < B) x cs
 pow : Pows w
 gpow : 0 < B
theorem ExprC.kept {w w' : World} {B : Nat} {x : E} {cs : List Value} (h : ExprC w (· < B) x cs) (hb : Below B w w') : ExprC w' (· < B) x cs := ExprC.mono (fun b hF _ => ⟨hF,hb.block b hF⟩) x cs h
theorem StL.step {B b bb xb : Nat} {x : E} {cs : List Value} {bs bs' : List UInt8} {w w' : World} (h : StL B b bb xb x cs bs w) (hk : Kept B b w w') (hb : Bld B b bs' w') : StL B b bb xb x cs bs' w' :=
 ⟨hb,Nat.le_trans h.siz hk.1.size,hk.2 bb _ h.hbb (by simp [h.nbb]) (by simp),hk.2 xb _ h.hxb (by simp [h.nxb]) (by simp),h.nbb,h.nxb,h.exp.kept hk.1,h.pow.keep h.gpow hk.1,h.gpow⟩
theorem qdU {B b : Nat} {bs : List UInt8} {w : World} (l : List UInt8) (h : Bld B b bs w) (hBw : B <= w.heap.size) (hlen : bs.length + l.length <= 140737488355328) :
 Calls Tryz.prog 74 #[.pointer (some ⟨b,0,none⟩),.string ⟨l.toArray⟩] w fun e w' => e = .returned (.tuple #[.int .i64 l.length,.nilIface]) /\ Bld B b (bs ++ l) w' /\ Kept B b w w' := by
 refine (writeString_any B b _ ⟨l.toArray⟩ w h (by simp [Lib.byteCells,ByteArray.size];omega) hBw).mono ?_
 rintro e w' ⟨rfl,hb,hbel,hoth⟩
 refine ⟨by simp [ByteArray.size],.inr ?_,hbel,hoth⟩
 rw [Lib.byteCells_append]
 exact hb
set_option maxHeartbeats 2000000 in
set_option maxRecDepth 100000 in
theorem writeByte_any (B b : Nat) (bs : List Value) (c : Int) (w : World) (h : Lib.IsBuilderF 81 5 B b bs w) (hlen : bs.length + 1 <= 140737488355328) (hBw : B <= w.heap.size) :
 Calls Tryz.prog 76 #[.pointer (some ⟨b,0,none⟩),.int .u8 c] w fun e w' => e = .returned .nilIface /\ (Lib.BuilderAtF 81 5 B b (.pointer (some ⟨b,0,none⟩)) (bs ++ [.int .u8 c]) w' /\ Below B w w' /\ Lib.OthersKept 5 (some b) w w') := by
 obtain ⟨i0,hi,hz0,hz1,hz2⟩ := info_parts infoByte
 go_enter Tryz.func76,Tryz.ntmps76
 go_wp2_with (go_at_call 177;refine (copyCheck_any B b bs _ h).mono ?_)
 rintro e w1 ⟨rfl,h1,hb1,hk1⟩
 obtain ⟨hB,v,hbk,hown,hne⟩ := h1
 have c0 : w1.cell? ⟨b,0,none⟩ = some (.pointer (some ⟨b,0,none⟩)) := by rw [Lib.cell_of_heap hbk];rfl
 have c1 : w1.cell? ⟨b,1,none⟩ = some v := by rw [Lib.cell_of_heap hbk];rfl
 go_wp2_with (at_builtin;refine wpList_append_ownF _ rfl _ _ 79 rfl B 5 i0 (.int .u8 0) 1 1 Tryz.underlying79 hi hz0 hz1 hz2 rfl (by decide) _ _ _ rfl (hown.alloc _) ⟨w1.heap.size,0,none⟩ 1 1 [.int .u8 c] rfl rfl ?c1 ?c2 ?c3 ?c4 ?c5 ?_)
 case c1 =>
  intro j u hj
  match j,hj with
  | 0,hj => simp at hj;subst hj;simp [Addr.add]
 case c2 => intro u hu;simp at hu;subst hu;rfl
 case c3 => unfold maxLen;omega
 case c4 => omega
 case c5 => have := hb1.size;simp;omega
 intro v' w2 hown' hgrow _
 have hlt : b < w1.heap.size := by
  rcases Nat.lt_or_ge b w1.heap.size with h' | h'
  . exact h'
  . simp [Array.getElem?_eq_none h'] at hbk
 have hb2 : w2.heap[b]? = some (.cells #[.pointer (some ⟨b,0,none⟩),v] 81 (0,0)) := by
  rw [hgrow.block b (by simp;omega) (fun e => hne e.symm),Lib.alloc_old w1 _ b hlt]
  exact hbk
 have d0 : w2.cell? ⟨b,0,none⟩ = some (.pointer (some ⟨b,0,none⟩)) := by rw [Lib.cell_of_heap hb2];rfl
 have d1 : w2.cell? ⟨b,1,none⟩ = some v := by rw [Lib.cell_of_heap hb2];rfl
 have f1 : w2.frozen? ⟨b,1,none⟩ = false := Lib.frozen_of_heap hb2 1
 obtain ⟨g,cap,rfl⟩ : ∃ g cap,v' = .slice (some ⟨g,0,none⟩) (bs.length + 1) cap := by
  rcases hown'.2 with ⟨_,h0⟩ | ⟨g,cap,cur,fz,hv,_⟩
  . omega
  . exact ⟨g,cap,hv⟩
 go_wp2
 go_ret
 refine ⟨rfl,?_,?_,((hk1.alloc _).grown hgrow (Lib.ownsRowF_kind (hown.alloc _))).setCell ⟨b,1,none⟩ rfl _⟩
 . exact Lib.BuilderAtF.put (T := 81) (e := 5) hB hb2 (bs' := bs ++ [.int .u8 c]) (by simpa using hown') (by decide)
 . exact ((hb1.alloc (by have := hb1.size;omega) _).grown hgrow (by have := hb1.size;simp;omega) (fun k hk => (hown.lt k hk).1)).setCell (p := ⟨b,1,none⟩) hB _
theorem qeD {B b : Nat} {bs : List UInt8} {w : World} (c : UInt8) (h : Bld B b bs w) (hBw : B <= w.heap.size) (hlen : bs.length + 1 <= 140737488355328) :
 Calls Tryz.prog 76 #[.pointer (some ⟨b,0,none⟩),.int .u8 c.toNat] w fun e w' => e = .returned .nilIface /\ Bld B b (bs ++ [c]) w' /\ Kept B b w w' := by
 refine (writeByte_any B b _ c.toNat w h (by rw [Lib.byteCells_length];exact hlen) hBw).mono ?_
 rintro e w' ⟨rfl,hb,hbel,hoth⟩
 refine ⟨rfl,.inr ?_,hbel,hoth⟩
 rw [Lib.byteCells_append]
 exact hb
theorem all_lit {ls : List Int} (h : ls.all litB = true) (i : Nat) (hi : i < ls.length) : 0 <= ls[i] /\ ls[i] <= 9999999 := by
 have := List.all_eq_true.1 h _ (List.getElem_mem hi)
 simpa [litB] using this
def SW2 (B b bb xb : Nat) (x : E) (cs : List Value) (bs : List UInt8) (w w' : World) : Prop := StL B b bb xb x cs bs w' /\ Kept B b w w'
theorem SW2.grow {B b bb xb : Nat} {x : E} {cs : List Value} {bs : List UInt8} {w w' w'' : World} (h : SW2 B b bb xb x cs bs w w') (hb : Below w'.heap.size w' w'') : SW2 B b bb xb x cs bs w w'' := by
 have hk : Kept B b w' w'' := kept_below hb h.1.siz
 exact ⟨h.1.step hk (qfB h.1.bld hb),h.2.trans hk⟩
set_option maxHeartbeats 4000000 in
set_option maxRecDepth 100000 in
theorem w2_c {B b bb xb : Nat} {k : Int} {nm : List UInt8} {n : Int} {ls : List Int} {xs : List E} {cs : List Value} {bs : List UInt8} {w : World} (h : StL B b bb xb (.mk k nm n ls xs) cs bs w) (hl : ls.all litB = true) (hn : ls.length <= 1000000000)
 (i : Nat) (hi : i < ls.length) (hlen : bs.length + (Lib.itoa ls[i]).length <= 140737488355328) :
 Calls Tryz.prog 77 #[.int .i64 i,.pointer (some ⟨bb,0,none⟩),.pointer (some ⟨xb,0,none⟩)] w (WPost B b bs (Lib.itoa ls[i]) w) := by
 have hx := h.exp
 unfold ExprC at hx
 obtain ⟨la,lc,aa,ac,rfl,hli,_⟩ := hx
 obtain ⟨lb,lo,rfl,hlB,hlc⟩ := hli (by omega)
 have HLC := Lib.hid hlc
 obtain ⟨hv0,hv1⟩ := all_lit hl i hi
 have hgd : ls.getD i 0 = ls[i] := by rw [List.getD_eq_getElem?_getD,List.getElem?_eq_getElem hi];rfl
 have HGD := Lib.hid hgd
 have hi0 : (0 : Int) <= (i : Int) := by omega
 have hi1 : (i : Int) < (ls.length : Int) := by omega
 clear hgd hlc hli hl
 generalize hz : ls[i] = z at *
 have HS0 : Hid (SW2 B b bb xb (.mk k nm n ls xs) [.int .i64 k,.string ⟨nm.toArray⟩,.int .i64 n,.slice (some ⟨lb,lo,none⟩) ls.length lc,.slice aa xs.length ac] bs w w) := ⟨h,Kept.refl _ _ _⟩
 have HI : Hid (∀ w',SW2 B b bb xb (.mk k nm n ls xs) [.int .i64 k,.string ⟨nm.toArray⟩,.int .i64 n,.slice (some ⟨lb,lo,none⟩) ls.length lc,.slice aa xs.length ac] bs w w' -> w'.cell? ⟨bb,0,none⟩ = some (.pointer (some ⟨b,0,none⟩)) /\ w'.cell? ⟨xb,3,none⟩ = some (.slice (some ⟨lb,lo,none⟩) ls.length lc) /\ w'.cell? ⟨lb,lo + i,none⟩ = some (.int .i64 z)) := by
  intro w' hS
  refine ⟨cell_of_row _ _ 0 _ _ _ hS.1.hbb,cell_of_row _ _ 3 _ _ _ hS.1.hxb,?_⟩
  rw [hS.2.1.cell (p := ⟨lb,lo + i,none⟩) hlB,HLC.out i hi,HGD.out]
 clear HLC HGD h
 go_enter Tryz.func77,Tryz.ntmps77
 go_upto_region 0 with fail
 refine qaS 7 (SW2 B b bb xb (.mk k nm n ls xs) [.int .i64 k,.string ⟨nm.toArray⟩,.int .i64 n,.slice (some ⟨lb,lo,none⟩) ls.length lc,.slice aa xs.length ac] bs w) (by kernel_rfl) (by kernel_rfl) (HS0.out.grow (Below.refl _ _).drew) ?_
 simp only [List.take_succ_cons,List.take_zero,List.drop_succ_cons,List.drop_zero]
 repeat (first
  | (apply qbK rfl
     . intro W hS
       obtain ⟨e0,e1,e2⟩ := HI.out W hS
       go_simp
       try rfl
     go_simp)
  | (apply qcE rfl
     . intro W hS
       go_simp
       exact ⟨rfl,rfl⟩
     . intro W hS
       exact (itoa_c _ W (by omega) (by omega) hS.1.pow).mono (by rintro e w' ⟨rfl,hbw⟩;exact ⟨rfl,hS.grow hbw⟩)
     go_simp))
 refine qbD ?_
 intro w2 hS2
 go_wp2_with (go_at_call 74;refine (qdU (Lib.itoa z) hS2.1.bld hS2.1.siz hlen).mono ?_)
 rintro e w3 ⟨rfl,hb3,hk3⟩
 go_wp2_with fail
 go_end0
 exact ⟨rfl,_,.inl rfl,hb3,hS2.2.trans hk3⟩
section
variable {P : Program} {ops : Array Oper} {S : World -> Prop}
theorem qdM {Q : Act -> Prop} {a : Act} {op : Oper} {rest : List Oper} (hg : op.guard = none) (ty : TypeId) (x : Operand) (ho : op.op = .load ty x)
 (b o : Nat) (hx : a.eval x = .pointer (some ⟨b,o,none⟩)) (cs : List Value) (d : TypeDesc) (hS : ∀ w,S w -> w.rangeAt b o cs)
 (hu : P.underlying ty = some d) (hd : d.isRow = true) (hi : (P.info? ty).map (·.size) = some cs.length)
 (h : wpKeep P ops S Q rest (a.put op.dst (.agg cs.toArray))) : wpKeep P ops S Q (op :: rest) a :=
 qbK hg (fun w hw => by
  unfold execOp
  simp only [ho,hx,Instr.loadAt,Instr.sureAddr,Sem.run_bind,Sem.run_pure,Result.andThen_ok,run_loadVar_mid w b o ty cs d (hS w hw) hu hd hi]) h
end
theorem qeM {w w' : World} {B b o : Nat} {cs : List Value} (h : w.rangeAt b o cs) (hb : Below B w w') (hlt : b < B) : w'.rangeAt b o cs :=
 fun j v hv => (hb.cell (p := ⟨b,o + j,none⟩) hlt).trans (h j v hv)
set_option maxHeartbeats 4000000 in
set_option maxRecDepth 100000 in
theorem w3_c {B b bb xb : Nat} {k : Int} {nm : List UInt8} {n : Int} {ls : List Int} {xs : List E} {cs : List Value} {bs : List UInt8} {w : World} (h : StL B b bb xb (.mk k nm n ls xs) cs bs w) (hn : xs.length <= 1000000000)
 (i : Nat) (hi : i < xs.length)
 (hC : ∀ cs' w',StL B b bb xb (.mk k nm n ls xs) cs bs w' -> ExprC w' (· < B) xs[i] cs' -> Calls Tryz.prog 40 #[.pointer (some ⟨b,0,none⟩),.agg cs'.toArray] w' (WPost B b bs (textE xs[i]) w')) :
 Calls Tryz.prog 78 #[.int .i64 i,.pointer (some ⟨bb,0,none⟩),.pointer (some ⟨xb,0,none⟩)] w (WPost B b bs (textE xs[i]) w) := by
 have hx := h.exp
 unfold ExprC at hx
 obtain ⟨la,lc,aa,ac,rfl,_,ha⟩ := hx
 obtain ⟨ab,ao,rfl,haB,hax⟩ := ha (by omega)
 obtain ⟨cs',hr,hec⟩ := ExprsC.at_ xs ao i xs[i] hax (List.getElem?_eq_getElem hi)
 obtain ⟨k',nm',n',la',ll',lc',ab',al',ac',rfl⟩ := hec.shape
 have hi0 : (0 : Int) <= (i : Int) := by omega
 have hi1 : (i : Int) < (xs.length : Int) := by omega
 have HEC := Lib.hid hec
 have HC := Lib.hid hC
 clear hC hec ha hax
 generalize xs[i] = X at *
 have HS0 : Hid (SW2 B b bb xb (.mk k nm n ls xs) [.int .i64 k,.string ⟨nm.toArray⟩,.int .i64 n,.slice la ls.length lc,.slice (some ⟨ab,ao,none⟩) xs.length ac] bs w w) := ⟨h,Kept.refl _ _ _⟩
 have HI : Hid (∀ w',SW2 B b bb xb (.mk k nm n ls xs) [.int .i64 k,.string ⟨nm.toArray⟩,.int .i64 n,.slice la ls.length lc,.slice (some ⟨ab,ao,none⟩) xs.length ac] bs w w' -> w'.cell? ⟨bb,0,none⟩ = some (.pointer (some ⟨b,0,none⟩)) /\ w'.cell? ⟨xb,4,none⟩ = some (.slice (some ⟨ab,ao,none⟩) xs.length ac)) := by
  intro w' hS
  exact ⟨cell_of_row _ _ 0 _ _ _ hS.1.hbb,cell_of_row _ _ 4 _ _ _ hS.1.hxb⟩
 have HR := Lib.hid hr
 clear h hr
 go_enter Tryz.func78,Tryz.ntmps78
 go_upto_region 0 with fail
 refine qaS 6 (SW2 B b bb xb (.mk k nm n ls xs) [.int .i64 k,.string ⟨nm.toArray⟩,.int .i64 n,.slice la ls.length lc,.slice (some ⟨ab,ao,none⟩) xs.length ac] bs w) (by kernel_rfl) (by kernel_rfl) (HS0.out.grow (Below.refl _ _).drew) ?_
 simp only [List.take_succ_cons,List.take_zero,List.drop_succ_cons,List.drop_zero]
 repeat (first
  | (refine qdM rfl 25 (.tmp 8) rfl ab (ao + i * 5) rfl [.int .i64 k',.string nm',.int .i64 n',.slice la' ll' lc',.slice ab' al' ac'] _ (fun w' hS => qeM HR.out hS.2.1 haB) Tryz.underlying25 rfl exprSize ?_
     go_simp)
  | (apply qbK rfl
     . intro W hS
       obtain ⟨e0,e1⟩ := HI.out W hS
       go_simp
       try rfl
     go_simp))
 refine qbD ?_
 intro w2 hS2
 go_wp2_with (go_at_call 40;refine (HC.out _ w2 hS2.1 (HEC.out.kept hS2.2.1)).mono ?_)
 rintro e w3 ⟨rfl,t,ht,hb3,hk3⟩
 go_wp2_with fail
 go_end0
 exact ⟨rfl,t,ht,hb3,hS2.2.trans hk3⟩
def RelJ (B b bb xb : Nat) (x : E) (cs : List Value) (bs : List UInt8) (w : World) (texts : List (List UInt8)) (v : Value) (g : Nat) (wr : World) : Prop :=
 ∃ i t,i + g = texts.length /\ v = .int .i64 i /\ Wr bs.length t (sepL (texts.take i)) /\ StL B b bb xb x cs (bs ++ t) wr /\ Kept B b w wr
theorem qcT (l : List (List UInt8)) (i : Nat) : (sepL (l.take i)).length <= (sepL l).length := by
 cases l with
 | nil => simp
 | cons x r =>
   cases i with
   | zero => simp [sepL]
   | succ i =>
     rw [List.take_succ_cons]
     unfold sepL
     have h2 : ((r.take i).map ([44,32] ++ ·)).flatten.length <= (r.map ([44,32] ++ ·)).flatten.length := by
      have h3 : (r.map ([44,32] ++ ·)).flatten = ((r.take i).map ([44,32] ++ ·)).flatten ++ ((r.drop i).map ([44,32] ++ ·)).flatten := by
       rw [<- List.flatten_append,<- List.map_append,List.take_append_drop]
      rw [h3,List.length_append]
      omega
     rw [List.length_append,List.length_append]
     omega
set_option maxHeartbeats 4000000 in
set_option maxRecDepth 100000 in
theorem join_c {B b bb xb : Nat} {x : E} {cs : List Value} {bs : List UInt8} {w : World} (f : FuncId) (texts : List (List UInt8)) (h : StL B b bb xb x cs bs w) (hn : texts.length <= 1000000000) (hlen : bs.length + (sepL texts).length <= 140737488355328)
 (hf : ∀ args w,(callFunc f args).run Tryz.prog w = .ok (.enter f args) w)
 (hC : ∀ (i : Nat) (hi : i < texts.length) (bs' : List UInt8) (w' : World),StL B b bb xb x cs bs' w' -> bs'.length + texts[i].length <= 140737488355328 -> Calls Tryz.prog f #[.int .i64 i,.pointer (some ⟨bb,0,none⟩),.pointer (some ⟨xb,0,none⟩)] w' (WPost B b bs' texts[i] w')) :
 Calls Tryz.prog 73 #[.int .i64 texts.length,.func (.func f) #[] #[.pointer (some ⟨bb,0,none⟩),.pointer (some ⟨xb,0,none⟩)],.pointer (some ⟨bb,0,none⟩)] w (WPost B b bs (sepL texts) w) := by
 have HC := Lib.hid hC
 have HS := Lib.hid h
 clear hC h
 go_enter Tryz.func73,Tryz.ntmps73
 go_wp2_with fail
 go_loopg [7] texts.length (fun g v wr => RelJ B b bb xb x cs bs w texts v g wr)
 case atStart => exact ⟨0,[],by omega,rfl,.inl (by simp [sepL]),by rw [List.append_nil];exact HS.out,Kept.refl _ _ _⟩
 case round =>
  obtain ⟨i,t,hig,rfl,hwr,hst,hk⟩ := hrel
  have HST := Lib.hid hst
  have HK := Lib.hid hk
  have HW := Lib.hid hwr
  clear hst hk hwr HS
  by_cases hi : i < texts.length
  . have htk : texts.take (i + 1) = texts.take i ++ [texts[i]] := qaV (List.getElem?_eq_getElem hi)
    have hl1 := qcT texts (i + 1)
    have hl2 := HW.out.le
    have hsn := sepL_snoc (texts.take i) texts[i]
    rw [<- htk] at hsn
    have hC1 := HC.out i hi
    clear HC htk
    have hi0 : (0 : Int) <= (i : Int) := by omega
    have hi1 : (i : Int) < (texts.length : Int) := by omega
    by_cases hz : i = 0
    . subst hz
      rw [if_pos (by simp)] at hsn
      have hl3 := congrArg List.length hsn
      rw [List.length_append] at hl3
      have HSN := Lib.hid hsn
      have HCC := Lib.hid (hC1 (bs ++ t) wr HST.out (by rw [List.length_append];omega))
      clear hsn hC1
      generalize texts[0] = tx at *
      go_wp2_with (go_at_fn f;refine HCC.out.mono ?_)
      rintro e w5 ⟨rfl,t5,h5,hb5,hk5⟩
      go_wp2_with fail
      go_roundg (texts.length - (0 + 1))
      case measure => omega
      case rel => exact ⟨0 + 1,t ++ t5,by omega,by simp,by rw [HSN.out];rw [List.length_append] at h5;exact HW.out.append h5,by rw [<- List.append_assoc];exact HST.out.step hk5 hb5,HK.out.trans hk5⟩
    . have hne : ¬ texts.take i = [] := by
       intro h
       rcases List.take_eq_nil_iff.1 h with h | h
       . exact hz h
       . rw [h] at hi
         simp at hi
      rw [if_neg hne] at hsn
      clear hne
      have hl3 := congrArg List.length hsn
      rw [List.length_append,List.length_append] at hl3
      simp only [List.length_cons,List.length_nil] at hl3
      have HSN := Lib.hid hsn
      have hbc : wr.cell? ⟨bb,0,none⟩ = some (.pointer (some ⟨b,0,none⟩)) := cell_of_row _ _ 0 _ _ _ HST.out.hbb
      have HCC := Lib.hid hC1
      clear hsn hC1
      generalize texts[i] = tx at *
      have HWS := Lib.hid (qdU [44,32] HST.out.bld HST.out.siz (by rw [List.length_append];simp;omega))
      go_wp2_with (go_at_call 74;refine HWS.out.mono ?_)
      rintro e w4 ⟨rfl,hb4,hk4⟩
      have hst4 := HST.out.step hk4 hb4
      have hcc := HCC.out _ w4 hst4 (by simp;omega)
      have HC4 := Lib.hid hcc
      have HS4 := Lib.hid hst4
      have HK4 := Lib.hid hk4
      clear hb4 hk4 hst4 hcc HCC HST hbc
      go_wp2_with (go_at_fn f;refine HC4.out.mono ?_)
      rintro e w5 ⟨rfl,t5,h5,hb5,hk5⟩
      go_wp2_with fail
      go_roundg (texts.length - (i + 1))
      case measure => omega
      case rel =>
       refine ⟨i + 1,t ++ ([44,32] ++ t5),by omega,by simp,?_,?_,(HK.out.trans HK4.out).trans hk5⟩
       . rw [HSN.out]
         refine HW.out.append (Wr.append (.inl rfl) ?_)
         simpa [Nat.add_assoc] using h5
       . have := HS4.out.step hk5 hb5
         simpa [List.append_assoc] using this
  . go_wp2_with fail
    go_end0
    refine ⟨rfl,t,?_,HST.out.bld,HK.out⟩
    have := HW.out
    rwa [List.take_of_length_le (by omega)] at this
theorem formE_mk {k : Int} {nm : List UInt8} {n : Int} {ls : List Int} {xs : List E} (h : formE (.mk k nm n ls xs) = true) : nodeB (.mk k nm n ls xs) = true /\ formL xs = true := by
 unfold formE at h
 simpa using h
theorem formL_all : ∀ {l : List E},formL l = true -> ∀ x ∈ l,formE x = true
 | [],_,x,hx => by simp at hx
 | y :: r,h,x,hx => by
   unfold formL at h
   simp only [Bool.and_eq_true] at h
   rcases List.mem_cons.1 hx with rfl | hx
   . exact h.1
   . exact formL_all h.2 x hx
theorem nodeB_kind {k : Int} {nm : List UInt8} {n : Int} {ls : List Int} {xs : List E} (h : nodeB (.mk k nm n ls xs) = true) : k = 1 \/ k = 2 \/ k = 3 \/ k = 4 := by
 by_cases h1 : k = 1
 . exact .inl h1
 . by_cases h2 : k = 2
   . exact .inr (.inl h2)
   . by_cases h3 : k = 3
     . exact .inr (.inr (.inl h3))
     . by_cases h4 : k = 4
       . exact .inr (.inr (.inr h4))
       . simp [nodeB,h1,h2,h3,h4] at h
theorem nodeB_lits {k : Int} {nm : List UInt8} {n : Int} {ls : List Int} {xs : List E} (h : nodeB (.mk k nm n ls xs) = true) : ls.all litB = true := by
 unfold nodeB at h
 simp only [Bool.and_eq_true] at h
 exact h.1
theorem nodeB_n {k : Int} {nm : List UInt8} {n : Int} {ls : List Int} {xs : List E} (h : nodeB (.mk k nm n ls xs) = true) (hk : k = 1) : 0 <= n /\ n <= 9999999 := by
 unfold nodeB at h
 simp only [Bool.and_eq_true,hk,if_true] at h
 have := h.2.1.1.1
 simpa [litB] using this
theorem st_start {B b : Nat} {bs : List UInt8} {w : World} {k : Int} {nm : List UInt8} {n : Int} {ls : List Int} {xs : List E} {cs : List Value} (hx : ExprC w (· < B) (.mk k nm n ls xs) cs) (hbd : Bld B b bs w) (hB : B <= w.heap.size) (ht : Pows w) (hg : 0 < B) :
 StL B b w.heap.size (w.heap.size + 1) (.mk k nm n ls xs) cs bs ((w.alloc (.cells #[.pointer (some ⟨b,0,none⟩)] 78)).alloc (.cells cs.toArray 25)) /\ Kept B b w ((w.alloc (.cells #[.pointer (some ⟨b,0,none⟩)] 78)).alloc (.cells cs.toArray 25)) := by
 have hb := isBuilder_lt hbd
 have h1 : Below w.heap.size w ((w.alloc (.cells #[.pointer (some ⟨b,0,none⟩)] 78)).alloc (.cells cs.toArray 25)) := ((Below.refl _ _).alloc (Nat.le_refl _) _).alloc (by simp) _
 have hk := kept_below (b := b) h1 hB
 have s1 : (w.alloc (.cells #[.pointer (some ⟨b,0,none⟩)] 78)).heap.size = w.heap.size + 1 := World.size_alloc _ _
 refine ⟨⟨qfB hbd h1,Nat.le_trans hB h1.size,?_,?_,by omega,by omega,hx.kept hk.1,ht.keep hg hk.1,hg⟩,hk⟩
 . rw [Lib.alloc_old _ _ _ (by rw [s1];omega)]
   exact heap_alloc_new _ _
 . rw [<- s1]
   exact heap_alloc_new _ _
set_option maxHeartbeats 4000000 in
set_option maxRecDepth 100000 in
theorem write_c : ∀ (x : E) (cs : List Value) (B b : Nat) (bs : List UInt8) (w : World),ExprC w (· < B) x cs -> formE x = true -> sizeE x <= 1000000000 -> entE x <= 1000000000 -> Bld B b bs w -> B <= w.heap.size -> Pows w -> 0 < B -> bs.length + (textE x).length <= 140737488355328 ->
 Calls Tryz.prog 40 #[.pointer (some ⟨b,0,none⟩),.agg cs.toArray] w (WPost B b bs (textE x) w) := by
 refine qaT ?_
 intro k nm n ls xs ih cs B b bs w hx hf hs he hbd hB ht hg hlen
 obtain ⟨hst,hk⟩ := st_start hx hbd hB ht hg
 have HST := Lib.hid hst
 have HK := Lib.hid hk
 obtain ⟨hnb,hfl⟩ := formE_mk hf
 have hs' : 1 + sizeL xs <= 1000000000 := by unfold sizeE at hs;exact hs
 have he' : ls.length + entL xs <= 1000000000 := by unfold entE at he;exact he
 have hxl : xs.length <= 1000000000 := by have := qbS xs;omega
 have hll : ls.length <= 1000000000 := by omega
 unfold ExprC at hx
 obtain ⟨la,lc,aa,ac,rfl,_,_⟩ := hx
 have HIH : Hid (∀ (i : Nat) (h : i < xs.length) (cs' : List Value) (bs' : List UInt8) (w' : World),StL B b w.heap.size (w.heap.size + 1) (.mk k nm n ls xs) [.int .i64 k,.string ⟨nm.toArray⟩,.int .i64 n,.slice la ls.length lc,.slice aa xs.length ac] bs' w' -> bs'.length + (textE xs[i]).length <= 140737488355328 -> ExprC w' (· < B) xs[i] cs' -> Calls Tryz.prog 40 #[.pointer (some ⟨b,0,none⟩),.agg cs'.toArray] w' (WPost B b bs' (textE xs[i]) w')) := by
  intro i h cs' bs' w' hst' hl' hec'
  exact ih _ (List.getElem_mem h) cs' B b bs' w' hec' (formL_all hfl _ (List.getElem_mem h)) (by have := qbW xs _ (List.getElem_mem h);omega) (by have := qdJ xs _ (List.getElem_mem h);omega) hst'.bld hst'.siz hst'.pow hst'.gpow hl'
 have HTX : Hid (textE (.mk k nm n ls xs) = if k = 1 then Lib.itoa n else if k = 2 then [91] ++ sepL (ls.map Lib.itoa) ++ [93] else if k = 4 then nm else if k = 3 then nm ++ [40] ++ sepL (textL xs) ++ [41] else []) := by show _ = _;conv => lhs;unfold textE
 have HLIT := Lib.hid (nodeB_lits hnb)
 have HN := Lib.hid (nodeB_n hnb)
 have hbl := isBuilder_lt hbd
 have c0 : ((w.alloc (.cells #[.pointer (some ⟨b,0,none⟩)] 78)).alloc (.cells #[.int .i64 k,.string ⟨nm.toArray⟩,.int .i64 n,.slice la ls.length lc,.slice aa xs.length ac] 25)).cell? ⟨w.heap.size,0,none⟩ = some (.pointer (some ⟨b,0,none⟩)) := cell_of_row _ _ 0 _ _ _ hst.hbb
 have d0 : ((w.alloc (.cells #[.pointer (some ⟨b,0,none⟩)] 78)).alloc (.cells #[.int .i64 k,.string ⟨nm.toArray⟩,.int .i64 n,.slice la ls.length lc,.slice aa xs.length ac] 25)).cell? ⟨w.heap.size + 1,0,none⟩ = some (.int .i64 k) := cell_of_row _ _ 0 _ _ _ hst.hxb
 have hlenB : bs.length <= 140737488355328 := by omega
 have HLEN := Lib.hid hlen
 have HLEN2 := Lib.hid (Tryz.Builder_Len_f B b _ _ hst.bld)
 have kc := nodeB_kind hnb
 clear ih hf hs he hst hk hnb hfl hs' he' hbd hlen
 go_enter Tryz.func40,Tryz.ntmps40
 go_wp2_with fail
 refine HLEN2.out.mono ?_
 rintro e w1 ⟨rfl,rfl⟩
 rw [Lib.byteCells_length]
 clear HLEN2
 generalize (w.alloc (.cells #[.pointer (some ⟨b,0,none⟩)] 78)).alloc (.cells #[.int .i64 k,.string ⟨nm.toArray⟩,.int .i64 n,.slice la ls.length lc,.slice aa xs.length ac] 25) = W at *
 generalize hbb : w.heap.size = bb at *
 generalize hxb : bb + 1 = xb at *
 clear hbb hxb
 by_cases hov : 65536 < bs.length
 . go_wp2_with fail
   go_end0
   exact ⟨rfl,[],.inr ⟨by simpa using hov,by simp⟩,by rw [List.append_nil];exact HST.out.bld,HK.out⟩
 . rcases kc with rfl | rfl | rfl | rfl
   . have HT1 : Hid (textE (.mk 1 nm n ls xs) = Lib.itoa n) := by show _ = _;rw [HTX.out];rfl
     obtain ⟨hn0,hn1⟩ := HN.out rfl
     rw [HT1.out] at HLEN
     have hl := HLEN.out
     have HI : Hid (∀ w',SW2 B b bb xb (.mk 1 nm n ls xs) [.int .i64 1,.string ⟨nm.toArray⟩,.int .i64 n,.slice la ls.length lc,.slice aa xs.length ac] bs w w' -> w'.cell? ⟨bb,0,none⟩ = some (.pointer (some ⟨b,0,none⟩)) /\ w'.cell? ⟨xb,2,none⟩ = some (.int .i64 n)) := by
      intro w' hS
      exact ⟨cell_of_row _ _ 0 _ _ _ hS.1.hbb,cell_of_row _ _ 2 _ _ _ hS.1.hxb⟩
     have HS0 : Hid (SW2 B b bb xb (.mk 1 nm n ls xs) [.int .i64 1,.string ⟨nm.toArray⟩,.int .i64 n,.slice la ls.length lc,.slice aa xs.length ac] bs w W) := ⟨HST.out,HK.out⟩
     clear HIH HLIT HN HTX HLEN HST HK
     go_upto_region 5 with fail
     refine qaS 4 (SW2 B b bb xb (.mk 1 nm n ls xs) [.int .i64 1,.string ⟨nm.toArray⟩,.int .i64 n,.slice la ls.length lc,.slice aa xs.length ac] bs w) (by kernel_rfl) (by kernel_rfl) (HS0.out.grow (Below.refl _ _).drew) ?_
     simp only [List.take_succ_cons,List.take_zero,List.drop_succ_cons,List.drop_zero]
     repeat (first
      | (apply qbK rfl
         . intro W hS
           obtain ⟨e0,e1⟩ := HI.out W hS
           go_simp
           try rfl
         go_simp)
      | (apply qcE rfl
         . intro W hS
           go_simp
           exact ⟨rfl,rfl⟩
         . intro W hS
           exact (itoa_c _ W (by omega) (by omega) hS.1.pow).mono (by rintro e w' ⟨rfl,hbw⟩;exact ⟨rfl,hS.grow hbw⟩)
         go_simp))
     refine qbD ?_
     intro w2 hS2
     go_wp2_with (go_at_call 74;refine (qdU (Lib.itoa n) hS2.1.bld hS2.1.siz hl).mono ?_)
     rintro e w3 ⟨rfl,hb3,hk3⟩
     go_wp2_with fail
     go_end0
     exact ⟨rfl,_,.inl HT1.out.symm,hb3,hS2.2.trans hk3⟩
   . have HT1 : Hid (textE (.mk 2 nm n ls xs) = [91] ++ sepL (ls.map Lib.itoa) ++ [93]) := by show _ = _;rw [HTX.out];rfl
     rw [HT1.out] at HLEN
     have hl := HLEN.out
     simp only [List.length_append,List.length_cons,List.length_nil] at hl
     have d3 : W.cell? ⟨xb,3,none⟩ = some (.slice la ls.length lc) := cell_of_row _ _ 3 _ _ _ HST.out.hxb
     clear HIH HN HTX HLEN
     have HW1 := Lib.hid (qeD 91 HST.out.bld HST.out.siz (by omega))
     go_wp2_with (go_at_call 76;refine HW1.out.mono ?_)
     rintro e w2 ⟨rfl,hb2,hk2⟩
     have hst2 := HST.out.step hk2 hb2
     have e3 : w2.cell? ⟨xb,3,none⟩ = some (.slice la ls.length lc) := cell_of_row _ _ 3 _ _ _ hst2.hxb
     have hj := join_c 77 (ls.map Lib.itoa) hst2 (by simpa using hll) (by simp;omega) (enters_of Tryz.func77 (by kernel_rfl) rfl)
      (fun i hi bs' w' hs' hl' => by
        have hi' : i < ls.length := by simpa using hi
        have := w2_c hs' HLIT.out hll i hi' (by simpa using hl')
        simpa using this)
     rw [List.length_map] at hj
     have HJ := Lib.hid hj
     have HK2 := Lib.hid (HK.out.trans hk2)
     have HS2 := Lib.hid hst2
     clear hj hb2 hk2 hst2 HST HK HW1 c0 d0 d3
     go_wp2_with (go_at_call 73;refine HJ.out.mono ?_)
     rintro e w3 ⟨rfl,t,hwt,hb3,hk3⟩
     have hst3 := HS2.out.step hk3 hb3
     have hwl := hwt.le
     have f0 : w3.cell? ⟨bb,0,none⟩ = some (.pointer (some ⟨b,0,none⟩)) := cell_of_row _ _ 0 _ _ _ hst3.hbb
     have HW3 := Lib.hid (qeD 93 hst3.bld hst3.siz (by simp;omega))
     have HK3 := Lib.hid (HK2.out.trans hk3)
     have HWT := Lib.hid hwt
     clear HJ hst3 hk3 hb3 hwt HS2 HK2 e3
     go_wp2_with (go_at_call 76;refine HW3.out.mono ?_)
     rintro e w4 ⟨rfl,hb4,hk4⟩
     go_wp2_with fail
     go_end0
     refine ⟨rfl,[91] ++ t ++ [93],?_,by simpa [List.append_assoc] using hb4,HK3.out.trans hk4⟩
     rw [HT1.out]
     exact ((show Wr bs.length [91] [91] from .inl rfl).append (by simpa using HWT.out)).append (.inl rfl)
   . have HT1 : Hid (textE (.mk 3 nm n ls xs) = nm ++ [40] ++ sepL (xs.map textE) ++ [41]) := by show _ = _;rw [HTX.out,<- textL_map];rfl
     rw [HT1.out] at HLEN
     have hl := HLEN.out
     simp only [List.length_append,List.length_cons,List.length_nil] at hl
     have d1 : W.cell? ⟨xb,1,none⟩ = some (.string ⟨nm.toArray⟩) := cell_of_row _ _ 1 _ _ _ HST.out.hxb
     clear HLIT HN HTX HLEN
     have HW0 := Lib.hid (qdU nm HST.out.bld HST.out.siz (by omega))
     go_wp2_with (go_at_call 74;refine HW0.out.mono ?_)
     rintro e w2 ⟨rfl,hb2,hk2⟩
     have hst2 := HST.out.step hk2 hb2
     have e0 : w2.cell? ⟨bb,0,none⟩ = some (.pointer (some ⟨b,0,none⟩)) := cell_of_row _ _ 0 _ _ _ hst2.hbb
     have HW1 := Lib.hid (qeD 40 hst2.bld hst2.siz (by simp;omega))
     have HK2 := Lib.hid (HK.out.trans hk2)
     have HS2 := Lib.hid hst2
     clear hb2 hk2 hst2 HST HK HW0 c0 d0 d1
     go_wp2_with (go_at_call 76;refine HW1.out.mono ?_)
     rintro e w3 ⟨rfl,hb3,hk3⟩
     have hst3 := HS2.out.step hk3 hb3
     have e4 : w3.cell? ⟨xb,4,none⟩ = some (.slice aa xs.length ac) := cell_of_row _ _ 4 _ _ _ hst3.hxb
     have hj := join_c 78 (xs.map textE) hst3 (by simpa using hxl) (by simp;omega) (enters_of Tryz.func78 (by kernel_rfl) rfl)
      (fun i hi bs' w' hs' hl' => by
        have hi' : i < xs.length := by simpa using hi
        have hl2 : bs'.length + (textE xs[i]).length <= 140737488355328 := by simpa using hl'
        have := w3_c hs' hxl i hi' (fun cs' w'' hs'' hec => HIH.out i hi' cs' bs' w'' hs'' hl2 hec)
        simpa using this)
     rw [List.length_map] at hj
     have HJ := Lib.hid hj
     have HK3 := Lib.hid (HK2.out.trans hk3)
     have HS3 := Lib.hid hst3
     clear hj hb3 hk3 hst3 HS2 HK2 HW1 HIH e0
     go_wp2_with (go_at_call 73;refine HJ.out.mono ?_)
     rintro e w4 ⟨rfl,t,hwt,hb4,hk4⟩
     have hst4 := HS3.out.step hk4 hb4
     have hwl := hwt.le
     have f0 : w4.cell? ⟨bb,0,none⟩ = some (.pointer (some ⟨b,0,none⟩)) := cell_of_row _ _ 0 _ _ _ hst4.hbb
     have HW4 := Lib.hid (qeD 41 hst4.bld hst4.siz (by simp;omega))
     have HK4 := Lib.hid (HK3.out.trans hk4)
     have HWT := Lib.hid hwt
     clear HJ hst4 hk4 hb4 hwt HS3 HK3 e4
     go_wp2_with (go_at_call 76;refine HW4.out.mono ?_)
     rintro e w5 ⟨rfl,hb5,hk5⟩
     go_wp2_with fail
     go_end0
     refine ⟨rfl,nm ++ [40] ++ t ++ [41],?_,by simpa [List.append_assoc] using hb5,HK4.out.trans hk5⟩
     rw [HT1.out]
     exact ((show Wr bs.length (nm ++ [40]) (nm ++ [40]) from .inl rfl).append (by simpa using HWT.out)).append (.inl rfl)
   . have HT1 : Hid (textE (.mk 4 nm n ls xs) = nm) := by show _ = _;rw [HTX.out];rfl
     rw [HT1.out] at HLEN
     have hl := HLEN.out
     have d1 : W.cell? ⟨xb,1,none⟩ = some (.string ⟨nm.toArray⟩) := cell_of_row _ _ 1 _ _ _ HST.out.hxb
     clear HIH HLIT HN HTX HLEN
     have HW0 := Lib.hid (qdU nm HST.out.bld HST.out.siz hl)
     go_wp2_with (go_at_call 74;refine HW0.out.mono ?_)
     rintro e w2 ⟨rfl,hb2,hk2⟩
     go_wp2_with fail
     go_end0
     exact ⟨rfl,nm,.inl HT1.out.symm,hb2,HK.out.trans hk2⟩
def checkE (x : E) : Nat := if formE x = false then 5 else if shortE x = false \/ 32 < depthE x \/ 1024 < sizeE x then 8 else if 65536 < (textE x).length then 8 else 0
theorem sepL_len_le : ∀ l : List (List UInt8),(sepL l).length <= (l.map (fun t => t.length + 2)).sum
 | [] => by simp [sepL]
 | x :: r => by
   have h : ∀ r : List (List UInt8),(r.map ([44,32] ++ ·)).flatten.length = (r.map (fun t => t.length + 2)).sum := by
    intro r
    induction r with
    | nil => rfl
    | cons y r ih => simp only [List.map_cons,List.flatten_cons,List.length_append,List.sum_cons,ih];simp;omega
   unfold sepL
   rw [List.length_append,h]
   simp
mutual
theorem ent_short : ∀ x : E,shortE x = true -> entE x <= 4096 * sizeE x
 | .mk k nm n ls xs,h => by
   unfold shortE at h
   simp only [Bool.and_eq_true,decide_eq_true_eq] at h
   have := ents_short xs h.2
   unfold entE sizeE
   omega
theorem ents_short : ∀ l : List E,shortL l = true -> entL l <= 4096 * sizeL l
 | [],_ => by simp [entL]
 | x :: r,h => by
   unfold shortL at h
   simp only [Bool.and_eq_true] at h
   have h1 := ent_short x h.1
   have h2 := ents_short r h.2
   unfold entL sizeL
   omega
end
theorem nodeB_name {k : Int} {nm : List UInt8} {n : Int} {ls : List Int} {xs : List E} (h : nodeB (.mk k nm n ls xs) = true) (hk : k = 3 \/ k = 4) : nm.length <= 16 := by
 unfold nodeB at h
 rcases hk with rfl | rfl
 . simp [nameB] at h
   exact h.2.1.2.2.1
 . simp [nameB] at h
   exact h.2.1.1.2.2.1
mutual
theorem text_len : ∀ x : E,formE x = true -> (textE x).length + 2 <= 40 * sizeE x + 23 * entE x
 | .mk k nm n ls xs,h => by
   obtain ⟨hn,hl⟩ := formE_mk h
   have h2 := texts_len xs hl
   unfold textE sizeE entE
   split
   . rename_i hk
     obtain ⟨h0,h1⟩ := nodeB_n hn hk
     have := Lib.itoa_length_le n (by omega) (by omega)
     omega
   . split
     . have h3 := sepL_len_le (ls.map Lib.itoa)
       have h4 : ∀ l : List Int,l.all litB = true -> ((l.map Lib.itoa).map (fun t => t.length + 2)).sum <= 23 * l.length := by
        intro l
        induction l with
        | nil => simp
        | cons y r ih =>
          intro hy
          simp only [List.all_cons,Bool.and_eq_true] at hy
          have := ih hy.2
          have hy1 : 0 <= y /\ y <= 9999999 := by simpa [litB] using hy.1
          have := Lib.itoa_length_le y (by omega) (by omega)
          simp only [List.map_cons,List.sum_cons,List.length_cons]
          omega
       have h5 := h4 ls (nodeB_lits hn)
       simp only [List.length_append,List.length_cons,List.length_nil]
       omega
     . split
       . rename_i hk
         have := nodeB_name hn (.inr hk)
         omega
       . split
         . rename_i hk
           have := nodeB_name hn (.inl hk)
           simp only [List.length_append,List.length_cons,List.length_nil]
           omega
         . simp
           omega
theorem texts_len : ∀ l : List E,formL l = true -> (sepL (textL l)).length <= 40 * sizeL l + 23 * entL l
 | l,h => Nat.le_trans (sepL_len_le _) (texts_sum l h)
theorem texts_sum : ∀ l : List E,formL l = true -> ((textL l).map (fun t => t.length + 2)).sum <= 40 * sizeL l + 23 * entL l
 | [],_ => by simp [textL]
 | x :: r,h => by
   unfold formL at h
   simp only [Bool.and_eq_true] at h
   have h1 := text_len x h.1
   have h2 := texts_sum r h.2
   unfold textL sizeL entL
   simp only [List.map_cons,List.sum_cons]
   omega
end
theorem cells5 {w : World} {b : Nat} {v0 v1 v2 v3 v4 : Value} {t : TypeId} {fr : Nat × Nat} (h : w.heap[b]? = some (.cells #[v0,v1,v2,v3,v4] t fr)) :
 w.cell? ⟨b,0,none⟩ = some v0 /\ w.cell? ⟨b,1,none⟩ = some v1 /\ w.cell? ⟨b,2,none⟩ = some v2 /\ w.cell? ⟨b,3,none⟩ = some v3 /\ w.cell? ⟨b,4,none⟩ = some v4 :=
 ⟨cell_of_row _ _ 0 _ _ _ h,cell_of_row _ _ 1 _ _ _ h,cell_of_row _ _ 2 _ _ _ h,cell_of_row _ _ 3 _ _ _ h,cell_of_row _ _ 4 _ _ _ h⟩
theorem range_of_row5 {w : World} {b : Nat} {cs : List Value} {t : TypeId} {fr : Nat × Nat} (h : w.heap[b]? = some (.cells cs.toArray t fr)) : w.rangeAt b 0 cs := by
 intro j v hv
 rw [Nat.zero_add,cell_of_row _ _ j _ _ _ h,List.getElem?_toArray]
 exact hv
theorem ExprC.all {w : World} {F : Nat -> Prop} {x : E} {cs : List Value} (h : ExprC w F x cs) : ExprC w (· < w.heap.size) x cs := ExprC.mono (fun _ _ hlt => ⟨hlt,rfl⟩) x cs h
set_option maxHeartbeats 4000000 in
set_option maxRecDepth 100000 in
theorem check_cL (x : E) (cs : List Value) (F : Nat -> Prop) (w : World) (h : ExprC w F x cs) (hs : sizeE x <= 1000000000) (he : entE x <= 9223372036854775807) (ht : Pows w) :
 Calls Tryz.prog 23 #[.agg cs.toArray] w fun e w' => e = .returned (.int .i64 (checkE x)) /\ Below w.heap.size w w' := by
 obtain ⟨k,nm,n,la,ll,lc,aa,al,ac,rfl⟩ := h.shape
 have HX := Lib.hid h.all
 have HT := Lib.hid ht
 have hg := ht.lt
 clear h ht
 have hb0 : Below w.heap.size w (w.alloc (.cells #[.int .i64 k,.string nm,.int .i64 n,.slice la ll lc,.slice aa al ac] 25)) := (Below.refl _ _).alloc (Nat.le_refl _) _
 have hr0 : (w.alloc (.cells #[.int .i64 k,.string nm,.int .i64 n,.slice la ll lc,.slice aa al ac] 25)).heap[w.heap.size]? = some (.cells [.int .i64 k,.string nm,.int .i64 n,.slice la ll lc,.slice aa al ac].toArray 25 (0,0)) := heap_alloc_new _ _
 have HR0 := Lib.hid hr0
 have HB0 := Lib.hid hb0
 clear hr0 hb0
 go_enter Tryz.func23,Tryz.ntmps23
 go_wp2_with fail
 generalize w.alloc (.cells #[.int .i64 k,.string nm,.int .i64 n,.slice la ll lc,.slice aa al ac] 25) = W at *
 refine (form_c x _ _ W (HX.out.kept HB0.out) hs he).mono ?_
 rintro e w1 ⟨rfl,hb1⟩
 have hxw : w.heap.size < W.heap.size := (Array.getElem?_eq_some_iff.1 HR0.out).1
 have HR1 := Lib.hid ((hb1.block _ hxw).trans HR0.out)
 have HB1 := Lib.hid (HB0.out.trans (hb1.mono HB0.out.size))
 have hxw1 : w.heap.size < w1.heap.size := Nat.lt_of_lt_of_le hxw hb1.size
 clear hb1 HR0 HB0 hxw
 clear W
 cases hf : formE x
 . go_wp2_with fail
   go_ret
   exact ⟨qaM (by unfold checkE;rw [if_pos hf];rfl),HB1.out⟩
 . have HF : Hid (checkE x = if shortE x = false \/ 32 < depthE x \/ 1024 < sizeE x then 8 else if 65536 < (textE x).length then 8 else 0) := by show _ = _;unfold checkE;rw [hf];rfl
   have hdp : depthE x <= 1000000000 := by have := depth_size x;omega
   go_wp2_with (refine wpList_load_mid rfl 25 (.tmp 1) rfl w.heap.size 0 rfl [.int .i64 k,.string nm,.int .i64 n,.slice la ll lc,.slice aa al ac] _ (range_of_row5 HR1.out) Tryz.underlying25 rfl exprSize ?_)
   refine (measure_c x _ _ w1 (HX.out.kept HB1.out) hs he).mono ?_
   rintro e w2 ⟨rfl,hb2⟩
   have HR2 := Lib.hid ((hb2.block _ hxw1).trans HR1.out)
   have HB2 := Lib.hid (HB1.out.trans (hb2.mono HB1.out.size))
   have hxw2 : w.heap.size < w2.heap.size := Nat.lt_of_lt_of_le hxw1 hb2.size
   clear hb2 HR1 HB1 hxw1
   clear w1
   cases hsh : shortE x
   . go_wp2_with fail
     go_ret
     exact ⟨qaM (by rw [HF.out,if_pos (.inl hsh)];rfl),HB2.out⟩
   . by_cases hdd : 32 < depthE x
     . go_wp2_with fail
       go_ret
       exact ⟨qaM (by rw [HF.out,if_pos (.inr (.inl hdd))];rfl),HB2.out⟩
     . obtain ⟨z0,z1,z2,z3,z4⟩ := cells5 HR2.out
       go_wp2_with fail
       refine (size_c x _ _ w2 (HX.out.kept HB2.out) hs).mono ?_
       rintro e w3 ⟨rfl,hb3⟩
       have HR3 := Lib.hid ((hb3.block _ hxw2).trans HR2.out)
       have HB3 := Lib.hid (HB2.out.trans (hb3.mono HB2.out.size))
       have hxw3 : w.heap.size < w3.heap.size := Nat.lt_of_lt_of_le hxw2 hb3.size
       clear hb3 HR2 HB2 hxw2 z0 z1 z2 z3 z4
       clear w2
       by_cases hsz : 1024 < sizeE x
       . go_wp2_with fail
         go_ret
         exact ⟨qaM (by rw [HF.out,if_pos (.inr (.inr hsz))];rfl),HB3.out⟩
       . have HF2 : Hid (checkE x = if 65536 < (textE x).length then 8 else 0) := by
          show _ = _
          rw [HF.out,if_neg]
          rintro (h | h | h)
          . rw [hsh] at h;cases h
          . exact hdd h
          . exact hsz h
         have he2 := ent_short x hsh
         have htl := text_len x hf
         have hbn : Below w3.heap.size w3 (w3.alloc (.cells #[.pointer none,.slice none 0 0] 81)) := (Below.refl _ _).alloc (Nat.le_refl _) _
         obtain ⟨z0,z1,z2,z3,z4⟩ := cells5 ((hbn.block _ hxw3).trans HR3.out)
         have HBN := Lib.hid (HB3.out.trans (hbn.mono HB3.out.size))
         have HFR := Lib.hid (isBuilder_fresh 81 5 w3)
         have hsw : w3.heap.size <= (w3.alloc (.cells #[.pointer none,.slice none 0 0] 81)).heap.size := hbn.size
         have HSW := Lib.hid hsw
         clear HF hbn hsw
         go_wp2_with fail
         generalize w3.alloc (.cells #[.pointer none,.slice none 0 0] 81) = w4 at *
         have hB3 := HB3.out.size
         refine (write_c x _ w3.heap.size w3.heap.size [] w4 (ExprC.mono (fun b hF _ => ⟨Nat.lt_of_lt_of_le hF hB3,HBN.out.block b hF⟩) _ _ HX.out) hf hs (by omega) HFR.out HSW.out (HT.out.keep hg HBN.out) (Nat.lt_of_lt_of_le hg hB3) (by simp;omega)).mono ?_
         rintro e w5 ⟨rfl,t,hwt,hb5,hk5⟩
         have HB5 := Lib.hid (HBN.out.trans (hk5.1.mono hB3))
         rw [List.nil_append] at hb5
         have HL := Lib.hid (Tryz.Builder_Len_f _ _ _ _ hb5)
         have hwl := hwt.le
         have HWT := Lib.hid hwt
         clear hk5 hb5 hwt HFR z0 z1 z2 z3 z4
         go_wp2_with (go_at_call 41;refine HL.out.mono ?_)
         rintro e w6 ⟨rfl,rfl⟩
         rw [Lib.byteCells_length]
         by_cases hov : 65536 < t.length
         . go_wp2_with fail
           go_ret
           exact ⟨qaM (by rw [HF2.out,if_pos (by omega)];rfl),HB5.out⟩
         . go_wp2_with fail
           go_ret
           refine ⟨qaM ?_,HB5.out⟩
           rcases HWT.out with rfl | ⟨h1,_⟩
           . rw [HF2.out,if_neg (by omega)];rfl
           . exact absurd (by simpa using h1) hov
end Go.Proofs.YtaddcadapbpkfaaGreatDoor
