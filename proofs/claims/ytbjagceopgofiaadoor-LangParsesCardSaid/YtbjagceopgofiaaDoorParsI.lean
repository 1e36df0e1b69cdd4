/-
  The parser's method expr, whole.
-/
import Derived.Test.YtbjagceopgofiaaDoorParsH
namespace Go.Proofs.YtbjagceopgofiaaDoor
open Go.RowKit

theorem expr_all {gp tb : Nat} {A : Option Addr} {c : Nat} {ts : List Tok} {en : Nat} : ∀ (N f d i nd : Nat) (w : World) (r : Except (Nat × Nat) (E × Nat × Nat)), f ≤ N → d ≤ 33 → PSt w gp tb A c ts en i nd → exprM ts en f d i nd = some r →
    Calls Tryd.prog 27 #[.pointer (some ⟨gp, 0, none⟩), .int .i64 d] w (exprPost w gp tb A c ts en r) := by
  intro N
  induction N with
  | zero =>
    intro f d i nd w r hf hd hp hr
    obtain rfl : f = 0 := by omega
    unfold exprM at hr
    cases hr
  | succ N ih =>
    intro f d i nd w r hf hd hp hr
    cases f with
    | zero => unfold exprM at hr; cases hr
    | succ f =>
      unfold exprM at hr
      split at hr
      · rename_i h
        exact expr_syntax d w hp r h.1 h.2.1 h.2.2 (Option.some.inj hr).symm
      · rename_i h
        split at hr
        · rename_i hb
          have hr' := (Option.some.inj hr).symm
          cases h3 : isT ts i 91
          · by_cases h2 : kindT ts i = 2
            · exact expr_big_n d w hp r (by omega) h2 h3 hb hr'
            · by_cases h1 : kindT ts i = 1
              · exact expr_big_w d w hp r (by omega) h1 h3 hb hr'
              · exact absurd ⟨h1, h2, h3⟩ h
          · exact expr_big_b d w hp r (by omega) h3 hb hr'
        · rename_i hb
          have hd' : d ≤ 32 := by omega
          have hn' : nd ≠ 1024 := fun e => hb (.inr e)
          split at hr
          · rename_i h3
            split at hr
            · rename_i h93
              exact expr_list d w hp hd' hn' h3 f (.ok ([], i + 2)) r (by rw [← Option.some.inj hr]; rfl) (by unfold listTop; rw [if_pos h93])
            · rename_i h93
              have ht : listTop ts en f (i + 1) = listM ts en f (i + 1) [] := by unfold listTop; rw [if_neg h93]
              match hl : listM ts en f (i + 1) [] with
              | none => rw [hl] at hr; cases hr
              | some (.error e) => rw [hl] at hr; exact expr_list d w hp hd' hn' h3 f (.error e) r (Option.some.inj hr).symm (by rw [ht, hl])
              | some (.ok (l, j)) => rw [hl] at hr; exact expr_list d w hp hd' hn' h3 f (.ok (l, j)) r (Option.some.inj hr).symm (by rw [ht, hl])
          · rename_i h3
            have h3' : isT ts i 91 = false := by simpa using h3
            split at hr
            · rename_i h2
              exact expr_num d w hp hd' hn' h2 h3' r (Option.some.inj hr).symm
            · rename_i h2
              have h1 : kindT ts i = 1 := Classical.byContradiction fun h1 => h ⟨h1, h2, h3'⟩
              split at hr
              · rename_i h40
                exact expr_name d w hp hd' hn' h1 h3' h40 r (Option.some.inj hr).symm
              · rename_i h40
                have h40' : isT ts (i + 1) 40 = true := by simpa using h40
                have ih' : ∀ f' d' i' nd' w' r', f' ≤ f → d' ≤ 33 → PSt w' gp tb A c ts en i' nd' → exprM ts en f' d' i' nd' = some r' → Calls Tryd.prog 27 #[.pointer (some ⟨gp, 0, none⟩), .int .i64 d'] w' (exprPost w' gp tb A c ts en r') :=
                  fun f' d' i' nd' w' r' h1 h2 h3 h4 => ih f' d' i' nd' w' r' (by omega) h2 h3 h4
                match hl : argsM ts en f d (i + 2) (nd + 1) [] with
                | none => rw [hl] at hr; cases hr
                | some (.error e) => rw [hl] at hr; exact expr_call d w hp hd' hn' h1 h3' h40' f ih' (.error e) r (Option.some.inj hr).symm hl
                | some (.ok (xs, j, nd')) => rw [hl] at hr; exact expr_call d w hp hd' hn' h1 h3' h40' f ih' (.ok (xs, j, nd')) r (Option.some.inj hr).symm hl
/-- expr, by its model. -/
theorem expr_c {gp tb : Nat} {A : Option Addr} {c : Nat} {ts : List Tok} {en i nd : Nat} (f d : Nat) (w : World) (hd : d ≤ 33) (h : PSt w gp tb A c ts en i nd) (r : Except (Nat × Nat) (E × Nat × Nat)) (hr : exprM ts en f d i nd = some r) :
    Calls Tryd.prog 27 #[.pointer (some ⟨gp, 0, none⟩), .int .i64 d] w (exprPost w gp tb A c ts en r) := expr_all f f d i nd w r (Nat.le_refl _) hd h hr
#print axioms expr_c
end Go.Proofs.YtbjagceopgofiaaDoor
