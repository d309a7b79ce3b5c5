/-
  Plain law: the words of words that are joined by blanks.
-/
import Derived.Test.YtjmagehfkcnjjaaDoorSWP
import Derived.Lib.Join
namespace Go.Proofs.YtjmagehfkcnjjaaDoor
set_option linter.unusedVariables false
open Go.Lib

/-- words, one blank between two, and their places -/
def placed (k : Nat) : List (List UInt8) → List (Nat × List UInt8)
  | [] => []
  | w :: r => (k, w) :: placed (k + w.length + 1) r
def Word (w : List UInt8) : Prop := w ≠ [] ∧ ∀ b ∈ w, isB b = false
theorem wrd_app (w r : List UInt8) (h : ∀ b ∈ w, isB b = false) : wrd (w ++ 32 :: r) = w := by
  unfold wrd
  rw [List.takeWhile_append_of_pos (fun b hb => by rw [h b hb]; rfl), List.takeWhile_cons_of_neg (by decide), List.append_nil]
theorem wrd_self (w : List UInt8) (h : ∀ b ∈ w, isB b = false) : wrd w = w := by
  unfold wrd
  have := List.takeWhile_append_of_pos (p := fun b => !isB b) (l₁ := w) (l₂ := []) (fun b hb => by rw [h b hb]; rfl)
  simpa using this
/-- joined, one by one -/
def joinB : List (List UInt8) → List UInt8
  | [] => []
  | [w] => w
  | w :: r => w ++ 32 :: joinB r
theorem joinB_cons (w : List UInt8) (r : List (List UInt8)) (h : r ≠ []) : joinB (w :: r) = w ++ 32 :: joinB r := by
  cases r with
  | nil => exact absurd rfl h
  | cons _ _ => rfl
theorem wds_join : ∀ (ws : List (List UInt8)) (k : Nat), (∀ w ∈ ws, Word w) → wds k (joinB ws) = placed k ws := by
  intro ws
  induction ws with
  | nil => intro k _; rw [show joinB [] = [] from rfl, wds_nil]; rfl
  | cons w r ih =>
    intro k h
    have hw := h w (List.mem_cons_self ..)
    by_cases hr : r = []
    · subst hr
      rw [show joinB [w] = w from rfl, wds_ne k w hw.1, wrd_self w hw.2, if_neg hw.1, List.drop_eq_nil_of_le (by omega), wds_nil]
      rfl
    · have e := joinB_cons w r hr
      have hne : joinB (w :: r) ≠ [] := by rw [e]; simp
      have hwr : wrd (joinB (w :: r)) = w := by rw [e]; exact wrd_app w _ hw.2
      rw [wds_ne k _ hne, hwr, if_neg hw.1]
      have hd : (joinB (w :: r)).drop (w.length + 1) = joinB r := by
        rw [e, ← List.drop_drop]
        simp
      rw [hd, ih _ (fun v hv => h v (List.mem_cons_of_mem w hv))]
      rfl
end Go.Proofs.YtjmagehfkcnjjaaDoor
