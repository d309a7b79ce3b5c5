/-
  Texts that stand as one.
-/
import Derived.Lib.IndexAny
import Derived.Lib.Join
/-
  Plain words: a text's words and their places.
-/
namespace Go.Proofs.YtjmagehfkcnjjaaGreatDoor
set_option linter.unusedVariables false

def blks : List UInt8 := [9, 10, 13, 32, 44]
def isB (b : UInt8) : Bool := blks.contains b
/-- the word ahead -/
def wrd (l : List UInt8) : List UInt8 := l.takeWhile fun b => !isB b
theorem wrd_len (l : List UInt8) : (wrd l).length ≤ l.length := by
  unfold wrd
  exact (List.takeWhile_sublist _).length_le
theorem wrd_take (l : List UInt8) : l.take (wrd l).length = wrd l := by
  have h : wrd l ++ l.dropWhile (fun b => !isB b) = l := List.takeWhile_append_dropWhile
  have : (wrd l ++ l.dropWhile (fun b => !isB b)).take (wrd l).length = wrd l := by simp
  rwa [h] at this
theorem wrd_nil : wrd [] = [] := rfl
theorem wrd_blank (b : UInt8) (l : List UInt8) (h : isB b = true) : wrd (b :: l) = [] := by unfold wrd; rw [List.takeWhile_cons_of_neg (by rw [h]; decide)]
theorem wrd_cons (b : UInt8) (l : List UInt8) (h : isB b = false) : wrd (b :: l) = b :: wrd l := by unfold wrd; rw [List.takeWhile_cons_of_pos (by rw [h]; decide)]
theorem index_wrd (l : List UInt8) : Lib.indexAny l blks = if (wrd l).length = l.length then -1 else ((wrd l).length : Int) := by
  induction l with
  | nil => rfl
  | cons b r ih =>
    unfold Lib.indexAny
    cases h : isB b with
    | true =>
      have h' : blks.contains b = true := h
      rw [wrd_blank b r h, if_pos h', if_neg (by simp)]
      rfl
    | false =>
      have h' : ¬ blks.contains b = true := by have : blks.contains b = false := h; rw [this]; decide
      have hl := wrd_len r
      rw [wrd_cons b r h, if_neg h', ih, List.length_cons, List.length_cons]
      by_cases e : (wrd r).length = r.length
      · rw [if_pos e, if_pos (show ((-1 : Int) == -1) = true from rfl), if_pos (by omega)]
      · rw [if_neg e, if_neg (show ¬ (((wrd r).length : Int) == -1) = true by simp), if_neg (show ¬ (wrd r).length + 1 = r.length + 1 by omega)]
        omega
/-- the words of a text whose first byte has this place -/
def wds (at_ : Nat) (l : List UInt8) : List (Nat × List UInt8) :=
  match l with
  | [] => []
  | b :: r => (if wrd (b :: r) = [] then [] else [(at_, wrd (b :: r))]) ++ wds (at_ + (wrd (b :: r)).length + 1) ((b :: r).drop ((wrd (b :: r)).length + 1))
termination_by l.length
decreasing_by
  rw [List.length_drop]
  simp only [List.length_cons]
  omega
theorem wds_nil (k : Nat) : wds k [] = [] := by rw [wds]
theorem wds_ne (k : Nat) (l : List UInt8) (h : l ≠ []) : wds k l = (if wrd l = [] then [] else [(k, wrd l)]) ++ wds (k + (wrd l).length + 1) (l.drop ((wrd l).length + 1)) := by
  cases l with
  | nil => exact absurd rfl h
  | cons b r => rw [wds]
/-- what is left of the words behind a place: one step on -/
theorem wds_skip (l : List UInt8) (k j : Nat) (hk : k < l.length) (h : (wds 0 l).drop j = wds k (l.drop k)) (h0 : wrd (l.drop k) = []) : (wds 0 l).drop j = wds (k + 1) (l.drop (k + 1)) := by
  have hne : l.drop k ≠ [] := fun e => by have := congrArg List.length e; rw [List.length_drop] at this; simp at this; omega
  rw [h, wds_ne k _ hne, if_pos h0, h0, List.drop_drop]
  simp
theorem wds_come (l : List UInt8) (k j : Nat) (hk : k < l.length) (h : (wds 0 l).drop j = wds k (l.drop k)) (h0 : wrd (l.drop k) ≠ []) :
    (wds 0 l)[j]? = some (k, wrd (l.drop k)) ∧ (wds 0 l).drop (j + 1) = wds (k + (wrd (l.drop k)).length + 1) (l.drop (k + (wrd (l.drop k)).length + 1)) := by
  have hne : l.drop k ≠ [] := fun e => by have := congrArg List.length e; rw [List.length_drop] at this; simp at this; omega
  rw [wds_ne k _ hne, if_neg h0, List.drop_drop] at h
  refine ⟨?_, ?_⟩
  · have := congrArg (·[0]?) h
    simpa [List.getElem?_drop] using this
  · have := congrArg (List.drop 1) h
    rw [List.drop_drop] at this
    simpa [Nat.add_assoc] using this
theorem wds_end (l : List UInt8) (k j : Nat) (hk : l.length ≤ k) (h : (wds 0 l).drop j = wds k (l.drop k)) : (wds 0 l).length ≤ j := by
  rw [List.drop_eq_nil_of_le hk, wds_nil] at h
  exact List.drop_eq_nil_iff.1 h
end Go.Proofs.YtjmagehfkcnjjaaGreatDoor

/-
  Plain law: the words of words that are joined by blanks.
-/
namespace Go.Proofs.YtjmagehfkcnjjaaGreatDoor
set_option linter.unusedVariables false
open Go.Lib

/-- words, one blank between two, and their places -/
def placed (k : Nat) : List (List UInt8) → List (Nat × List UInt8)
  | [] => []
  | w :: r => (k, w) :: placed (k + w.length + 1) r
def Word (w : List UInt8) : Prop := w ≠ [] ∧ ∀ b ∈ w, isB b = false
theorem wrd_app (w r : List UInt8) (h : ∀ b ∈ w, isB b = false) : wrd (w ++ 32 :: r) = w := by
  unfold wrd
  rw [List.takeWhile_append_of_pos (fun b hb => by rw [h b hb]; rfl), List.takeWhile_cons_of_neg (by decide), List.append_nil]
theorem wrd_self (w : List UInt8) (h : ∀ b ∈ w, isB b = false) : wrd w = w := by
  unfold wrd
  have := List.takeWhile_append_of_pos (p := fun b => !isB b) (l₁ := w) (l₂ := []) (fun b hb => by rw [h b hb]; rfl)
  simpa using this
/-- joined, one by one -/
def joinB : List (List UInt8) → List UInt8
  | [] => []
  | [w] => w
  | w :: r => w ++ 32 :: joinB r
theorem joinB_cons (w : List UInt8) (r : List (List UInt8)) (h : r ≠ []) : joinB (w :: r) = w ++ 32 :: joinB r := by
  cases r with
  | nil => exact absurd rfl h
  | cons _ _ => rfl
theorem wds_join : ∀ (ws : List (List UInt8)) (k : Nat), (∀ w ∈ ws, Word w) → wds k (joinB ws) = placed k ws := by
  intro ws
  induction ws with
  | nil => intro k _; rw [show joinB [] = [] from rfl, wds_nil]; rfl
  | cons w r ih =>
    intro k h
    have hw := h w (List.mem_cons_self ..)
    by_cases hr : r = []
    · subst hr
      rw [show joinB [w] = w from rfl, wds_ne k w hw.1, wrd_self w hw.2, if_neg hw.1, List.drop_eq_nil_of_le (by omega), wds_nil]
      rfl
    · have e := joinB_cons w r hr
      have hne : joinB (w :: r) ≠ [] := by rw [e]; simp
      have hwr : wrd (joinB (w :: r)) = w := by rw [e]; exact wrd_app w _ hw.2
      rw [wds_ne k _ hne, hwr, if_neg hw.1]
      have hd : (joinB (w :: r)).drop (w.length + 1) = joinB r := by
        rw [e, ← List.drop_drop]
        simp
      rw [hd, ih _ (fun v hv => h v (List.mem_cons_of_mem w hv))]
      rfl
end Go.Proofs.YtjmagehfkcnjjaaGreatDoor
