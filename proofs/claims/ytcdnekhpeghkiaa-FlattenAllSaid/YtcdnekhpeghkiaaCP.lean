/-
  A list without repeats next to each other: plain words.
-/
namespace Go.Proofs.Ytcdnekhpeghkiaa
set_option linter.unusedVariables false

def cpt : List (Int × Int) → List (Int × Int)
  | [] => []
  | [a] => [a]
  | a :: b :: r => if a = b then cpt (b :: r) else a :: cpt (b :: r)
theorem cpt_cons2 (a b : Int × Int) (r : List (Int × Int)) : cpt (a :: b :: r) = if a = b then cpt (b :: r) else a :: cpt (b :: r) := rfl
theorem cpt_snoc : ∀ (L : List (Int × Int)) (a b : Int × Int), L.getLast? = some a → cpt (L ++ [b]) = if a = b then cpt L else cpt L ++ [b]
  | [], a, b, h => by simp at h
  | [c], a, b, h => by
    have : c = a := by simpa using h
    subst this
    show cpt (c :: b :: []) = _
    rw [cpt_cons2]
    by_cases e : c = b
    · rw [if_pos e, if_pos e, e]
    · rw [if_neg e, if_neg e]; rfl
  | c :: d :: r, a, b, h => by
    have ih := cpt_snoc (d :: r) a b (by simpa using h)
    show cpt (c :: d :: (r ++ [b])) = _
    rw [cpt_cons2, cpt_cons2]
    have ih' : cpt (d :: (r ++ [b])) = if a = b then cpt (d :: r) else cpt (d :: r) ++ [b] := ih
    rw [ih']
    by_cases e : a = b
    · rw [if_pos e, if_pos e]
    · rw [if_neg e, if_neg e]
      by_cases e' : c = d
      · rw [if_pos e', if_pos e']
      · rw [if_neg e', if_neg e']; rfl
theorem cpt_take (l : List (Int × Int)) (m : Nat) (hm : m + 1 < l.length) (a b : Int × Int) (ha : l[m]? = some a) (hb : l[m + 1]? = some b) : cpt (l.take (m + 1 + 1)) = if a = b then cpt (l.take (m + 1)) else cpt (l.take (m + 1)) ++ [b] := by
  have e : l.take (m + 1 + 1) = l.take (m + 1) ++ [b] := by
    rw [List.take_add_one, hb]; rfl
  rw [e]
  refine cpt_snoc _ a b ?_
  rw [List.take_add_one, ha]
  simp
theorem cpt_ne : ∀ (l : List (Int × Int)), l ≠ [] → cpt l ≠ []
  | [], h => absurd rfl h
  | [a], _ => by simp [cpt]
  | a :: b :: r, _ => by
    rw [cpt_cons2]
    split
    · exact cpt_ne (b :: r) (by simp)
    · simp
theorem cpt_len : ∀ (l : List (Int × Int)), (cpt l).length ≤ l.length
  | [] => by simp [cpt]
  | [a] => by simp [cpt]
  | a :: b :: r => by
    have := cpt_len (b :: r)
    rw [cpt_cons2]
    split
    · simp only [List.length_cons] at *; omega
    · simp only [List.length_cons] at *; omega
theorem cpt_head : ∀ (l : List (Int × Int)), (cpt l).head? = l.head?
  | [] => rfl
  | [a] => rfl
  | a :: b :: r => by
    rw [cpt_cons2]
    split
    · rename_i h; rw [cpt_head (b :: r), h]; rfl
    · rfl
theorem cpt_last : ∀ (l : List (Int × Int)), (cpt l).getLast? = l.getLast?
  | [] => rfl
  | [a] => rfl
  | a :: b :: r => by
    have ih := cpt_last (b :: r)
    rw [cpt_cons2]
    split
    · rw [ih]; simp
    · rw [List.getLast?_cons, ih]
      simp [List.getLast?_cons]
/-- no two next to each other are the same -/
def Apart : List (Int × Int) → Prop
  | [] => True
  | [a] => True
  | a :: b :: r => a ≠ b ∧ Apart (b :: r)
theorem cpt_apart : ∀ (l : List (Int × Int)), Apart (cpt l)
  | [] => trivial
  | [a] => trivial
  | a :: b :: r => by
    have ih := cpt_apart (b :: r)
    rw [cpt_cons2]
    split
    · exact ih
    · rename_i h
      have hh := cpt_head (b :: r)
      cases hc : cpt (b :: r) with
      | nil => trivial
      | cons c s =>
        rw [hc] at hh ih
        have : c = b := by simpa using hh
        subst this
        exact ⟨h, ih⟩
theorem Apart.at : ∀ {l : List (Int × Int)}, Apart l → ∀ (i : Nat) (a b : Int × Int), l[i]? = some a → l[i + 1]? = some b → a ≠ b
  | [], _, i, a, b, h, _ => by simp at h
  | [x], _, i, a, b, _, k => by simp at k
  | x :: y :: r, h, 0, a, b, h1, h2 => by
    have e1 : x = a := by simpa using h1
    have e2 : y = b := by simpa using h2
    subst e1; subst e2; exact h.1
  | x :: y :: r, h, i + 1, a, b, h1, h2 => Apart.at h.2 i a b (by simpa using h1) (by simpa using h2)
theorem Apart.cpt : ∀ {l : List (Int × Int)}, Apart l → cpt l = l
  | [], _ => rfl
  | [x], _ => rfl
  | x :: y :: r, h => by rw [cpt_cons2, if_neg h.1, Apart.cpt h.2]
theorem cpt_rep (p : Int × Int) : ∀ n : Nat, cpt (List.replicate (n + 1) p) = [p]
  | 0 => rfl
  | n + 1 => by
    rw [List.replicate_succ, List.replicate_succ, cpt_cons2, if_pos rfl, ← List.replicate_succ]
    exact cpt_rep p n
end Go.Proofs.Ytcdnekhpeghkiaa
