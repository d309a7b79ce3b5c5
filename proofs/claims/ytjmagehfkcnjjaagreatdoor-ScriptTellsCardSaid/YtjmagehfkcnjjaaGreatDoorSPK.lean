/-
  Plain: what is parsed may be printed and parsed again; how many words there are.
-/
import Derived.Test.YtjmagehfkcnjjaaGreatDoorKZ
namespace Go.Proofs.YtjmagehfkcnjjaaGreatDoor
set_option linter.unusedVariables false

theorem wrd_cut (l : List UInt8) (h : (wrd l).length < l.length) : wrd l ++ l.drop (wrd l).length = l := by
  have := wrd_take l
  conv => rhs; rw [← List.take_append_drop (wrd l).length l, this]
/-- places lie in the text, and there are no more words than half of it -/
theorem wds_few : ∀ (n : Nat) (l : List UInt8) (k : Nat), l.length ≤ n → (∀ x ∈ wds k l, x.1 ≤ k + l.length) ∧ 2 * (wds k l).length ≤ l.length + 1 := by
  intro n
  induction n with
  | zero =>
    intro l k h
    obtain rfl : l = [] := List.length_eq_zero_iff.1 (by omega)
    rw [wds_nil]
    exact ⟨(fun x hx => nomatch hx), Nat.zero_le _⟩
  | succ n ih =>
    intro l k h
    by_cases h0 : l = []
    · subst h0
      rw [wds_nil]
      exact ⟨(fun x hx => nomatch hx), Nat.zero_le _⟩
    have hl : 1 ≤ l.length := by
      cases l with
      | nil => exact absurd rfl h0
      | cons _ _ => rw [List.length_cons]; omega
    have hw := wrd_len l
    obtain ⟨i1, i2⟩ := ih (l.drop ((wrd l).length + 1)) (k + (wrd l).length + 1) (by rw [List.length_drop]; omega)
    rw [List.length_drop] at i1 i2
    rw [wds_ne k l h0]
    by_cases hd : wrd l = []
    · rw [if_pos hd, List.nil_append]
      have hz : (wrd l).length = 0 := by rw [hd]; rfl
      refine ⟨fun x hx => ?_, ?_⟩
      · have := i1 x hx; omega
      · omega
    · rw [if_neg hd]
      have hz : 1 ≤ (wrd l).length := by
        cases e : wrd l with
        | nil => exact absurd e hd
        | cons _ _ => rw [List.length_cons]; omega
      refine ⟨fun x hx => ?_, ?_⟩
      · rcases List.mem_append.1 hx with hx | hx
        · simp only [List.mem_cons, List.not_mem_nil, or_false] at hx
          subst hx
          show k ≤ _
          omega
        · have h1 := i1 x hx
          by_cases hlt : (wrd l).length + 1 ≤ l.length
          · omega
          · rw [List.drop_eq_nil_of_le (by omega), wds_nil] at hx; cases hx
      · rw [List.length_append, List.length_cons, List.length_nil]
        by_cases hlt : (wrd l).length + 1 ≤ l.length
        · omega
        · have : wds (k + (wrd l).length + 1) (l.drop ((wrd l).length + 1)) = [] := by
            rw [List.drop_eq_nil_of_le (by omega), wds_nil]
          rw [this]
          simp only [List.length_nil]
          omega
theorem goW_inl : ∀ (l : List (Nat × List UInt8)) (s : PSt) (k : Nat), goW s l = .inl k → ∃ x ∈ l, x.1 = k := by
  intro l
  induction l with
  | nil => intro s k h; unfold goW at h; cases h
  | cons x r ih =>
    intro s k h
    unfold goW at h
    cases e : s.word x.2 with
    | none => rw [e] at h; injection h with h; exact ⟨x, List.mem_cons_self .., h⟩
    | some s' =>
      rw [e] at h
      obtain ⟨y, hy, e2⟩ := ih s' k h
      exact ⟨y, List.mem_cons_of_mem _ hy, e2⟩
theorem goW_inr : ∀ (l : List (Nat × List UInt8)) (s s' : PSt), goW s l = .inr s' → runW s l = some s' := by
  intro l
  induction l with
  | nil => intro s s' h; unfold goW at h; injection h with h; subst h; rfl
  | cons x r ih =>
    intro s s' h
    unfold goW at h
    show (s.word x.2).bind _ = some s'
    cases e : s.word x.2 with
    | none => rw [e] at h; cases h
    | some s1 => rw [e] at h; exact ih s1 s' h
/-- so much of the path k words can make -/
def Few (s : PSt) (k : Nat) : Prop := s.now ≤ 5 ∧ s.vb.length ≤ k ∧ 2 * s.pt.length + s.left % 2 ≤ k
theorem num_few (s : PSt) (n : Int) (k : Nat) (hl : 0 < s.left) (h : Few s k) (hv : s.vb.length ≤ k + 1) : Few (s.num n) (k + 1) := by
  obtain ⟨h1, h2, h3⟩ := h
  unfold PSt.num
  by_cases e : (s.left - 1) % 2 = 1
  · rw [if_pos e]
    refine ⟨h1, hv, ?_⟩
    show 2 * s.pt.length + (s.left - 1) % 2 ≤ k + 1
    omega
  · rw [if_neg e]
    refine ⟨h1, hv, ?_⟩
    show 2 * (s.pt ++ [(s.x, n)]).length + (s.left - 1) % 2 ≤ k + 1
    rw [List.length_append]
    simp only [List.length_cons, List.length_nil]
    omega
theorem vrb_le5 (w : List UInt8) : vrb w ≤ 5 := by unfold vrb; repeat (first | split | decide)
theorem word_few (s s' : PSt) (w : List UInt8) (k : Nat) (h : Few s k) (e : s.word w = some s') : Few s' (k + 1) := by
  obtain ⟨h1, h2, h3⟩ := h
  unfold PSt.word at e
  split at e
  · rename_i hl
    cases p : ps w with
    | none => rw [p] at e; cases e
    | some n =>
      rw [p] at e
      obtain rfl := Option.some.inj e
      exact num_few s n k hl ⟨h1, h2, h3⟩ (by omega)
  · split at e
    · obtain rfl := Option.some.inj e
      refine ⟨vrb_le5 w, ?_, ?_⟩
      · show (s.vb ++ [_]).length ≤ k + 1
        rw [List.length_append]
        simp only [List.length_cons, List.length_nil]
        omega
      · show 2 * s.pt.length + 2 * tkN (vrb w) % 2 ≤ k + 1
        omega
    · split at e
      · cases e
      · rename_i hl _ hn
        cases p : ps w with
        | none => rw [p] at e; cases e
        | some n =>
          rw [p] at e
          obtain rfl := Option.some.inj e
          obtain ⟨v, hv⟩ : ∃ v, v = (if s.now = 1 then 2 else s.now) := ⟨_, rfl⟩
          have hv5 : v = 2 ∨ v = 3 ∨ v = 4 := by rw [hv]; split <;> omega
          rw [← hv]
          have ht : 1 ≤ tkN v := by rcases hv5 with rfl | rfl | rfl <;> decide
          obtain ⟨T, hT⟩ : ∃ T, T = tkN v := ⟨_, rfl⟩
          rw [← hT] at ht
          have hb : s.begin_ v = { s with vb := s.vb ++ [(v : Int)], now := v, left := 2 * T } := by rw [hT]; rfl
          rw [hb]
          unfold PSt.num
          rw [if_pos (show (2 * T - 1) % 2 = 1 by omega)]
          refine ⟨by show v ≤ 5; omega, ?_, ?_⟩
          · show (s.vb ++ [(v : Int)]).length ≤ k + 1
            rw [List.length_append]
            simp only [List.length_cons, List.length_nil]
            omega
          · show 2 * s.pt.length + (2 * T - 1) % 2 ≤ k + 1
            omega
theorem run_few : ∀ (l : List (Nat × List UInt8)) (s s' : PSt) (k : Nat), Few s k → runW s l = some s' → Few s' (k + l.length) := by
  intro l
  induction l with
  | nil => intro s s' k h e; obtain rfl := Option.some.inj e; exact h
  | cons x r ih =>
    intro s s' k h e
    have e' : (s.word x.2).bind (fun a => runW a r) = some s' := e
    cases e1 : s.word x.2 with
    | none => rw [e1] at e'; cases e'
    | some s1 =>
      rw [e1] at e'
      have := ih s1 s' (k + 1) (word_few s s1 x.2 k h e1) e'
      rw [List.length_cons, show k + (r.length + 1) = k + 1 + r.length by omega]
      exact this
/-- what is parsed: a path that may be printed, of no more words; or no path, and a place in the text -/
theorem spR_facts (l : List UInt8) : ((spR l).2.2.2 = 0 → chk (spR l).1 (spR l).2.1 = 0 ∧ (spR l).2.2.1 = 0 ∧ 2 * (spR l).1.length ≤ l.length + 1 ∧ 4 * (spR l).2.1.length ≤ l.length + 1) ∧
    ((spR l).2.2.2 ≠ 0 → (spR l).1 = [] ∧ (spR l).2.1 = [] ∧ 0 ≤ (spR l).2.2.1 ∧ (spR l).2.2.1 ≤ (l.length : Int)) := by
  obtain ⟨w1, w2⟩ := wds_few l.length l 0 (Nat.le_refl _)
  cases e : goW PSt.zero (wds 0 l) with
  | inl k =>
    have eR : spR l = ([], [], (k : Int), 80) := by unfold spR; rw [e]
    rw [eR]
    obtain ⟨x, hx, rfl⟩ := goW_inl _ _ _ e
    have := w1 x hx
    refine ⟨fun h => absurd (show (80 : Int) = 0 from h) (by decide), fun _ => ⟨rfl, rfl, ?_, ?_⟩⟩
    · show (0 : Int) ≤ (x.1 : Int); omega
    · show (x.1 : Int) ≤ _; omega
  | inr s =>
    have eR : spR l = (if 0 < s.left then ([], [], (l.length : Int), 80) else if chk s.vb s.pt ≠ 0 then ([], [], 0, chk s.vb s.pt) else (s.vb, s.pt, 0, 0)) := by unfold spR; rw [e]
    rw [eR]
    have hf := run_few _ _ _ 0 (show Few PSt.zero 0 from ⟨by decide, by decide, by decide⟩) (goW_inr _ _ _ e)
    obtain ⟨_, f1, f2⟩ := hf
    by_cases hl : 0 < s.left
    · rw [if_pos hl]
      exact ⟨fun h => absurd (show (80 : Int) = 0 from h) (by decide), fun _ => ⟨rfl, rfl, by show (0 : Int) ≤ (l.length : Int); omega, Int.le_refl _⟩⟩
    · rw [if_neg hl]
      by_cases hc : chk s.vb s.pt = 0
      · rw [if_neg (show ¬ chk s.vb s.pt ≠ 0 from fun h => h hc)]
        exact ⟨fun _ => ⟨hc, rfl, by show 2 * s.vb.length ≤ _; omega, by show 4 * s.pt.length ≤ _; omega⟩, fun h => absurd rfl h⟩
      · rw [if_pos hc]
        exact ⟨fun h => absurd h hc, fun _ => ⟨rfl, rfl, Int.le_refl _, by show (0 : Int) ≤ (l.length : Int); omega⟩⟩
end Go.Proofs.YtjmagehfkcnjjaaGreatDoor
