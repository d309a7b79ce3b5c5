/-
  Plain: blanks more between the words of a text change nothing.
-/
import Derived.Test.YtjmagehfkcnjjaaGreatDoorSPK
namespace Go.Proofs.YtjmagehfkcnjjaaGreatDoor
set_option linter.unusedVariables false

/-- the words, without their places -/
def ws (l : List UInt8) : List (List UInt8) := (wds 0 l).map (·.2)
theorem wds_snd : ∀ (n : Nat) (l : List UInt8) (k : Nat), l.length ≤ n → (wds k l).map (·.2) = ws l := by
  intro n
  induction n with
  | zero =>
    intro l k h
    obtain rfl : l = [] := List.length_eq_zero_iff.1 (by omega)
    unfold ws
    rw [wds_nil, wds_nil]
  | succ n ih =>
    intro l k h
    by_cases h0 : l = []
    · subst h0; unfold ws; rw [wds_nil, wds_nil]
    · have hl : 1 ≤ l.length := by
        cases l with
        | nil => exact absurd rfl h0
        | cons _ _ => rw [List.length_cons]; omega
      have hd : (l.drop ((wrd l).length + 1)).length ≤ n := by rw [List.length_drop]; omega
      unfold ws
      rw [wds_ne k l h0, wds_ne 0 l h0, List.map_append, List.map_append, ih _ _ hd, ih _ _ hd]
      split <;> rfl
theorem ws_nil : ws [] = [] := by unfold ws; rw [wds_nil]; rfl
theorem ws_ne (l : List UInt8) (h : l ≠ []) : ws l = (if wrd l = [] then [] else [wrd l]) ++ ws (l.drop ((wrd l).length + 1)) := by
  have e : ws l = (wds 0 l).map (·.2) := rfl
  rw [e, wds_ne 0 l h, List.map_append, wds_snd _ _ _ (Nat.le_refl _)]
  split <;> rfl
theorem ws_blank (b : UInt8) (r : List UInt8) (h : isB b = true) : ws (b :: r) = ws r := by
  rw [ws_ne _ (by simp), wrd_blank b r h, if_pos rfl]
  rfl
theorem wrd_sep2 (w r : List UInt8) (b : UInt8) (hb : isB b = true) (h : ∀ b ∈ w, isB b = false) : wrd (w ++ b :: r) = w := by
  unfold wrd
  rw [List.takeWhile_append_of_pos (fun b hb => by rw [h b hb]; rfl), List.takeWhile_cons_of_neg (by rw [hb]; decide), List.append_nil]
theorem wrd_all (l : List UInt8) (h : (wrd l).length = l.length) : wrd l = l ∧ ∀ b ∈ l, isB b = false := by
  have e := wrd_take l
  rw [h, List.take_length] at e
  refine ⟨e.symm, fun b hb => ?_⟩
  rw [e] at hb
  have := List.all_eq_true.1 (List.all_takeWhile (p := fun b : UInt8 => !isB b) (l := l)) b hb
  simpa using this
theorem wrd_in (l r : List UInt8) (h : (wrd l).length < l.length) : wrd (l ++ r) = wrd l := by
  unfold wrd at h ⊢
  have e : l.takeWhile (fun b => !isB b) ++ l.dropWhile (fun b => !isB b) = l := List.takeWhile_append_dropWhile
  cases hd : l.dropWhile (fun b => !isB b) with
  | nil => rw [hd, List.append_nil] at e; rw [e] at h; omega
  | cons c d =>
    have hc := List.head_dropWhile_not (p := fun b : UInt8 => !isB b) (l := l) (by rw [hd]; simp)
    simp only [hd, List.head_cons] at hc
    rw [hd] at e
    have hp : ∀ b ∈ l.takeWhile (fun b => !isB b), (!isB b) = true := fun b hb => List.all_eq_true.1 (List.all_takeWhile (p := fun b : UInt8 => !isB b) (l := l)) b hb
    conv => lhs; rw [← e, List.append_assoc, List.takeWhile_append_of_pos hp, List.cons_append, List.takeWhile_cons_of_neg (by rw [hc]; decide), List.append_nil]
/-- words ahead of a blank, and behind it -/
theorem ws_app : ∀ (n : Nat) (l r : List UInt8) (b : UInt8), l.length ≤ n → isB b = true → ws (l ++ b :: r) = ws l ++ ws r := by
  intro n
  induction n with
  | zero =>
    intro l r b h hb
    obtain rfl : l = [] := List.length_eq_zero_iff.1 (by omega)
    rw [List.nil_append, ws_blank b r hb, ws_nil, List.nil_append]
  | succ n ih =>
    intro l r b h hb
    by_cases h0 : l = []
    · subst h0; rw [List.nil_append, ws_blank b r hb, ws_nil, List.nil_append]
    · have hl : 1 ≤ l.length := by
        cases l with
        | nil => exact absurd rfl h0
        | cons _ _ => rw [List.length_cons]; omega
      have hw := wrd_len l
      rw [ws_ne (l ++ b :: r) (by simp), ws_ne l h0]
      by_cases he : (wrd l).length = l.length
      · obtain ⟨e1, e2⟩ := wrd_all l he
        rw [wrd_sep2 l r b hb e2, e1, if_neg h0, List.drop_eq_nil_of_le (show l.length ≤ l.length + 1 by omega), ws_nil, List.append_nil]
        have : (l ++ b :: r).drop (l.length + 1) = r := by rw [← List.drop_drop]; simp
        rw [this]
      · rw [wrd_in l (b :: r) (by omega)]
        have : (l ++ b :: r).drop ((wrd l).length + 1) = l.drop ((wrd l).length + 1) ++ b :: r := List.drop_append_of_le_length (by omega)
        rw [this, ih _ r b (by rw [List.length_drop]; omega) hb, List.append_assoc]
theorem ws_at (l r : List UInt8) (b : UInt8) (hb : isB b = true) : ws (l ++ b :: r) = ws l ++ ws r := ws_app l.length l r b (Nat.le_refl _) hb
/-- what the law sets behind a blank -/
def sepB (m : Int) : List UInt8 := if m = 0 then [9] else if m = 1 then [10, 32] else if m = 2 then [44] else if m = 3 then [13, 10] else [32, 32]
theorem sep_ws (m : Int) (c : List UInt8) : ws (sepB m ++ c) = ws c := by
  have h : ∀ a b : UInt8, isB a = true → isB b = true → ws ([a, b] ++ c) = ws c := fun a b ha hb => by
    show ws (a :: b :: c) = _
    rw [ws_blank a _ ha, ws_blank b _ hb]
  unfold sepB
  split
  · exact ws_blank 9 c (by decide)
  · split
    · exact h 10 32 (by decide) (by decide)
    · split
      · exact ws_blank 44 c (by decide)
      · split
        · exact h 13 10 (by decide) (by decide)
        · exact h 32 32 (by decide) (by decide)
theorem sep_len (m : Int) : (sepB m).length ≤ 2 := by unfold sepB; repeat (first | split | decide)
/-- one byte more of the text -/
def stepB (by_ : List Int) (st : List UInt8 × Nat) (b : UInt8) : List UInt8 × Nat :=
  if b = 32 ∧ st.2 < by_.length then (st.1 ++ [b] ++ sepB ((by_[st.2]?.getD 0) % 5), st.2 + 1) else (st.1 ++ [b], st.2)
def blS (by_ : List Int) (s : List UInt8) : List UInt8 × Nat := s.foldl (stepB by_) ([32, 44], 0)
theorem blS_snoc (by_ : List Int) (s : List UInt8) (b : UInt8) : blS by_ (s ++ [b]) = stepB by_ (blS by_ s) b := by
  unfold blS
  rw [List.foldl_append]
  rfl
theorem blS_ws (by_ : List Int) (n : Nat) : ∀ (s c : List UInt8), s.length = n → ws ((blS by_ s).1 ++ c) = ws (s ++ c) := by
  induction n with
  | zero =>
    intro s c h
    obtain rfl : s = [] := List.length_eq_zero_iff.1 h
    show ws (32 :: 44 :: c) = ws c
    rw [ws_blank 32 _ (by decide), ws_blank 44 _ (by decide)]
  | succ n ih =>
    intro s c h
    obtain ⟨r, b, rfl⟩ : ∃ r b, s = r ++ [b] := ⟨s.dropLast, s.getLast (by intro k; rw [k] at h; cases h), (List.dropLast_concat_getLast _).symm⟩
    have hr : r.length = n := by rw [List.length_append] at h; simpa using h
    rw [blS_snoc]
    unfold stepB
    split
    · rename_i hc
      obtain ⟨rfl, _⟩ := hc
      show ws (((blS by_ r).1 ++ [32] ++ _) ++ c) = _
      rw [List.append_assoc, List.append_assoc, ih r _ hr]
      show ws (r ++ 32 :: (_ ++ c)) = ws ((r ++ [32]) ++ c)
      rw [ws_at r _ 32 (by decide), sep_ws, List.append_assoc]
      exact (ws_at r c 32 (by decide)).symm
    · show ws (((blS by_ r).1 ++ [b]) ++ c) = _
      rw [List.append_assoc, List.append_assoc, ih r _ hr]
theorem blS_len (by_ : List Int) (s : List UInt8) : (blS by_ s).1.length ≤ 2 + 3 * s.length ∧ (blS by_ s).2 ≤ s.length := by
  have key : ∀ n (s : List UInt8), s.length = n → (blS by_ s).1.length ≤ 2 + 3 * s.length ∧ (blS by_ s).2 ≤ s.length := by
    intro n
    induction n with
    | zero =>
      intro s h
      obtain rfl : s = [] := List.length_eq_zero_iff.1 h
      exact ⟨Nat.le_refl 2, Nat.le_refl 0⟩
    | succ n ih =>
      intro s h
      obtain ⟨r, b, rfl⟩ : ∃ r b, s = r ++ [b] := ⟨s.dropLast, s.getLast (by intro k; rw [k] at h; cases h), (List.dropLast_concat_getLast _).symm⟩
      have hr : r.length = n := by rw [List.length_append] at h; simpa using h
      obtain ⟨i1, i2⟩ := ih r hr
      rw [blS_snoc, List.length_append, List.length_cons, List.length_nil]
      unfold stepB
      split
      · have hs := sep_len ((by_[(blS by_ r).2]?.getD 0) % 5)
        refine ⟨?_, ?_⟩
        · show ((blS by_ r).1 ++ [b] ++ _).length ≤ _
          rw [List.length_append, List.length_append, List.length_cons, List.length_nil]
          omega
        · show (blS by_ r).2 + 1 ≤ _; omega
      · refine ⟨?_, ?_⟩
        · show ((blS by_ r).1 ++ [b]).length ≤ _
          rw [List.length_append, List.length_cons, List.length_nil]
          omega
        · show (blS by_ r).2 ≤ _; omega
  exact key _ s rfl
/-- the state behind words, places apart -/
theorem runW_snd : ∀ (l m : List (Nat × List UInt8)) (s : PSt), l.map (·.2) = m.map (·.2) → runW s l = runW s m := by
  intro l
  induction l with
  | nil =>
    intro m s h
    cases m with
    | nil => rfl
    | cons _ _ => cases h
  | cons x r ih =>
    intro m s h
    cases m with
    | nil => cases h
    | cons y t =>
      simp only [List.map_cons, List.cons.injEq] at h
      show (s.word x.2).bind _ = (s.word y.2).bind _
      rw [h.1]
      cases s.word y.2 with
      | none => rfl
      | some s' => exact ih t s' h.2
theorem spR_blanks (by_ : List Int) (s : List UInt8) (h : (spR s).2.2.2 = 0) : spR ((blS by_ s).1 ++ [10, 44]) = ((spR s).1, (spR s).2.1, 0, 0) := by
  have hw : ws ((blS by_ s).1 ++ [10, 44]) = ws s := by
    rw [blS_ws by_ _ s [10, 44] rfl]
    show ws (s ++ 10 :: [44]) = _
    rw [ws_at s [44] 10 (by decide), ws_blank 44 [] (by decide), ws_nil, List.append_nil]
  cases e : goW PSt.zero (wds 0 s) with
  | inl k =>
    have eR : spR s = ([], [], (k : Int), 80) := by unfold spR; rw [e]
    rw [eR] at h
    exact absurd (show (80 : Int) = 0 from h) (by decide)
  | inr t =>
    have eR : spR s = (if 0 < t.left then ([], [], (s.length : Int), 80) else if chk t.vb t.pt ≠ 0 then ([], [], 0, chk t.vb t.pt) else (t.vb, t.pt, 0, 0)) := by unfold spR; rw [e]
    have hr : runW PSt.zero (wds 0 ((blS by_ s).1 ++ [10, 44])) = some t := by
      rw [runW_snd _ (wds 0 s) _ hw]
      exact goW_inr _ _ _ e
    have e2 := goW_all _ _ _ hr
    by_cases hl : 0 < t.left
    · rw [eR, if_pos hl] at h
      exact absurd (show (80 : Int) = 0 from h) (by decide)
    · rw [if_neg hl] at eR
      by_cases hc : chk t.vb t.pt = 0
      · rw [if_neg (fun k => k hc)] at eR
        rw [eR]
        unfold spR
        rw [e2]
        show (if 0 < t.left then _ else if chk t.vb t.pt ≠ 0 then _ else _) = _
        rw [if_neg hl, if_neg (fun k => k hc)]
      · rw [if_pos hc] at eR
        rw [eR] at h
        exact absurd h hc
end Go.Proofs.YtjmagehfkcnjjaaGreatDoor
