/-
  Plain: a word that is wrong, laid between the words that are printed of a path, is told by its place.
-/
import Derived.Test.YtjmagehfkcnjjaaDoorSPP
namespace Go.Proofs.YtjmagehfkcnjjaaDoor
set_option linter.unusedVariables false

/-- words, a blank behind each -/
def pre (ws : List (List UInt8)) : List UInt8 := ws.flatMap fun w => w ++ [32]
theorem pre_len (ws : List (List UInt8)) : (pre ws).length = wlen ws := by
  induction ws with
  | nil => rfl
  | cons w r ih =>
    show ((w ++ [32]) ++ pre r).length = w.length + 1 + wlen r
    rw [List.length_append, ih, List.length_append]; rfl
theorem joinB_app (a b : List (List UInt8)) (hb : b ≠ []) : joinB (a ++ b) = pre a ++ joinB b := by
  induction a with
  | nil => rfl
  | cons w r ih =>
    rw [List.cons_append, joinB_cons w (r ++ b) (by intro h; exact hb (List.append_eq_nil_iff.1 h).2), ih]
    show _ = ((w ++ [32]) ++ pre r) ++ joinB b
    simp
theorem joinB_pre (a : List (List UInt8)) (h : a ≠ []) : joinB a ++ [32] = pre a := by
  induction a with
  | nil => exact absurd rfl h
  | cons w r ih =>
    by_cases hr : r = []
    · subst hr; show w ++ [32] = (w ++ [32]) ++ []; simp
    · rw [joinB_cons w r hr]
      show _ = (w ++ [32]) ++ pre r
      rw [← ih hr]
      simp
/-- the place behind the next blank -/
def nxt (s : List UInt8) (p : Nat) : Nat := p + ((s.drop p).takeWhile (· != 32)).length + 1
def placeN (s : List UInt8) : Nat → Nat
  | 0 => 0
  | i + 1 => nxt s (placeN s i)
theorem no32 {w : List UInt8} (h : Word w) : ∀ b ∈ w, (b != 32) = true := by
  intro b hb
  have := h.2 b hb
  rw [bne_iff_ne]
  rintro rfl
  exact absurd this (by decide)
theorem tw_word (w r : List UInt8) (h : Word w) : (w ++ 32 :: r).takeWhile (· != 32) = w := by
  rw [List.takeWhile_append_of_pos (no32 h), List.takeWhile_cons_of_neg (by decide), List.append_nil]
theorem tw_self (w : List UInt8) (h : Word w) : w.takeWhile (· != 32) = w := by
  have := List.takeWhile_append_of_pos (p := fun b : UInt8 => b != 32) (l₁ := w) (l₂ := []) (no32 h)
  simpa using this
theorem joinB_drop (ws : List (List UInt8)) (i : Nat) (h : i < ws.length) : (joinB ws).take (wlen (ws.take i)) = pre (ws.take i) ∧ (joinB ws).drop (wlen (ws.take i)) = joinB (ws.drop i) := by
  have e : joinB ws = pre (ws.take i) ++ joinB (ws.drop i) := by
    rw [← joinB_app _ _ (by intro k; have := congrArg List.length k; rw [List.length_drop] at this; simp at this; omega), List.take_append_drop]
  have hl := pre_len (ws.take i)
  refine ⟨?_, ?_⟩
  · rw [e, ← hl, List.take_left]
  · rw [e, ← hl, List.drop_left]
theorem placeN_join (ws : List (List UInt8)) (hw : ∀ w ∈ ws, Word w) : ∀ i, i ≤ ws.length → placeN (joinB ws) i = wlen (ws.take i) := by
  intro i
  induction i with
  | zero => intro _; rfl
  | succ i ih =>
    intro h
    show nxt (joinB ws) (placeN (joinB ws) i) = _
    rw [ih (by omega)]
    unfold nxt
    rw [(joinB_drop ws i (by omega)).2]
    have hget : ws[i]? = some ws[i] := List.getElem?_eq_getElem (by omega)
    have hd : ws.drop i = ws[i] :: ws.drop (i + 1) := List.drop_eq_getElem_cons (by omega)
    have hwi := hw ws[i] (List.getElem_mem (by omega))
    have ht : ((joinB (ws.drop i)).takeWhile (· != 32)) = ws[i] := by
      rw [hd]
      by_cases hr : ws.drop (i + 1) = []
      · rw [hr]; exact tw_self _ hwi
      · rw [joinB_cons _ _ hr]; exact tw_word _ _ hwi
    rw [ht]
    have wl : ∀ a : List (List UInt8), ∀ w, wlen (a ++ [w]) = wlen a + w.length + 1 := by
      intro a w
      induction a with
      | nil => show w.length + 1 + 0 = 0 + w.length + 1; omega
      | cons v r ih => show v.length + 1 + wlen (r ++ [w]) = v.length + 1 + wlen r + w.length + 1; rw [ih]; omega
    rw [List.take_add_one, hget, Option.toList_some, wl]
theorem wlen_take (ws : List (List UInt8)) (i : Nat) : wlen (ws.take i) ≤ wlen ws := by
  have wa : ∀ a b : List (List UInt8), wlen (a ++ b) = wlen a + wlen b := by
    intro a b
    induction a with
    | nil => show wlen b = 0 + wlen b; omega
    | cons v r ih => show v.length + 1 + wlen (r ++ b) = v.length + 1 + wlen r + wlen b; rw [ih]; omega
  have h := wa (ws.take i) (ws.drop i)
  rw [List.take_append_drop] at h
  omega
/-- the text with a wrong word in it -/
def badT (s bad : List UInt8) (p : Nat) : List UInt8 := if s.length < p then s ++ 32 :: bad else s.take p ++ (bad ++ 32 :: s.drop p)
theorem wds_bad (ws : List (List UInt8)) (bad : List UInt8) (n : Nat) (hw : ∀ w ∈ ws, Word w) (hb : Word bad) (hn : n ≤ ws.length) :
    wds 0 (badT (joinB ws) bad (wlen (ws.take n))) = placed 0 (ws.take n ++ bad :: ws.drop n) := by
  have hall : ∀ w ∈ ws.take n ++ bad :: ws.drop n, Word w := by
    intro w h
    rcases List.mem_append.1 h with h | h
    · exact hw w (List.mem_of_mem_take h)
    · rcases List.mem_cons.1 h with rfl | h
      · exact hb
      · exact hw w (List.mem_of_mem_drop h)
  by_cases he : ws = []
  · subst he
    have hn0 : n = 0 := by simpa using hn
    subst hn0
    show wds 0 (badT [] bad 0) = [(0, bad)]
    unfold badT
    rw [if_neg (by simp)]
    show wds 0 ([] ++ (bad ++ [32])) = _
    rw [List.nil_append, wds_ne 0 (bad ++ [32]) (by simp), wrd_app bad [] hb.2, if_neg hb.1, List.drop_eq_nil_of_le (by simp), wds_nil]
    rfl
  · rw [← wds_join _ 0 hall]
    congr 1
    have hl := joinB_len ws
    have h1 : 1 ≤ wlen ws := by
      cases ws with
      | nil => exact absurd rfl he
      | cons _ _ => show 1 ≤ _ + 1 + _; omega
    unfold badT
    by_cases hlt : n < ws.length
    · obtain ⟨t1, t2⟩ := joinB_drop ws n hlt
      have hle : wlen (ws.take n) ≤ (joinB ws).length := by
        have := congrArg List.length t1
        rw [List.length_take, pre_len] at this
        omega
      have hdn : ws.drop n ≠ [] := fun k => by have := congrArg List.length k; rw [List.length_drop] at this; simp at this; omega
      rw [if_neg (by omega), t1, t2, joinB_app _ _ (by simp), joinB_cons _ _ hdn]
    · have hn' : n = ws.length := by omega
      subst hn'
      rw [List.take_length, List.drop_length, if_pos (by omega), joinB_app _ _ (by simp), ← joinB_pre ws he]
      show _ = joinB ws ++ [32] ++ bad
      simp
theorem runW_pre (s : PSt) (l : List (Nat × List UInt8)) (n : Nat) (s' : PSt) (h : runW s l = some s') : ∃ s1, runW s (l.take n) = some s1 := by
  have e := runW_app (l.take n) (l.drop n) s
  rw [List.take_append_drop, h] at e
  cases h1 : runW s (l.take n) with
  | none => rw [h1] at e; cases e
  | some s1 => exact ⟨s1, rfl⟩
/-- the words that the law takes -/
def Bad (bad : List UInt8) : Prop := bad = [120] ∨ bad = [49, 46, 46] ∨ bad = [76, 76]
theorem bad_word {bad : List UInt8} (h : Bad bad) : Word bad ∧ ps bad = none ∧ vrb bad = 0 ∧ bad.length ≤ 3 ∧ ∀ b ∈ bad, b.toNat < 128 := by
  rcases h with rfl | rfl | rfl
  · exact ⟨⟨by decide, by decide⟩, by decide, by decide, by decide, by decide⟩
  · exact ⟨⟨by decide, by decide⟩, by decide, by decide, by decide, by decide⟩
  · exact ⟨⟨by decide, by decide⟩, by decide, by decide, by decide, by decide⟩
theorem bad_none {bad : List UInt8} (h : Bad bad) (s : PSt) : s.word bad = none := by
  obtain ⟨_, h1, h2, _⟩ := bad_word h
  unfold PSt.word
  rw [h1, h2]
  split
  · rfl
  · rw [if_neg (by decide)]
    split <;> rfl
theorem spR_bad (vs : List Int) (pts : List (Int × Int)) (hc : chk vs pts = 0) (bad : List UInt8) (hb : Bad bad) (n : Nat) (hn : n ≤ (pwords vs pts).length) :
    spR (badT (joinB (pwords vs pts)) bad (placeN (joinB (pwords vs pts)) n)) = ([], [], (placeN (joinB (pwords vs pts)) n : Int), 80) := by
  obtain ⟨_, gv, gt, gf⟩ := chk_ok hc
  have hw : ∀ w ∈ pwords vs pts, Word w := fun w hw => (pwords_pw vs pts gv gf w hw).1
  obtain ⟨s', e1, _⟩ := run_pwords vs pts 0 PSt.zero gv gt gf rfl
  rw [placeN_join _ hw n hn]
  unfold spR
  rw [wds_bad _ bad n hw (bad_word hb).1 hn, placed_app]
  obtain ⟨s1, f1⟩ := runW_pre _ _ n _ e1
  rw [placed_take] at f1
  have hl : (placed 0 ((pwords vs pts).take n)).length = n := by rw [placed_len, List.length_take]; omega
  rw [goW_bad _ PSt.zero s1 n (0 + wlen ((pwords vs pts).take n), bad) ?_ ?_ (bad_none hb s1)]
  · simp
  · rw [List.getElem?_append_right (by omega), hl, Nat.sub_self]; rfl
  · rw [List.take_append_of_le_length (by omega), List.take_of_length_le (by omega)]; exact f1
theorem wds_bad_len (vs : List Int) (pts : List (Int × Int)) (hc : chk vs pts = 0) (bad : List UInt8) (hb : Bad bad) (n : Nat) (hn : n ≤ (pwords vs pts).length) :
    (wds 0 (badT (joinB (pwords vs pts)) bad (placeN (joinB (pwords vs pts)) n))).length = (pwords vs pts).length + 1 := by
  obtain ⟨_, gv, gt, gf⟩ := chk_ok hc
  have hw : ∀ w ∈ pwords vs pts, Word w := fun w hw => (pwords_pw vs pts gv gf w hw).1
  rw [placeN_join _ hw n hn, wds_bad _ bad n hw (bad_word hb).1 hn, placed_len, List.length_append, List.length_cons, List.length_take, List.length_drop]
  omega
end Go.Proofs.YtjmagehfkcnjjaaDoor
