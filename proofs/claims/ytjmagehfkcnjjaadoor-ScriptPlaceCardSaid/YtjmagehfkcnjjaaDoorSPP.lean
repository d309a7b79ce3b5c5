/-
  Plain: the words that are printed of a path are read as that path again, and the first ones of them are not refused.
-/
import Derived.Test.YtjmagehfkcnjjaaDoorSX
import Derived.Test.YtjmagehfkcnjjaaDoorSYP
namespace Go.Proofs.YtjmagehfkcnjjaaDoor
set_option linter.unusedVariables false

theorem runW_app (l m : List (Nat × List UInt8)) : ∀ s, runW s (l ++ m) = (runW s l).bind fun s' => runW s' m := by
  induction l with
  | nil => intro s; rfl
  | cons x r ih =>
    intro s
    show (s.word x.2).bind _ = ((s.word x.2).bind _).bind _
    cases s.word x.2 with
    | none => rfl
    | some s' => exact ih s'
/-- how long words are, each with a blank behind it -/
def wlen : List (List UInt8) → Nat
  | [] => 0
  | w :: r => w.length + 1 + wlen r
theorem placed_app (a b : List (List UInt8)) : ∀ k, placed k (a ++ b) = placed k a ++ placed (k + wlen a) b := by
  induction a with
  | nil => intro k; rfl
  | cons w r ih =>
    intro k
    show (k, w) :: placed (k + w.length + 1) (r ++ b) = (k, w) :: (placed (k + w.length + 1) r ++ placed (k + (w.length + 1 + wlen r)) b)
    rw [ih, show k + w.length + 1 + wlen r = k + (w.length + 1 + wlen r) by omega]
theorem placed_len (a : List (List UInt8)) : ∀ k, (placed k a).length = a.length := by
  induction a with
  | nil => intro k; rfl
  | cons w r ih => intro k; show (placed _ r).length + 1 = r.length + 1; rw [ih]
theorem placed_take (a : List (List UInt8)) (n : Nat) (k : Nat) : (placed k a).take n = placed k (a.take n) := by
  have h := placed_app (a.take n) (a.drop n) k
  rw [List.take_append_drop] at h
  rw [h]
  by_cases hn : n ≤ a.length
  · have hl : (placed k (a.take n)).length = n := by rw [placed_len, List.length_take]; omega
    rw [List.take_append_of_le_length (by omega), List.take_of_length_le (by omega)]
  · rw [List.drop_eq_nil_of_le (by omega), List.take_of_length_le (show a.length ≤ n by omega)]
    rw [List.take_of_length_le (by rw [List.length_append, placed_len]; simp [placed]; omega)]
    simp [placed]
theorem ps_prn (n : Int) (h : -1099511627776 ≤ n ∧ n ≤ 1099511627776) : ps (prn n) = some n := by
  rw [prn_nrt]
  have e := ps_nrt n.natAbs 0 0 (decide (n < 0)) (by omega) (by decide) (by decide)
  rw [e]
  by_cases hn : n < 0
  · simp only [hn, decide_true, if_true, Option.some.injEq]; omega
  · simp only [hn, decide_false, Bool.false_eq_true, if_false, Option.some.injEq]; omega
theorem run_ptW : ∀ (l : List (Int × Int)) (k : Nat) (s : PSt), (∀ q ∈ l, farB q = false) → s.left = 2 * l.length →
    ∃ s', runW s (placed k (ptW l)) = some s' ∧ s'.vb = s.vb ∧ s'.pt = s.pt ++ l ∧ s'.left = 0 ∧ s'.now = s.now := by
  intro l
  induction l with
  | nil => intro k s _ h; exact ⟨s, rfl, rfl, by simp, by simpa using h, rfl⟩
  | cons q r ih =>
    intro k s hf hl
    obtain ⟨h1, h2⟩ := farB_no (hf q (List.mem_cons_self ..))
    rw [List.length_cons] at hl
    have w1 : s.word (prn q.1) = some { s with left := s.left - 1, x := q.1 } := by
      unfold PSt.word
      rw [if_pos (by omega), ps_prn _ (by omega)]
      show some (s.num q.1) = _
      unfold PSt.num
      rw [if_pos (by omega)]
    have w2 : ({ s with left := s.left - 1, x := q.1 } : PSt).word (prn q.2) = some { s with left := s.left - 1 - 1, x := q.1, pt := s.pt ++ [q] } := by
      unfold PSt.word
      rw [if_pos (show 0 < s.left - 1 by omega), ps_prn _ (by omega)]
      show some (PSt.num _ q.2) = _
      unfold PSt.num
      rw [if_neg (show ¬ (s.left - 1 - 1) % 2 = 1 by omega)]
    obtain ⟨s', e1, e2, e3, e4, e5⟩ := ih (k + (prn q.1).length + 1 + (prn q.2).length + 1) ({ s with left := s.left - 1 - 1, x := q.1, pt := s.pt ++ [q] } : PSt) (fun u hu => hf u (List.mem_cons_of_mem _ hu)) (show s.left - 1 - 1 = 2 * r.length by omega)
    refine ⟨s', ?_, e2, by rw [e3]; simp, e4, e5⟩
    show (s.word (prn q.1)).bind (fun a => (a.word (prn q.2)).bind fun b => runW b (placed _ (ptW r))) = some s'
    rw [w1]
    show ((PSt.word _ (prn q.2)).bind fun b => runW b (placed _ (ptW r))) = some s'
    rw [w2]
    exact e1
theorem lett_vrb (v : Int) (h : 1 ≤ v ∧ v ≤ 5) : (vrb [lett v] : Int) = v ∧ 0 < vrb [lett v] ∧ tkN (vrb [lett v]) = tkI v := by
  rcases (show v = 1 ∨ v = 2 ∨ v = 3 ∨ v = 4 ∨ v = 5 by omega) with rfl | rfl | rfl | rfl | rfl <;> exact ⟨by decide, by decide, by decide⟩
theorem run_pwords : ∀ (vs : List Int) (pts : List (Int × Int)) (k : Nat) (s : PSt), (∀ v ∈ vs, 1 ≤ v ∧ v ≤ 5) → tot vs = pts.length → (∀ q ∈ pts, farB q = false) → s.left = 0 →
    ∃ s', runW s (placed k (pwords vs pts)) = some s' ∧ s'.vb = s.vb ++ vs ∧ s'.pt = s.pt ++ pts ∧ s'.left = 0 := by
  intro vs
  induction vs with
  | nil =>
    intro pts k s _ ht _ h
    have hp : pts = [] := List.length_eq_zero_iff.1 ht.symm
    exact ⟨s, rfl, by simp, by simp [hp], h⟩
  | cons v r ih =>
    intro pts k s hv ht hf hl
    have hv1 := hv v (List.mem_cons_self ..)
    obtain ⟨l1, l2, l3⟩ := lett_vrb v hv1
    have e0 : tot (v :: r) = tkI v + tot r := by simp [tot]
    rw [e0] at ht
    have hw : s.word [lett v] = some (s.begin_ (vrb [lett v])) := by
      unfold PSt.word
      rw [if_neg (by omega), if_pos l2]
    have hl1 : (pts.take (tkI v)).length = tkI v := by rw [List.length_take]; omega
    obtain ⟨s1, e1, e2, e3, e4, e5⟩ := run_ptW (pts.take (tkI v)) (k + 1 + 1) (s.begin_ (vrb [lett v])) (fun q hq => hf q (List.mem_of_mem_take hq)) (by rw [hl1, ← l3]; rfl)
    obtain ⟨s2, f1, f2, f3, f4⟩ := ih (pts.drop (tkI v)) (k + 1 + 1 + wlen (ptW (pts.take (tkI v)))) s1 (fun u hu => hv u (List.mem_cons_of_mem _ hu)) (by rw [List.length_drop]; omega) (fun q hq => hf q (List.mem_of_mem_drop hq)) e4
    refine ⟨s2, ?_, ?_, ?_, f4⟩
    · show (s.word [lett v]).bind (fun a => runW a (placed (k + 1 + 1) (ptW (pts.take (tkI v)) ++ pwords r (pts.drop (tkI v))))) = some s2
      rw [hw]
      show runW _ _ = some s2
      rw [placed_app, runW_app, e1]
      exact f1
    · rw [f2, e2]
      show s.vb ++ [(vrb [lett v] : Int)] ++ r = _
      rw [l1]; simp
    · rw [f3, e3, List.append_assoc, List.take_append_drop]
      rfl
/-- the words of a path are no blanks -/
theorem prn_word (n : Int) (h : -9223372036854775808 ≤ n ∧ n ≤ 9223372036854775808) : Word (prn n) ∧ ∀ b ∈ prn n, b.toNat < 128 := by
  obtain ⟨D, G, e, hD, d1, _, dd, _, hG⟩ := prU_facts n.natAbs (by omega)
  have hdg : ∀ b : UInt8, IsDg b → isB b = false ∧ b.toNat < 128 := by
    intro b hb
    unfold IsDg at hb
    refine ⟨?_, by omega⟩
    unfold isB blks
    simp only [List.contains_eq_mem, List.mem_cons, List.not_mem_nil, or_false, decide_eq_false_iff_not]
    rintro (rfl | rfl | rfl | rfl | rfl) <;> exact absurd hb (by decide)
  have hU : ∀ b ∈ prU n.natAbs, isB b = false ∧ b.toNat < 128 := by
    intro b hb
    rw [e] at hb
    rcases List.mem_append.1 hb with hb | hb
    · exact hdg b (dd b hb)
    · by_cases h0 : n.natAbs % 256 = 0
      · rw [if_pos h0] at hb; cases hb
      · rw [if_neg h0] at hb
        rcases List.mem_cons.1 hb with rfl | hb
        · exact ⟨by decide, by decide⟩
        · exact hdg b ((hG h0).2.2.1 b hb)
  have hne : prU n.natAbs ≠ [] := by
    rw [e]; intro k
    have := congrArg List.length k
    rw [List.length_append] at this
    simp only [List.length_nil] at this
    omega
  unfold prn
  by_cases hn : n < 0
  · rw [if_pos hn]
    refine ⟨⟨by simp, fun b hb => ?_⟩, fun b hb => ?_⟩
    · rcases List.mem_cons.1 hb with rfl | hb
      · decide
      · exact (hU b hb).1
    · rcases List.mem_cons.1 hb with rfl | hb
      · decide
      · exact (hU b hb).2
  · rw [if_neg hn]
    exact ⟨⟨hne, fun b hb => (hU b hb).1⟩, fun b hb => (hU b hb).2⟩
theorem prn_len30 (n : Int) (h : -9223372036854775808 ≤ n ∧ n ≤ 9223372036854775808) : (prn n).length ≤ 30 := by
  obtain ⟨D, G, e, hD, d1, d2, dd, _, hG⟩ := prU_facts n.natAbs (by omega)
  have : (prU n.natAbs).length ≤ 29 := by
    rw [e, List.length_append]
    by_cases h0 : n.natAbs % 256 = 0
    · rw [if_pos h0]; simp only [List.length_nil]; omega
    · rw [if_neg h0]
      have := (hG h0).2.1
      rw [List.length_cons]; omega
  unfold prn
  by_cases hn : n < 0
  · rw [if_pos hn, List.length_cons]; omega
  · rw [if_neg hn]; omega
/-- what each word of a path is -/
def PWord (w : List UInt8) : Prop := Word w ∧ (∀ b ∈ w, b.toNat < 128) ∧ w.length ≤ 30
theorem prn_pw (n : Int) (h : -9223372036854775808 ≤ n ∧ n ≤ 9223372036854775808) : PWord (prn n) := ⟨(prn_word n h).1, (prn_word n h).2, prn_len30 n h⟩
theorem lett_pw (v : Int) (h : 1 ≤ v ∧ v ≤ 5) : PWord [lett v] := by
  rcases (show v = 1 ∨ v = 2 ∨ v = 3 ∨ v = 4 ∨ v = 5 by omega) with rfl | rfl | rfl | rfl | rfl <;> exact ⟨⟨by decide, by decide⟩, by decide, by decide⟩
theorem ptW_pw (l : List (Int × Int)) (hf : ∀ q ∈ l, farB q = false) : ∀ w ∈ ptW l, PWord w := by
  intro w hw
  unfold ptW at hw
  obtain ⟨q, hq, hw⟩ := List.mem_flatMap.1 hw
  obtain ⟨h1, h2⟩ := farB_no (hf q hq)
  simp only [List.mem_cons, List.not_mem_nil, or_false] at hw
  rcases hw with rfl | rfl
  · exact prn_pw _ (by omega)
  · exact prn_pw _ (by omega)
theorem pwords_pw : ∀ (vs : List Int) (pts : List (Int × Int)), (∀ v ∈ vs, 1 ≤ v ∧ v ≤ 5) → (∀ q ∈ pts, farB q = false) → ∀ w ∈ pwords vs pts, PWord w := by
  intro vs
  induction vs with
  | nil => intro pts _ _ w hw; cases hw
  | cons v r ih =>
    intro pts hv hf w hw
    rcases List.mem_cons.1 hw with rfl | hw
    · exact lett_pw v (hv v (List.mem_cons_self ..))
    · rcases List.mem_append.1 hw with hw | hw
      · exact ptW_pw _ (fun q hq => hf q (List.mem_of_mem_take hq)) w hw
      · exact ih _ (fun u hu => hv u (List.mem_cons_of_mem _ hu)) (fun q hq => hf q (List.mem_of_mem_drop hq)) w hw
theorem joinB_len : ∀ ws : List (List UInt8), (joinB ws).length = wlen ws - 1 := by
  intro ws
  induction ws with
  | nil => rfl
  | cons w r ih =>
    by_cases hr : r = []
    · subst hr; show w.length = w.length + 1 + 0 - 1; omega
    · rw [joinB_cons w r hr, List.length_append, List.length_cons, ih]
      have : 1 ≤ wlen r := by
        cases r with
        | nil => exact absurd rfl hr
        | cons _ _ => show 1 ≤ _ + 1 + _; omega
      show _ = w.length + 1 + wlen r - 1
      omega
theorem wlen_le (ws : List (List UInt8)) (h : ∀ w ∈ ws, PWord w) : wlen ws ≤ 31 * ws.length := by
  induction ws with
  | nil => decide
  | cons w r ih =>
    have h1 := (h w (List.mem_cons_self ..)).2.2
    have h2 := ih (fun u hu => h u (List.mem_cons_of_mem _ hu))
    show w.length + 1 + wlen r ≤ 31 * (r.length + 1)
    omega
theorem joinB_ascii : ∀ ws : List (List UInt8), (∀ w ∈ ws, ∀ b ∈ w, b.toNat < 128) → ∀ b ∈ joinB ws, b.toNat < 128 := by
  intro ws
  induction ws with
  | nil => intro _ b hb; cases hb
  | cons w r ih =>
    intro h b hb
    by_cases hr : r = []
    · subst hr; exact h w (List.mem_cons_self ..) b hb
    · rw [joinB_cons w r hr] at hb
      rcases List.mem_append.1 hb with hb | hb
      · exact h w (List.mem_cons_self ..) b hb
      · rcases List.mem_cons.1 hb with rfl | hb
        · decide
        · exact ih (fun u hu => h u (List.mem_cons_of_mem _ hu)) b hb
/-- what is printed is parsed back -/
theorem spR_print (vs : List Int) (pts : List (Int × Int)) (h : chk vs pts = 0) : spR (joinB (pwords vs pts)) = (vs, pts, 0, 0) := by
  obtain ⟨_, gv, gt, gf⟩ := chk_ok h
  obtain ⟨s', e1, e2, e3, e4⟩ := run_pwords vs pts 0 PSt.zero gv gt gf rfl
  unfold spR
  rw [wds_join _ _ (fun w hw => (pwords_pw vs pts gv gf w hw).1), goW_all _ _ _ e1]
  have e2' : s'.vb = vs := e2
  have e3' : s'.pt = pts := e3
  show (if 0 < s'.left then _ else if chk s'.vb s'.pt ≠ 0 then _ else _) = _
  rw [if_neg (by omega), e2', e3', if_neg (by rw [h]; simp)]
end Go.Proofs.YtjmagehfkcnjjaaDoor
