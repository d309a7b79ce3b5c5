/-
  Texts that stand as one.
-/
import Derived.Test.YtjmagehfkcnjjaaGreatDoorSX
import Derived.Test.YtjmagehfkcnjjaaGreatDoorKY
/-
  Plain: the words that are printed of a path are read as that path again, and the first ones of them are not refused.
-/
namespace Go.Proofs.YtjmagehfkcnjjaaGreatDoor
set_option linter.unusedVariables false

theorem runW_app (l m : List (Nat × List UInt8)) : ∀ s, runW s (l ++ m) = (runW s l).bind fun s' => runW s' m := by
  induction l with
  | nil => intro s; rfl
  | cons x r ih =>
    intro s
    show (s.word x.2).bind _ = ((s.word x.2).bind _).bind _
    cases s.word x.2 with
    | none => rfl
    | some s' => exact ih s'
/-- how long words are, each with a blank behind it -/
def wlen : List (List UInt8) → Nat
  | [] => 0
  | w :: r => w.length + 1 + wlen r
theorem placed_app (a b : List (List UInt8)) : ∀ k, placed k (a ++ b) = placed k a ++ placed (k + wlen a) b := by
  induction a with
  | nil => intro k; rfl
  | cons w r ih =>
    intro k
    show (k, w) :: placed (k + w.length + 1) (r ++ b) = (k, w) :: (placed (k + w.length + 1) r ++ placed (k + (w.length + 1 + wlen r)) b)
    rw [ih, show k + w.length + 1 + wlen r = k + (w.length + 1 + wlen r) by omega]
theorem placed_len (a : List (List UInt8)) : ∀ k, (placed k a).length = a.length := by
  induction a with
  | nil => intro k; rfl
  | cons w r ih => intro k; show (placed _ r).length + 1 = r.length + 1; rw [ih]
theorem placed_take (a : List (List UInt8)) (n : Nat) (k : Nat) : (placed k a).take n = placed k (a.take n) := by
  have h := placed_app (a.take n) (a.drop n) k
  rw [List.take_append_drop] at h
  rw [h]
  by_cases hn : n ≤ a.length
  · have hl : (placed k (a.take n)).length = n := by rw [placed_len, List.length_take]; omega
    rw [List.take_append_of_le_length (by omega), List.take_of_length_le (by omega)]
  · rw [List.drop_eq_nil_of_le (by omega), List.take_of_length_le (show a.length ≤ n by omega)]
    rw [List.take_of_length_le (by rw [List.length_append, placed_len]; simp [placed]; omega)]
    simp [placed]
theorem ps_prn (n : Int) (h : -1099511627776 ≤ n ∧ n ≤ 1099511627776) : ps (prn n) = some n := by
  rw [prn_nrt]
  have e := ps_nrt n.natAbs 0 0 (decide (n < 0)) (by omega) (by decide) (by decide)
  rw [e]
  by_cases hn : n < 0
  · simp only [hn, decide_true, if_true, Option.some.injEq]; omega
  · simp only [hn, decide_false, Bool.false_eq_true, if_false, Option.some.injEq]; omega
theorem run_ptW : ∀ (l : List (Int × Int)) (k : Nat) (s : PSt), (∀ q ∈ l, farB q = false) → s.left = 2 * l.length →
    ∃ s', runW s (placed k (ptW l)) = some s' ∧ s'.vb = s.vb ∧ s'.pt = s.pt ++ l ∧ s'.left = 0 ∧ s'.now = s.now := by
  intro l
  induction l with
  | nil => intro k s _ h; exact ⟨s, rfl, rfl, by simp, by simpa using h, rfl⟩
  | cons q r ih =>
    intro k s hf hl
    obtain ⟨h1, h2⟩ := farB_no (hf q (List.mem_cons_self ..))
    rw [List.length_cons] at hl
    have w1 : s.word (prn q.1) = some { s with left := s.left - 1, x := q.1 } := by
      unfold PSt.word
      rw [if_pos (by omega), ps_prn _ (by omega)]
      show some (s.num q.1) = _
      unfold PSt.num
      rw [if_pos (by omega)]
    have w2 : ({ s with left := s.left - 1, x := q.1 } : PSt).word (prn q.2) = some { s with left := s.left - 1 - 1, x := q.1, pt := s.pt ++ [q] } := by
      unfold PSt.word
      rw [if_pos (show 0 < s.left - 1 by omega), ps_prn _ (by omega)]
      show some (PSt.num _ q.2) = _
      unfold PSt.num
      rw [if_neg (show ¬ (s.left - 1 - 1) % 2 = 1 by omega)]
    obtain ⟨s', e1, e2, e3, e4, e5⟩ := ih (k + (prn q.1).length + 1 + (prn q.2).length + 1) ({ s with left := s.left - 1 - 1, x := q.1, pt := s.pt ++ [q] } : PSt) (fun u hu => hf u (List.mem_cons_of_mem _ hu)) (show s.left - 1 - 1 = 2 * r.length by omega)
    refine ⟨s', ?_, e2, by rw [e3]; simp, e4, e5⟩
    show (s.word (prn q.1)).bind (fun a => (a.word (prn q.2)).bind fun b => runW b (placed _ (ptW r))) = some s'
    rw [w1]
    show ((PSt.word _ (prn q.2)).bind fun b => runW b (placed _ (ptW r))) = some s'
    rw [w2]
    exact e1
theorem lett_vrb (v : Int) (h : 1 ≤ v ∧ v ≤ 5) : (vrb [lett v] : Int) = v ∧ 0 < vrb [lett v] ∧ tkN (vrb [lett v]) = tkI v := by
  rcases (show v = 1 ∨ v = 2 ∨ v = 3 ∨ v = 4 ∨ v = 5 by omega) with rfl | rfl | rfl | rfl | rfl <;> exact ⟨by decide, by decide, by decide⟩
theorem run_pwords : ∀ (vs : List Int) (pts : List (Int × Int)) (k : Nat) (s : PSt), (∀ v ∈ vs, 1 ≤ v ∧ v ≤ 5) → tot vs = pts.length → (∀ q ∈ pts, farB q = false) → s.left = 0 →
    ∃ s', runW s (placed k (pwords vs pts)) = some s' ∧ s'.vb = s.vb ++ vs ∧ s'.pt = s.pt ++ pts ∧ s'.left = 0 := by
  intro vs
  induction vs with
  | nil =>
    intro pts k s _ ht _ h
    have hp : pts = [] := List.length_eq_zero_iff.1 ht.symm
    exact ⟨s, rfl, by simp, by simp [hp], h⟩
  | cons v r ih =>
    intro pts k s hv ht hf hl
    have hv1 := hv v (List.mem_cons_self ..)
    obtain ⟨l1, l2, l3⟩ := lett_vrb v hv1
    have e0 : tot (v :: r) = tkI v + tot r := by simp [tot]
    rw [e0] at ht
    have hw : s.word [lett v] = some (s.begin_ (vrb [lett v])) := by
      unfold PSt.word
      rw [if_neg (by omega), if_pos l2]
    have hl1 : (pts.take (tkI v)).length = tkI v := by rw [List.length_take]; omega
    obtain ⟨s1, e1, e2, e3, e4, e5⟩ := run_ptW (pts.take (tkI v)) (k + 1 + 1) (s.begin_ (vrb [lett v])) (fun q hq => hf q (List.mem_of_mem_take hq)) (by rw [hl1, ← l3]; rfl)
    obtain ⟨s2, f1, f2, f3, f4⟩ := ih (pts.drop (tkI v)) (k + 1 + 1 + wlen (ptW (pts.take (tkI v)))) s1 (fun u hu => hv u (List.mem_cons_of_mem _ hu)) (by rw [List.length_drop]; omega) (fun q hq => hf q (List.mem_of_mem_drop hq)) e4
    refine ⟨s2, ?_, ?_, ?_, f4⟩
    · show (s.word [lett v]).bind (fun a => runW a (placed (k + 1 + 1) (ptW (pts.take (tkI v)) ++ pwords r (pts.drop (tkI v))))) = some s2
      rw [hw]
      show runW _ _ = some s2
      rw [placed_app, runW_app, e1]
      exact f1
    · rw [f2, e2]
      show s.vb ++ [(vrb [lett v] : Int)] ++ r = _
      rw [l1]; simp
    · rw [f3, e3, List.append_assoc, List.take_append_drop]
      rfl
/-- the words of a path are no blanks -/
theorem prn_word (n : Int) (h : -9223372036854775808 ≤ n ∧ n ≤ 9223372036854775808) : Word (prn n) ∧ ∀ b ∈ prn n, b.toNat < 128 := by
  obtain ⟨D, G, e, hD, d1, _, dd, _, hG⟩ := prU_facts n.natAbs (by omega)
  have hdg : ∀ b : UInt8, IsDg b → isB b = false ∧ b.toNat < 128 := by
    intro b hb
    unfold IsDg at hb
    refine ⟨?_, by omega⟩
    unfold isB blks
    simp only [List.contains_eq_mem, List.mem_cons, List.not_mem_nil, or_false, decide_eq_false_iff_not]
    rintro (rfl | rfl | rfl | rfl | rfl) <;> exact absurd hb (by decide)
  have hU : ∀ b ∈ prU n.natAbs, isB b = false ∧ b.toNat < 128 := by
    intro b hb
    rw [e] at hb
    rcases List.mem_append.1 hb with hb | hb
    · exact hdg b (dd b hb)
    · by_cases h0 : n.natAbs % 256 = 0
      · rw [if_pos h0] at hb; cases hb
      · rw [if_neg h0] at hb
        rcases List.mem_cons.1 hb with rfl | hb
        · exact ⟨by decide, by decide⟩
        · exact hdg b ((hG h0).2.2.1 b hb)
  have hne : prU n.natAbs ≠ [] := by
    rw [e]; intro k
    have := congrArg List.length k
    rw [List.length_append] at this
    simp only [List.length_nil] at this
    omega
  unfold prn
  by_cases hn : n < 0
  · rw [if_pos hn]
    refine ⟨⟨by simp, fun b hb => ?_⟩, fun b hb => ?_⟩
    · rcases List.mem_cons.1 hb with rfl | hb
      · decide
      · exact (hU b hb).1
    · rcases List.mem_cons.1 hb with rfl | hb
      · decide
      · exact (hU b hb).2
  · rw [if_neg hn]
    exact ⟨⟨hne, fun b hb => (hU b hb).1⟩, fun b hb => (hU b hb).2⟩
theorem prn_len30 (n : Int) (h : -9223372036854775808 ≤ n ∧ n ≤ 9223372036854775808) : (prn n).length ≤ 30 := by
  obtain ⟨D, G, e, hD, d1, d2, dd, _, hG⟩ := prU_facts n.natAbs (by omega)
  have : (prU n.natAbs).length ≤ 29 := by
    rw [e, List.length_append]
    by_cases h0 : n.natAbs % 256 = 0
    · rw [if_pos h0]; simp only [List.length_nil]; omega
    · rw [if_neg h0]
      have := (hG h0).2.1
      rw [List.length_cons]; omega
  unfold prn
  by_cases hn : n < 0
  · rw [if_pos hn, List.length_cons]; omega
  · rw [if_neg hn]; omega
/-- what each word of a path is -/
def PWord (w : List UInt8) : Prop := Word w ∧ (∀ b ∈ w, b.toNat < 128) ∧ w.length ≤ 30
theorem prn_pw (n : Int) (h : -9223372036854775808 ≤ n ∧ n ≤ 9223372036854775808) : PWord (prn n) := ⟨(prn_word n h).1, (prn_word n h).2, prn_len30 n h⟩
theorem lett_pw (v : Int) (h : 1 ≤ v ∧ v ≤ 5) : PWord [lett v] := by
  rcases (show v = 1 ∨ v = 2 ∨ v = 3 ∨ v = 4 ∨ v = 5 by omega) with rfl | rfl | rfl | rfl | rfl <;> exact ⟨⟨by decide, by decide⟩, by decide, by decide⟩
theorem ptW_pw (l : List (Int × Int)) (hf : ∀ q ∈ l, farB q = false) : ∀ w ∈ ptW l, PWord w := by
  intro w hw
  unfold ptW at hw
  obtain ⟨q, hq, hw⟩ := List.mem_flatMap.1 hw
  obtain ⟨h1, h2⟩ := farB_no (hf q hq)
  simp only [List.mem_cons, List.not_mem_nil, or_false] at hw
  rcases hw with rfl | rfl
  · exact prn_pw _ (by omega)
  · exact prn_pw _ (by omega)
theorem pwords_pw : ∀ (vs : List Int) (pts : List (Int × Int)), (∀ v ∈ vs, 1 ≤ v ∧ v ≤ 5) → (∀ q ∈ pts, farB q = false) → ∀ w ∈ pwords vs pts, PWord w := by
  intro vs
  induction vs with
  | nil => intro pts _ _ w hw; cases hw
  | cons v r ih =>
    intro pts hv hf w hw
    rcases List.mem_cons.1 hw with rfl | hw
    · exact lett_pw v (hv v (List.mem_cons_self ..))
    · rcases List.mem_append.1 hw with hw | hw
      · exact ptW_pw _ (fun q hq => hf q (List.mem_of_mem_take hq)) w hw
      · exact ih _ (fun u hu => hv u (List.mem_cons_of_mem _ hu)) (fun q hq => hf q (List.mem_of_mem_drop hq)) w hw
theorem joinB_len : ∀ ws : List (List UInt8), (joinB ws).length = wlen ws - 1 := by
  intro ws
  induction ws with
  | nil => rfl
  | cons w r ih =>
    by_cases hr : r = []
    · subst hr; show w.length = w.length + 1 + 0 - 1; omega
    · rw [joinB_cons w r hr, List.length_append, List.length_cons, ih]
      have : 1 ≤ wlen r := by
        cases r with
        | nil => exact absurd rfl hr
        | cons _ _ => show 1 ≤ _ + 1 + _; omega
      show _ = w.length + 1 + wlen r - 1
      omega
theorem wlen_le (ws : List (List UInt8)) (h : ∀ w ∈ ws, PWord w) : wlen ws ≤ 31 * ws.length := by
  induction ws with
  | nil => decide
  | cons w r ih =>
    have h1 := (h w (List.mem_cons_self ..)).2.2
    have h2 := ih (fun u hu => h u (List.mem_cons_of_mem _ hu))
    show w.length + 1 + wlen r ≤ 31 * (r.length + 1)
    omega
theorem joinB_ascii : ∀ ws : List (List UInt8), (∀ w ∈ ws, ∀ b ∈ w, b.toNat < 128) → ∀ b ∈ joinB ws, b.toNat < 128 := by
  intro ws
  induction ws with
  | nil => intro _ b hb; cases hb
  | cons w r ih =>
    intro h b hb
    by_cases hr : r = []
    · subst hr; exact h w (List.mem_cons_self ..) b hb
    · rw [joinB_cons w r hr] at hb
      rcases List.mem_append.1 hb with hb | hb
      · exact h w (List.mem_cons_self ..) b hb
      · rcases List.mem_cons.1 hb with rfl | hb
        · decide
        · exact ih (fun u hu => h u (List.mem_cons_of_mem _ hu)) b hb
/-- what is printed is parsed back -/
theorem spR_print (vs : List Int) (pts : List (Int × Int)) (h : chk vs pts = 0) : spR (joinB (pwords vs pts)) = (vs, pts, 0, 0) := by
  obtain ⟨_, gv, gt, gf⟩ := chk_ok h
  obtain ⟨s', e1, e2, e3, e4⟩ := run_pwords vs pts 0 PSt.zero gv gt gf rfl
  unfold spR
  rw [wds_join _ _ (fun w hw => (pwords_pw vs pts gv gf w hw).1), goW_all _ _ _ e1]
  have e2' : s'.vb = vs := e2
  have e3' : s'.pt = pts := e3
  show (if 0 < s'.left then _ else if chk s'.vb s'.pt ≠ 0 then _ else _) = _
  rw [if_neg (by omega), e2', e3', if_neg (by rw [h]; simp)]
end Go.Proofs.YtjmagehfkcnjjaaGreatDoor

/-
  Plain: lines told by one verb, and told each by its own, are the same path, or the same error.
-/
namespace Go.Proofs.YtjmagehfkcnjjaaGreatDoor
set_option linter.unusedVariables false

/-- words behind a first one, each behind a byte that parts them -/
def tl (r : List (UInt8 × List UInt8)) : List UInt8 := r.flatMap fun x => x.1 :: x.2
theorem tl_app (a b : List (UInt8 × List UInt8)) : tl (a ++ b) = tl a ++ tl b := by simp [tl]
theorem wrd_sep (w r : List UInt8) (b : UInt8) (hb : isB b = true) (h : ∀ b ∈ w, isB b = false) : wrd (w ++ b :: r) = w := by
  unfold wrd
  rw [List.takeWhile_append_of_pos (fun b hb => by rw [h b hb]; rfl), List.takeWhile_cons_of_neg (by rw [hb]; decide), List.append_nil]
theorem wds_tl : ∀ (r : List (UInt8 × List UInt8)) (w : List UInt8) (k : Nat), Word w → (∀ x ∈ r, isB x.1 = true ∧ Word x.2) → wds k (w ++ tl r) = placed k (w :: r.map (·.2)) := by
  intro r
  induction r with
  | nil =>
    intro w k hw _
    rw [show tl [] = [] from rfl, List.append_nil, wds_ne k w hw.1, wrd_self w hw.2, if_neg hw.1, List.drop_eq_nil_of_le (by omega), wds_nil]
    rfl
  | cons x r ih =>
    intro w k hw h
    obtain ⟨x1, x2⟩ := h x (List.mem_cons_self ..)
    have e : w ++ tl (x :: r) = w ++ x.1 :: (x.2 ++ tl r) := rfl
    have hne : w ++ tl (x :: r) ≠ [] := by rw [e]; simp
    have hwr : wrd (w ++ tl (x :: r)) = w := by rw [e]; exact wrd_sep w _ x.1 x1 hw.2
    have hd : (w ++ tl (x :: r)).drop (w.length + 1) = x.2 ++ tl r := by
      rw [e, ← List.drop_drop]
      simp
    rw [wds_ne k _ hne, hwr, if_neg hw.1, hd, ih x.2 _ x2 (fun y hy => h y (List.mem_cons_of_mem _ hy))]
    rfl
def oneS (q : Int × Int) : List (UInt8 × List UInt8) := [(44, prn q.1), (32, prn q.2)]
def eachS (q : Int × Int) : List (UInt8 × List UInt8) := [(32, [76]), (32, prn q.1), (32, prn q.2)]
def fstS (q : Int × Int) : List (UInt8 × List UInt8) := [(32, prn q.1), (32, prn q.2)]
/-- the text with one verb for all lines -/
def onceT : List (Int × Int) → List UInt8
  | [] => []
  | q :: r => [77] ++ tl (fstS q ++ r.flatMap oneS)
/-- the text with a verb for each line -/
def eachT : List (Int × Int) → List UInt8
  | [] => []
  | q :: r => [77] ++ tl (fstS q ++ r.flatMap eachS)
theorem onceT_one (q : Int × Int) : onceT [q] = [77, 32] ++ (prn q.1 ++ 32 :: prn q.2) := by
  show [77] ++ tl (fstS q ++ []) = _
  simp [tl, fstS]
theorem eachT_one (q : Int × Int) : eachT [q] = [77, 32] ++ (prn q.1 ++ 32 :: prn q.2) := by
  show [77] ++ tl (fstS q ++ []) = _
  simp [tl, fstS]
theorem onceT_snoc (l : List (Int × Int)) (q : Int × Int) (h : l ≠ []) : onceT (l ++ [q]) = (onceT l ++ [44]) ++ (prn q.1 ++ 32 :: prn q.2) := by
  cases l with
  | nil => exact absurd rfl h
  | cons p r =>
    show [77] ++ tl (fstS p ++ (r ++ [q]).flatMap oneS) = [77] ++ tl (fstS p ++ r.flatMap oneS) ++ [44] ++ _
    rw [List.flatMap_append, ← List.append_assoc, tl_app]
    simp [tl, oneS]
theorem eachT_snoc (l : List (Int × Int)) (q : Int × Int) (h : l ≠ []) : eachT (l ++ [q]) = (eachT l ++ [32, 76, 32]) ++ (prn q.1 ++ 32 :: prn q.2) := by
  cases l with
  | nil => exact absurd rfl h
  | cons p r =>
    show [77] ++ tl (fstS p ++ (r ++ [q]).flatMap eachS) = [77] ++ tl (fstS p ++ r.flatMap eachS) ++ [32, 76, 32] ++ _
    rw [List.flatMap_append, ← List.append_assoc, tl_app]
    simp [tl, eachS]
/-- an int's value -/
def I64 (n : Int) : Prop := -9223372036854775808 ≤ n ∧ n ≤ 9223372036854775807
theorem prn_lo (n : Int) (h : I64 n) : vrb (prn n) = 0 := by
  unfold I64 at h
  have key : ∀ b ∈ prn n, b.toNat < 60 := by
    obtain ⟨D, G, e, hD, d1, _, dd, _, hG⟩ := prU_facts n.natAbs (by omega)
    have hU : ∀ b ∈ prU n.natAbs, b.toNat < 60 := by
      intro b hb
      rw [e] at hb
      rcases List.mem_append.1 hb with hb | hb
      · have := dd b hb; unfold IsDg at this; omega
      · by_cases h0 : n.natAbs % 256 = 0
        · rw [if_pos h0] at hb; cases hb
        · rw [if_neg h0] at hb
          rcases List.mem_cons.1 hb with rfl | hb
          · decide
          · have := (hG h0).2.2.1 b hb; unfold IsDg at this; omega
    unfold prn
    by_cases hn : n < 0
    · rw [if_pos hn]
      intro b hb
      rcases List.mem_cons.1 hb with rfl | hb
      · decide
      · exact hU b hb
    · rw [if_neg hn]; exact hU
  have no : ∀ c : UInt8, 60 ≤ c.toNat → prn n ≠ [c] := fun c hc e => by
    have := key c (by rw [e]; exact List.mem_cons_self ..)
    omega
  unfold vrb
  rw [if_neg (no _ (by decide)), if_neg (no _ (by decide)), if_neg (no _ (by decide)), if_neg (no _ (by decide)), if_neg (no _ (by decide))]
/-- a line more, with its verb or without: the same state -/
theorem line_word (s : PSt) (w : List UInt8) (hw : vrb w = 0) (h0 : s.left = 0) (hn : s.now = 1 ∨ s.now = 2) : s.word w = (s.begin_ 2).word w ∧ s.word [76] = some (s.begin_ 2) := by
  refine ⟨?_, ?_⟩
  · unfold PSt.word
    rw [if_neg (by omega), hw, if_neg (by omega), if_neg (by omega), if_pos (show 0 < (s.begin_ 2).left from Nat.succ_pos _)]
    rcases hn with hn | hn
    · rw [hn]; rfl
    · rw [hn]; rfl
  · unfold PSt.word
    rw [if_neg (by omega), if_pos (by decide)]
    rfl
def wOnce (r : List (Int × Int)) : List (List UInt8) := (r.flatMap oneS).map (·.2)
def wEach (r : List (Int × Int)) : List (List UInt8) := (r.flatMap eachS).map (·.2)
theorem run_lines : ∀ (r : List (Int × Int)) (s : PSt) (k k' : Nat), (∀ q ∈ r, I64 q.1 ∧ I64 q.2) → s.left = 0 → (s.now = 1 ∨ s.now = 2) →
    runW s (placed k (wOnce r)) = runW s (placed k' (wEach r)) ∧ ∀ s', runW s (placed k (wOnce r)) = some s' → s'.left = 0 ∧ s'.vb = s.vb ++ List.replicate r.length 2 ∧ s'.pt.length = s.pt.length + r.length := by
  intro r
  induction r with
  | nil => intro s k k' _ h _; exact ⟨rfl, fun s' e => by obtain rfl := Option.some.inj e; exact ⟨h, by simp, rfl⟩⟩
  | cons q r ih =>
    intro s k k' hq h0 hn
    obtain ⟨q1, q2⟩ := hq q (List.mem_cons_self ..)
    obtain ⟨l1, l2⟩ := line_word s (prn q.1) (prn_lo _ q1) h0 hn
    have eO : ∀ k, ∃ k1, runW s (placed k (wOnce (q :: r))) = (s.word (prn q.1)).bind fun a => (a.word (prn q.2)).bind fun b => runW b (placed k1 (wOnce r)) := fun k => ⟨_, rfl⟩
    have eE : ∀ k, ∃ k1, runW s (placed k (wEach (q :: r))) = (s.word [76]).bind fun c => (c.word (prn q.1)).bind fun a => (a.word (prn q.2)).bind fun b => runW b (placed k1 (wEach r)) := fun k => ⟨_, rfl⟩
    obtain ⟨k1, e1⟩ := eO k
    obtain ⟨k2, e2⟩ := eE k'
    rw [e1, e2, l1, l2]
    show (((s.begin_ 2).word (prn q.1)).bind _) = (((s.begin_ 2).word (prn q.1)).bind _) ∧ _
    have hw1 : (s.begin_ 2).word (prn q.1) = (ps (prn q.1)).map (s.begin_ 2).num := by
      unfold PSt.word
      rw [if_pos (show 0 < (s.begin_ 2).left from Nat.succ_pos _)]
    rw [hw1]
    cases p1 : ps (prn q.1) with
    | none => exact ⟨rfl, fun s' e => by cases e⟩
    | some n =>
      show ((PSt.word ((s.begin_ 2).num n) (prn q.2)).bind _) = ((PSt.word ((s.begin_ 2).num n) (prn q.2)).bind _) ∧ _
      have hs1 : (s.begin_ 2).num n = { s.begin_ 2 with left := 1, x := n } := by
        unfold PSt.num
        rw [if_pos (show ((s.begin_ 2).left - 1) % 2 = 1 from rfl)]
        rfl
      have hw2 : PSt.word ((s.begin_ 2).num n) (prn q.2) = (ps (prn q.2)).map ((s.begin_ 2).num n).num := by
        unfold PSt.word
        rw [hs1, if_pos (show 0 < ({ s.begin_ 2 with left := 1, x := n } : PSt).left from Nat.succ_pos _)]
      show _ ∧ ∀ s', ((PSt.word ((s.begin_ 2).num n) (prn q.2)).bind _) = some s' → _
      rw [hw2]
      cases p2 : ps (prn q.2) with
      | none => exact ⟨rfl, fun s' e => by cases e⟩
      | some m =>
        have hs2 : ((s.begin_ 2).num n).num m = { s.begin_ 2 with left := 0, x := n, pt := s.pt ++ [(n, m)] } := by
          rw [hs1]
          unfold PSt.num
          rw [if_neg (show ¬ (({ s.begin_ 2 with left := 1, x := n } : PSt).left - 1) % 2 = 1 from (by decide : ¬ (1 - 1) % 2 = 1))]
          rfl
        show runW (((s.begin_ 2).num n).num m) _ = runW (((s.begin_ 2).num n).num m) _ ∧ ∀ s', runW (((s.begin_ 2).num n).num m) _ = some s' → _
        rw [hs2]
        obtain ⟨i1, i2⟩ := ih { s.begin_ 2 with left := 0, x := n, pt := s.pt ++ [(n, m)] } k1 k2 (fun u hu => hq u (List.mem_cons_of_mem _ hu)) rfl (.inr rfl)
        refine ⟨i1, fun s' e => ?_⟩
        obtain ⟨j1, j2, j3⟩ := i2 s' e
        refine ⟨j1, ?_, ?_⟩
        · rw [j2]
          show (s.vb ++ [((2 : Nat) : Int)]) ++ List.replicate r.length 2 = s.vb ++ List.replicate (r.length + 1) 2
          rw [List.append_assoc, List.replicate_succ]
          rfl
        · rw [j3]
          show (s.pt ++ [(n, m)]).length + r.length = s.pt.length + (r.length + 1)
          rw [List.length_append]
          simp only [List.length_cons, List.length_nil]
          omega
theorem goW_none : ∀ (l : List (Nat × List UInt8)) (s : PSt), runW s l = none → ∃ k, goW s l = .inl k := by
  intro l
  induction l with
  | nil => intro s h; cases h
  | cons x r ih =>
    intro s h
    have h' : (s.word x.2).bind (fun s' => runW s' r) = none := h
    unfold goW
    cases e : s.word x.2 with
    | none => exact ⟨_, rfl⟩
    | some s' => rw [e] at h'; exact ih s' h'
theorem run_first (s : PSt) (a b : List UInt8) (k : Nat) (m : List (List UInt8)) : ∃ k1, runW s (placed k ([77] :: a :: b :: m)) = (s.word [77]).bind fun c => (c.word a).bind fun d => (d.word b).bind fun e => runW e (placed k1 m) := ⟨_, rfl⟩
/-- both texts lead to one state, or both are refused -/
theorem run_again (q : Int × Int) (r : List (Int × Int)) (h : ∀ p ∈ q :: r, I64 p.1 ∧ I64 p.2) :
    runW PSt.zero (placed 0 ([77] :: prn q.1 :: prn q.2 :: wOnce r)) = runW PSt.zero (placed 0 ([77] :: prn q.1 :: prn q.2 :: wEach r)) ∧
      ∀ s', runW PSt.zero (placed 0 ([77] :: prn q.1 :: prn q.2 :: wOnce r)) = some s' → s'.left = 0 ∧ s'.vb = 1 :: List.replicate r.length 2 ∧ s'.pt.length = r.length + 1 := by
  obtain ⟨k1, e1⟩ := run_first PSt.zero (prn q.1) (prn q.2) 0 (wOnce r)
  obtain ⟨k2, e2⟩ := run_first PSt.zero (prn q.1) (prn q.2) 0 (wEach r)
  rw [e1, e2]
  have hz : PSt.zero.word [77] = some ⟨[1], [], 1, 2, 0⟩ := rfl
  rw [hz]
  show ((PSt.word ⟨[1], [], 1, 2, 0⟩ (prn q.1)).bind _) = ((PSt.word ⟨[1], [], 1, 2, 0⟩ (prn q.1)).bind _) ∧ ∀ s', ((PSt.word ⟨[1], [], 1, 2, 0⟩ (prn q.1)).bind _) = some s' → _
  have hw1 : PSt.word ⟨[1], [], 1, 2, 0⟩ (prn q.1) = (ps (prn q.1)).map (PSt.num ⟨[1], [], 1, 2, 0⟩) := by
    unfold PSt.word
    rw [if_pos (Nat.succ_pos 1)]
  rw [hw1]
  cases p1 : ps (prn q.1) with
  | none => exact ⟨rfl, fun s' e => by cases e⟩
  | some n =>
    show ((PSt.word ⟨[1], [], 1, 1, n⟩ (prn q.2)).bind _) = ((PSt.word ⟨[1], [], 1, 1, n⟩ (prn q.2)).bind _) ∧ ∀ s', ((PSt.word ⟨[1], [], 1, 1, n⟩ (prn q.2)).bind _) = some s' → _
    have hw2 : PSt.word ⟨[1], [], 1, 1, n⟩ (prn q.2) = (ps (prn q.2)).map (PSt.num ⟨[1], [], 1, 1, n⟩) := by
      unfold PSt.word
      rw [if_pos (Nat.succ_pos 0)]
    rw [hw2]
    cases p2 : ps (prn q.2) with
    | none => exact ⟨rfl, fun s' e => by cases e⟩
    | some m =>
      show runW ⟨[1], [(n, m)], 1, 0, n⟩ _ = runW ⟨[1], [(n, m)], 1, 0, n⟩ _ ∧ ∀ s', runW ⟨[1], [(n, m)], 1, 0, n⟩ _ = some s' → _
      obtain ⟨i1, i2⟩ := run_lines r ⟨[1], [(n, m)], 1, 0, n⟩ k1 k2 (fun u hu => h u (List.mem_cons_of_mem _ hu)) rfl (.inl rfl)
      refine ⟨i1, fun s' e => ?_⟩
      obtain ⟨j1, j2, j3⟩ := i2 s' e
      exact ⟨j1, j2, by rw [j3]; show 1 + r.length = _; omega⟩
theorem chkL_lines (m : Nat) : ∀ left b : Int, b ≠ 5 → chkL (List.replicate m 2) left b = .ok (left - m) := by
  induction m with
  | zero => intro left b _; show Except.ok left = _; simp
  | succ m ih =>
    intro left b hb
    rw [List.replicate_succ]
    unfold chkL
    rw [if_neg (by decide), if_neg (by omega), ih _ _ (by decide)]
    congr 1
    rw [show tkV 2 = 1 from rfl]
    omega
theorem chk_lines (m : Nat) (pts : List (Int × Int)) (hm : m ≤ 500) (hp : pts.length = m + 1) : chk (1 :: List.replicate m 2) pts = 0 ∨ chk (1 :: List.replicate m 2) pts = 72 := by
  have e : chkL (1 :: List.replicate m 2) pts.length 5 = .ok 0 := by
    unfold chkL
    rw [if_neg (by decide), if_neg (by decide), chkL_lines m _ _ (by decide), hp]
    congr 1
    rw [show tkV 1 = 1 from rfl]
    omega
  unfold chk
  rw [if_neg (by rw [List.length_cons, List.length_replicate]; omega), e]
  show (if (0 : Int) ≠ 0 then (71 : Int) else if pts.any farB then 72 else 0) = 0 ∨ (if (0 : Int) ≠ 0 then (71 : Int) else if pts.any farB then 72 else 0) = 72
  rw [if_neg (by decide)]
  split
  · exact .inr rfl
  · exact .inl rfl
theorem fst_word (q : Int × Int) (h : I64 q.1 ∧ I64 q.2) : PWord (prn q.1) ∧ PWord (prn q.2) := by
  unfold I64 at h
  exact ⟨prn_pw _ (by omega), prn_pw _ (by omega)⟩
theorem sep_lo (b : UInt8) (h : b = 32 ∨ b = 44) : b.toNat < 128 := by rcases h with rfl | rfl <;> decide
theorem once_all (q : Int × Int) (r : List (Int × Int)) (h : ∀ p ∈ q :: r, I64 p.1 ∧ I64 p.2) : ∀ x ∈ fstS q ++ r.flatMap oneS, (isB x.1 = true ∧ x.1.toNat < 128) ∧ PWord x.2 := by
  intro x hx
  rcases List.mem_append.1 hx with hx | hx
  · obtain ⟨a, b⟩ := fst_word q (h q (List.mem_cons_self ..))
    simp only [fstS, List.mem_cons, List.not_mem_nil, or_false] at hx
    rcases hx with rfl | rfl
    · exact ⟨⟨rfl, sep_lo _ (by simp)⟩, a⟩
    · exact ⟨⟨rfl, sep_lo _ (by simp)⟩, b⟩
  · obtain ⟨p, hp, hx⟩ := List.mem_flatMap.1 hx
    obtain ⟨a, b⟩ := fst_word p (h p (List.mem_cons_of_mem _ hp))
    simp only [oneS, List.mem_cons, List.not_mem_nil, or_false] at hx
    rcases hx with rfl | rfl
    · exact ⟨⟨rfl, sep_lo _ (by simp)⟩, a⟩
    · exact ⟨⟨rfl, sep_lo _ (by simp)⟩, b⟩
theorem each_all (q : Int × Int) (r : List (Int × Int)) (h : ∀ p ∈ q :: r, I64 p.1 ∧ I64 p.2) : ∀ x ∈ fstS q ++ r.flatMap eachS, (isB x.1 = true ∧ x.1.toNat < 128) ∧ PWord x.2 := by
  intro x hx
  rcases List.mem_append.1 hx with hx | hx
  · obtain ⟨a, b⟩ := fst_word q (h q (List.mem_cons_self ..))
    simp only [fstS, List.mem_cons, List.not_mem_nil, or_false] at hx
    rcases hx with rfl | rfl
    · exact ⟨⟨rfl, sep_lo _ (by simp)⟩, a⟩
    · exact ⟨⟨rfl, sep_lo _ (by simp)⟩, b⟩
  · obtain ⟨p, hp, hx⟩ := List.mem_flatMap.1 hx
    obtain ⟨a, b⟩ := fst_word p (h p (List.mem_cons_of_mem _ hp))
    simp only [eachS, List.mem_cons, List.not_mem_nil, or_false] at hx
    rcases hx with rfl | rfl | rfl
    · exact ⟨⟨rfl, sep_lo _ (by simp)⟩, lett_pw 2 (by decide)⟩
    · exact ⟨⟨rfl, sep_lo _ (by simp)⟩, a⟩
    · exact ⟨⟨rfl, sep_lo _ (by simp)⟩, b⟩
theorem wds_once (q : Int × Int) (r : List (Int × Int)) (h : ∀ p ∈ q :: r, I64 p.1 ∧ I64 p.2) : wds 0 (onceT (q :: r)) = placed 0 ([77] :: prn q.1 :: prn q.2 :: wOnce r) := by
  show wds 0 ([77] ++ tl (fstS q ++ r.flatMap oneS)) = _
  rw [wds_tl _ [77] 0 ⟨by decide, by decide⟩ (fun x hx => ⟨(once_all q r h x hx).1.1, (once_all q r h x hx).2.1⟩), List.map_append]
  rfl
theorem wds_each (q : Int × Int) (r : List (Int × Int)) (h : ∀ p ∈ q :: r, I64 p.1 ∧ I64 p.2) : wds 0 (eachT (q :: r)) = placed 0 ([77] :: prn q.1 :: prn q.2 :: wEach r) := by
  show wds 0 ([77] ++ tl (fstS q ++ r.flatMap eachS)) = _
  rw [wds_tl _ [77] 0 ⟨by decide, by decide⟩ (fun x hx => ⟨(each_all q r h x hx).1.1, (each_all q r h x hx).2.1⟩), List.map_append]
  rfl
theorem spR_nil : spR [] = ([], [], 0, 0) := by
  unfold spR
  rw [wds_nil]
  rfl
/-- the same path, or the same error -/
theorem spR_again (l : List (Int × Int)) (h : ∀ p ∈ l, I64 p.1 ∧ I64 p.2) (hl : l.length ≤ 30) :
    (spR (onceT l)).1 = (spR (eachT l)).1 ∧ (spR (onceT l)).2.1 = (spR (eachT l)).2.1 ∧ (spR (onceT l)).2.2.2 = (spR (eachT l)).2.2.2 ∧
      ((spR (onceT l)).2.2.2 = 0 ∨ (spR (onceT l)).2.2.2 = 72 ∨ (spR (onceT l)).2.2.2 = 80) ∧
      ((spR (onceT l)).2.2.2 = 0 → (spR (onceT l)).2.2.1 = 0 ∧ (spR (eachT l)).2.2.1 = 0 ∧ (spR (onceT l)).1.length = l.length) := by
  cases l with
  | nil =>
    show (spR []).1 = (spR []).1 ∧ _
    rw [show onceT [] = [] from rfl, show eachT [] = [] from rfl, spR_nil]
    exact ⟨rfl, rfl, rfl, .inl rfl, fun _ => ⟨rfl, rfl, rfl⟩⟩
  | cons q r =>
    obtain ⟨h1, h2⟩ := run_again q r h
    rw [List.length_cons] at hl
    cases hR : runW PSt.zero (placed 0 ([77] :: prn q.1 :: prn q.2 :: wOnce r)) with
    | none =>
      rw [hR] at h1
      obtain ⟨k1, g1⟩ := goW_none _ _ hR
      obtain ⟨k2, g2⟩ := goW_none _ _ h1.symm
      have e1 : spR (onceT (q :: r)) = ([], [], (k1 : Int), 80) := by unfold spR; rw [wds_once q r h, g1]
      have e2 : spR (eachT (q :: r)) = ([], [], (k2 : Int), 80) := by unfold spR; rw [wds_each q r h, g2]
      rw [e1, e2]
      exact ⟨rfl, rfl, rfl, .inr (.inr rfl), fun k => absurd (show (80 : Int) = 0 from k) (by decide)⟩
    | some s' =>
      obtain ⟨j1, j2, j3⟩ := h2 s' hR
      rw [hR] at h1
      have g1 := goW_all _ _ _ hR
      have g2 := goW_all _ _ _ h1.symm
      have hc := chk_lines r.length s'.pt (by omega) j3
      rw [← j2] at hc
      by_cases h0 : chk s'.vb s'.pt = 0
      · have e1 : spR (onceT (q :: r)) = (s'.vb, s'.pt, 0, 0) := by
          unfold spR; rw [wds_once q r h, g1]
          show (if 0 < s'.left then _ else if chk s'.vb s'.pt ≠ 0 then _ else _) = _
          rw [if_neg (by omega), if_neg (by rw [h0]; simp)]
        have e2 : spR (eachT (q :: r)) = (s'.vb, s'.pt, 0, 0) := by
          unfold spR; rw [wds_each q r h, g2]
          show (if 0 < s'.left then _ else if chk s'.vb s'.pt ≠ 0 then _ else _) = _
          rw [if_neg (by omega), if_neg (by rw [h0]; simp)]
        rw [e1, e2]
        exact ⟨rfl, rfl, rfl, .inl rfl, fun _ => ⟨rfl, rfl, by show s'.vb.length = _; rw [j2, List.length_cons, List.length_replicate, List.length_cons]⟩⟩
      · have h72 : chk s'.vb s'.pt = 72 := hc.resolve_left h0
        have e1 : spR (onceT (q :: r)) = ([], [], 0, 72) := by
          unfold spR; rw [wds_once q r h, g1]
          show (if 0 < s'.left then _ else if chk s'.vb s'.pt ≠ 0 then _ else _) = _
          rw [if_neg (by omega), if_pos h0, h72]
        have e2 : spR (eachT (q :: r)) = ([], [], 0, 72) := by
          unfold spR; rw [wds_each q r h, g2]
          show (if 0 < s'.left then _ else if chk s'.vb s'.pt ≠ 0 then _ else _) = _
          rw [if_neg (by omega), if_pos h0, h72]
        rw [e1, e2]
        exact ⟨rfl, rfl, rfl, .inr (.inl rfl), fun k => absurd (show (72 : Int) = 0 from k) (by decide)⟩
theorem tl_len (r : List (UInt8 × List UInt8)) (h : ∀ x ∈ r, PWord x.2) : (tl r).length ≤ 31 * r.length := by
  induction r with
  | nil => decide
  | cons x r ih =>
    have h1 := (h x (List.mem_cons_self ..)).2.2
    have h2 := ih (fun u hu => h u (List.mem_cons_of_mem _ hu))
    show (x.1 :: x.2 ++ tl r).length ≤ 31 * (r.length + 1)
    rw [List.length_append, List.length_cons]
    omega
theorem tl_ascii (r : List (UInt8 × List UInt8)) (h : ∀ x ∈ r, (isB x.1 = true ∧ x.1.toNat < 128) ∧ PWord x.2) : ∀ b ∈ tl r, b.toNat < 128 := by
  intro b hb
  unfold tl at hb
  obtain ⟨x, hx, hb⟩ := List.mem_flatMap.1 hb
  obtain ⟨⟨_, h1⟩, h2⟩ := h x hx
  rcases List.mem_cons.1 hb with rfl | hb
  · exact h1
  · exact h2.2.1 b hb
theorem flatc_len {f : Int × Int → List (UInt8 × List UInt8)} {c : Nat} (r : List (Int × Int)) (h : ∀ q, (f q).length = c) : (r.flatMap f).length = c * r.length := by
  induction r with
  | nil => simp
  | cons q r ih => rw [List.flatMap_cons, List.length_append, h, ih, List.length_cons, Nat.mul_add]; omega
/-- what the two texts are like -/
theorem once_text (l : List (Int × Int)) (h : ∀ p ∈ l, I64 p.1 ∧ I64 p.2) (hl : l.length ≤ 30) : (onceT l).length ≤ 4000 ∧ (∀ b ∈ onceT l, b.toNat < 128) ∧ (wds 0 (onceT l)).length ≤ 200 := by
  cases l with
  | nil => exact ⟨by decide, by simp [onceT], by rw [show onceT [] = [] from rfl, wds_nil]; decide⟩
  | cons q r =>
    rw [List.length_cons] at hl
    have ha := once_all q r h
    have f1 := flatc_len r (f := oneS) (c := 2) (fun _ => rfl)
    have f2 := tl_len (fstS q ++ r.flatMap oneS) (fun x hx => (ha x hx).2)
    rw [List.length_append, f1] at f2
    have f3 : (fstS q).length = 2 := rfl
    refine ⟨?_, ?_, ?_⟩
    · show ([77] ++ tl (fstS q ++ r.flatMap oneS)).length ≤ 4000
      rw [List.length_append]
      have : ([77] : List UInt8).length = 1 := rfl
      omega
    · intro b hb
      have hb' : b ∈ [77] ++ tl (fstS q ++ r.flatMap oneS) := hb
      rcases List.mem_append.1 hb' with hb | hb
      · simp only [List.mem_cons, List.not_mem_nil, or_false] at hb; subst hb; decide
      · exact tl_ascii _ ha b hb
    · rw [wds_once q r h, placed_len]
      show (wOnce r).length + 1 + 1 + 1 ≤ 200
      unfold wOnce
      rw [List.length_map, f1]
      omega
theorem each_text (l : List (Int × Int)) (h : ∀ p ∈ l, I64 p.1 ∧ I64 p.2) (hl : l.length ≤ 30) : (eachT l).length ≤ 4000 ∧ (∀ b ∈ eachT l, b.toNat < 128) ∧ (wds 0 (eachT l)).length ≤ 200 := by
  cases l with
  | nil => exact ⟨by decide, by simp [eachT], by rw [show eachT [] = [] from rfl, wds_nil]; decide⟩
  | cons q r =>
    rw [List.length_cons] at hl
    have ha := each_all q r h
    have f1 := flatc_len r (f := eachS) (c := 3) (fun _ => rfl)
    have f2 := tl_len (fstS q ++ r.flatMap eachS) (fun x hx => (ha x hx).2)
    rw [List.length_append, f1] at f2
    have f3 : (fstS q).length = 2 := rfl
    refine ⟨?_, ?_, ?_⟩
    · show ([77] ++ tl (fstS q ++ r.flatMap eachS)).length ≤ 4000
      rw [List.length_append]
      have : ([77] : List UInt8).length = 1 := rfl
      omega
    · intro b hb
      have hb' : b ∈ [77] ++ tl (fstS q ++ r.flatMap eachS) := hb
      rcases List.mem_append.1 hb' with hb | hb
      · simp only [List.mem_cons, List.not_mem_nil, or_false] at hb; subst hb; decide
      · exact tl_ascii _ ha b hb
    · rw [wds_each q r h, placed_len]
      show (wEach r).length + 1 + 1 + 1 ≤ 200
      unfold wEach
      rw [List.length_map, f1]
      omega
end Go.Proofs.YtjmagehfkcnjjaaGreatDoor
