/-
  What a chain of a subpath is like: plain words.
-/
import Derived.Test.YtcdnekhpeghkiaaQJ
namespace Go.Proofs.Ytcdnekhpeghkiaa
set_option linter.unusedVariables false

/-- where a subpath ends -/
def endS (s : SubP) : Int × Int := match s.segs.getLast? with
  | none => s.st
  | some g => enP g
theorem chL_last (t : Int) (p : Int × Int) (segs : List En) (hg : ∀ a ∈ segs, GoodE a) : (chL t p segs).getLast? = some (match segs.getLast? with | none => p | some g => enP g) := by
  unfold chL
  rcases List.eq_nil_or_concat segs with rfl | ⟨r, a, rfl⟩
  · simp
  · have ha := flat_last t a (hg a (by simp))
    rw [List.concat_eq_append, List.flatMap_append]
    simp only [List.flatMap_cons, List.flatMap_nil, List.append_nil, List.getLast?_append, List.getLast?_singleton, Option.some_or]
    rw [List.getLast?_cons, List.getLast?_append, ha]
    simp
theorem chn_open (l : List (Int × Int)) : chn false l = cpt l := by
  unfold chn chB; simp
theorem cpt_len1 (l : List (Int × Int)) (h : l ≠ []) : 1 ≤ (cpt l).length := by
  have := cpt_ne l h
  cases e : cpt l with
  | nil => exact absurd e this
  | cons a r => simp
/-- the chain, as its corners without repeats: all of them, or all but the last, that is the first one again -/
theorem chn_cases (cl : Bool) (l : List (Int × Int)) (h : l ≠ []) :
    (chn cl l = cpt l ∧ (cl = true → 1 < (cpt l).length → (cpt l).getLast? ≠ (cpt l).head?)) ∨
    (cl = true ∧ chn cl l = (cpt l).take ((cpt l).length - 1) ∧ 1 < (cpt l).length ∧ (cpt l).getLast? = (cpt l).head?) := by
  unfold chn
  cases e : chB cl l
  · left
    refine ⟨by simp, fun hc h1 h2 => ?_⟩
    unfold chB at e
    rw [hc] at e
    simp [h1, h2] at e
  · right
    unfold chB at e
    simp only [Bool.and_eq_true, decide_eq_true_eq] at e
    exact ⟨e.1.1, by simp, e.1.2, e.2⟩
theorem chn_len (cl : Bool) (l : List (Int × Int)) (h : l ≠ []) : 1 ≤ (chn cl l).length := by
  have h1 := cpt_len1 l h
  rcases chn_cases cl l h with ⟨e, _⟩ | ⟨_, e, h2, _⟩
  · rw [e]; exact h1
  · rw [e, List.length_take]; omega
theorem chn_len9 (cl : Bool) (l : List (Int × Int)) : (chn cl l).length ≤ l.length := by
  have h1 := cpt_len l
  by_cases h : l = []
  · subst h; unfold chn chB; simp [cpt]
  · rcases chn_cases cl l h with ⟨e, _⟩ | ⟨_, e, h2, _⟩
    · rw [e]; exact h1
    · rw [e, List.length_take]; omega
theorem chn_at (cl : Bool) (l : List (Int × Int)) (h : l ≠ []) (i : Nat) (p : Int × Int) (hp : (chn cl l)[i]? = some p) : (cpt l)[i]? = some p := by
  rcases chn_cases cl l h with ⟨e, _⟩ | ⟨_, e, h2, _⟩
  · rw [e] at hp; exact hp
  · rw [e, List.getElem?_take] at hp
    split at hp
    · exact hp
    · cases hp
theorem chn_first (cl : Bool) (l : List (Int × Int)) (p : Int × Int) (h : l.head? = some p) : (chn cl l)[0]? = some p := by
  have hl : l ≠ [] := by rintro rfl; simp at h
  have h1 := chn_len cl l hl
  obtain ⟨q, hq⟩ : ∃ q, (chn cl l)[0]? = some q := ⟨_, List.getElem?_eq_getElem (by omega)⟩
  have h2 := chn_at cl l hl 0 q hq
  rw [← List.head?_eq_getElem?, cpt_head, h] at h2
  rw [hq, h2]
theorem chn_apart (cl : Bool) (l : List (Int × Int)) (h : l ≠ []) (i : Nat) (a b : Int × Int) (ha : (chn cl l)[i]? = some a) (hb : (chn cl l)[i + 1]? = some b) : a ≠ b :=
  (cpt_apart l).at i a b (chn_at cl l h i a ha) (chn_at cl l h (i + 1) b hb)
theorem chn_last (l : List (Int × Int)) (p : Int × Int) (h : l.getLast? = some p) (m : Nat) (hm : (chn false l).length = m + 1) : (chn false l)[m]? = some p := by
  rw [chn_open] at hm ⊢
  have := cpt_last l
  rw [h, List.getLast?_eq_getElem?, hm] at this
  simpa using this
theorem chn_ends (l : List (Int × Int)) (h : l ≠ []) (m : Nat) (hm : (chn true l).length = m + 1) (h1 : 0 < m) (a b : Int × Int) (ha : (chn true l)[m]? = some a) (hb : (chn true l)[0]? = some b) : a ≠ b := by
  have hb' := chn_at true l h 0 b hb
  rcases chn_cases true l h with ⟨e, hne⟩ | ⟨_, e, h2, hl⟩
  · rw [e] at hm ha
    have := hne rfl (by omega)
    rw [List.getLast?_eq_getElem?, hm, List.head?_eq_getElem?, hb'] at this
    intro k
    subst k
    exact this (by simpa using ha)
  · rw [e, List.length_take] at hm
    have hl' : (cpt l)[m + 1]? = some b := by
      rw [List.getLast?_eq_getElem?, List.head?_eq_getElem?, hb'] at hl
      rw [← hl]
      congr 1
      omega
    exact (cpt_apart l).at m a b (chn_at true l h m a ha) hl'
theorem chL_head (t : Int) (p : Int × Int) (segs : List En) : (chL t p segs).head? = some p := rfl
theorem chL_ne (t : Int) (p : Int × Int) (segs : List En) : chL t p segs ≠ [] := by simp [chL]
theorem chL_len (t : Int) (p : Int × Int) (segs : List En) (hg : ∀ a ∈ segs, GoodE a) : (chL t p segs).length ≤ 1 + 1024 * segs.length := by
  unfold chL
  induction segs with
  | nil => simp
  | cons a r ih =>
    have h1 := flat_len t a (hg a (by simp))
    have h2 := ih (fun b hb => hg b (List.mem_cons_of_mem _ hb))
    simp only [List.flatMap_cons, List.length_cons, List.length_append] at h2 ⊢
    omega
theorem flatMap_at {α : Type} (f : α → List Value) (k : Nat) (hk : ∀ a, (f a).length = k) : ∀ (l : List α) (i j : Nat) (a : α), l[i]? = some a → j < k → (l.flatMap f)[i * k + j]? = (f a)[j]?
  | [], i, j, a, h, _ => by simp at h
  | b :: r, 0, j, a, h, hj => by
    obtain rfl : b = a := by simpa using h
    rw [List.flatMap_cons, Nat.zero_mul, Nat.zero_add, List.getElem?_append_left (by rw [hk]; exact hj)]
  | b :: r, i + 1, j, a, h, hj => by
    rw [List.flatMap_cons, List.getElem?_append_right (by rw [hk, Nat.add_mul]; omega), hk, show (i + 1) * k + j - k = i * k + j by rw [Nat.add_mul]; omega]
    exact flatMap_at f k hk r i j a (by simpa using h) hj
theorem own_segs {W : World} {B : Nat} {v : Value} {segs : List En} (h : W.ownsRow B 26 9 v segs.length (flE segs)) : SegsAt W v segs := by
  rcases Go.Joins.ownsRow_forms h with ⟨h1, h2⟩ | ⟨g, cap, rfl⟩
  · exact .inl ⟨h1, List.eq_nil_of_length_eq_zero h2⟩
  · have hl := h.lt g rfl
    have hc : segs.length ≤ cap := by
      rcases h.2 with ⟨h', _⟩ | ⟨g', cap', cur, h', _, _, hnc, _⟩
      · simp at h'
      · simp only [Value.slice.injEq] at h'
        omega
    refine .inr ⟨g, 0, cap, rfl, hl.2, hc, fun i s hs j hj => ?_⟩
    have hi : i < segs.length := (List.getElem?_eq_some_iff.1 hs).1
    rw [Nat.zero_add, h.cellAt (i * 9 + j) (by omega)]
    unfold flE
    rw [flatMap_at _ 9 (fun a => rfl) segs i j s hs hj]
    have : j = 0 ∨ j = 1 ∨ j = 2 ∨ j = 3 ∨ j = 4 ∨ j = 5 ∨ j = 6 ∨ j = 7 ∨ j = 8 := by omega
    rcases this with rfl | rfl | rfl | rfl | rfl | rfl | rfl | rfl | rfl <;> rfl
theorem Subs.at {W : World} {B : Nat} {sv : Value} {L : List (SubP × Value)} (h : Subs W B sv L) (i : Nat) (s : SubP) (v : Value) (hi : L[i]? = some (s, v)) :
    ∃ g c, sv = .slice (some ⟨g, 0, none⟩) L.length c ∧ g < W.heap.size ∧ (∀ j, j < 4 → W.cell? ⟨g, i * 4 + j, none⟩ = (subV s v)[j]?) ∧ SegsAt W v s.segs := by
  have hl : i < L.length := (List.getElem?_eq_some_iff.1 hi).1
  have ho := h.own
  obtain ⟨g, c, rfl⟩ := Go.Joins.ownsRow_form ho (by omega)
  refine ⟨g, c, rfl, (ho.lt g rfl).2, fun j hj => ?_, own_segs (h.rows (s, v) (List.mem_of_getElem? hi))⟩
  rw [ho.cellAt (i * 4 + j) (by omega)]
  unfold subsV
  exact flatMap_at _ 4 (fun a => rfl) L i j (s, v) hi hj
end Go.Proofs.Ytcdnekhpeghkiaa
