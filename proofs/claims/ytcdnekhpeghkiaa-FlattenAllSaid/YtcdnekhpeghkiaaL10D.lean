/-
  Subpaths that are dots: walked.
-/
import Derived.Test.YtcdnekhpeghkiaaC2
import Derived.Test.YtcdnekhpeghkiaaL10C
namespace Go.Proofs.Ytcdnekhpeghkiaa
set_option linter.unusedVariables false
open Go.RowKit

def dotE (a b : Int) : En := sg3 a b a b a b
def dotV (a b : Int) : List Value := [.int .i64 a, .int .i64 b, .int .i64 a, .int .i64 b, .int .i64 a, .int .i64 b, .int .i64 0, .int .i64 0, .int .i64 3]
def dotsV (a b : Int) : Nat → List Value
  | 0 => []
  | k + 1 => dotsV a b k ++ dotV a b
theorem dotsV_len (a b : Int) : ∀ k, (dotsV a b k).length = k * 9
  | 0 => rfl
  | k + 1 => by unfold dotsV; rw [List.length_append, dotsV_len a b k]; simp [dotV]; omega
theorem dotsV_at (a b : Int) : ∀ (k i j : Nat), i < k → j < 9 → (dotsV a b k)[i * 9 + j]? = some (.int .i64 (dotE a b j))
  | 0, i, j, h, _ => by omega
  | k + 1, i, j, h, hj => by
    unfold dotsV
    by_cases e : i < k
    · rw [List.getElem?_append_left (by rw [dotsV_len]; omega)]
      exact dotsV_at a b k i j e hj
    · have : i = k := by omega
      subst this
      rw [List.getElem?_append_right (by rw [dotsV_len]; omega), dotsV_len, show i * 9 + j - i * 9 = j by omega]
      have : j = 0 ∨ j = 1 ∨ j = 2 ∨ j = 3 ∨ j = 4 ∨ j = 5 ∨ j = 6 ∨ j = 7 ∨ j = 8 := by omega
      rcases this with rfl | rfl | rfl | rfl | rfl | rfl | rfl | rfl | rfl <;> rfl
theorem dots_at (w : World) (base : Nat) (v : Value) (a b : Int) (k : Nat) (h : w.ownsRow base 26 9 v k (dotsV a b k)) : SegsAt w v (List.replicate k (dotE a b)) := by
  rcases Go.Joins.ownsRow_forms h with ⟨h1, h2⟩ | ⟨g, cap, rfl⟩
  · subst h2; exact .inl ⟨h1, rfl⟩
  · have hl := h.lt g rfl
    have hc : k ≤ cap := by
      rcases h.2 with ⟨h', _⟩ | ⟨g', cap', cur, h', _, _, hnc, _⟩
      · simp at h'
      · simp only [Value.slice.injEq] at h'
        omega
    refine .inr ⟨g, 0, cap, by rw [List.length_replicate], hl.2, by rw [List.length_replicate]; exact hc, fun i s hs j hj => ?_⟩
    have hi : i < k := by have := (List.getElem?_eq_some_iff.1 hs).1; simpa using this
    have es : s = dotE a b := by rw [List.getElem?_replicate] at hs; simp [hi] at hs; exact hs.symm
    subst es
    rw [Nat.zero_add, h.cellAt (i * 9 + j) (by omega)]
    exact dotsV_at a b k i j hi hj
theorem dot_good (a b : Int) (ha : nrB a = true) (hb : nrB b = true) : GoodE (dotE a b) ∧ (dotE a b) 9 = 0 := by
  rw [nrB_iff] at ha hb
  refine ⟨⟨by right; left; rfl, by show (0 : Int) ≤ 0; omega, by show (0 : Int) ≤ 10; omega, fun i hi => ?_⟩, rfl⟩
  have : i = 0 ∨ i = 1 ∨ i = 2 ∨ i = 3 ∨ i = 4 ∨ i = 5 ∨ i = 6 ∨ i = 7 := by omega
  rcases this with rfl | rfl | rfl | rfl | rfl | rfl | rfl | rfl <;> simp only [dotE, sg3] <;> omega
theorem dot_all (a b : Int) : (flat 50).all (dotE a b) = [(a, b)] := by
  refine (flat 50).all_yes (dotE a b) ?_
  show smpB 50 (dotE a b) = true
  have h1 : shpB (dotE a b) = false := by
    show decide ((a - a) * (a - a) + (b - b) * (b - b) < 0) = false
    simp
  have hx : ∀ x : Int, wB (x + nrst ((x - x) * 1) 2 - x) 50 = true := fun x => by
    rw [show (x - x) * 1 = 0 by omega, nrst_zero 2 (by omega)]
    unfold wB
    simp only [Bool.and_eq_true, decide_eq_true_eq]
    omega
  have h2 : fltB (dotE a b) 50 = true := by
    have hn : nn (dotE a b) = 3 := rfl
    unfold fltB
    rw [if_neg (by omega), if_pos hn]
    have e0 : wB (offX (dotE a b) 0 1) 50 = true := hx a
    have e1 : wB (offX (dotE a b) 1 1) 50 = true := hx b
    rw [e0, e1]
    rfl
  unfold smpB
  rw [h1, h2]
  simp
theorem dots_chn (a b : Int) (cl : Bool) (k : Nat) : chn cl (chL 50 (a, b) (List.replicate k (dotE a b))) = [(a, b)] := by
  have e : chL 50 (a, b) (List.replicate k (dotE a b)) = List.replicate (k + 1) (a, b) := by
    unfold chL
    have : (List.replicate k (dotE a b)).flatMap (flat 50).all = List.replicate k (a, b) := by
      induction k with
      | zero => rfl
      | succ k ih => rw [List.replicate_succ, List.flatMap_cons, ih, dot_all, List.replicate_succ]; rfl
    rw [this, List.replicate_succ]
  rw [e]
  have h := cpt_rep (a, b) k
  unfold chn chB
  rw [h]
  simp
theorem infoSeg : ∃ i, Try.prog.info? 26 = some i ∧ i.zero = some (.agg #[.int .i64 0, .int .i64 0, .int .i64 0, .int .i64 0, .int .i64 0, .int .i64 0, .int .i64 0, .int .i64 0, .int .i64 0]) ∧ i.size = 9 ∧ i.bytes = 72 := by
  have h : (Try.prog.info? 26).map (fun i => (i.zero, i.size, i.bytes)) = some (some (.agg #[.int .i64 0, .int .i64 0, .int .i64 0, .int .i64 0, .int .i64 0, .int .i64 0, .int .i64 0, .int .i64 0, .int .i64 0]), 9, 72) := by kernel_rfl
  cases e : Try.prog.info? 26 with
  | none => rw [e] at h; cases h
  | some i =>
    rw [e] at h
    simp only [Option.map_some, Option.some.injEq, Prod.mk.injEq] at h
    exact ⟨i, rfl, h.1, h.2.1, h.2.2⟩
theorem dotV_one (a b : Int) : ∀ x ∈ dotV a b, x.oneCell' = true := by
  intro x hx
  simp only [dotV, List.mem_cons, List.not_mem_nil, or_false] at hx
  rcases hx with rfl | rfl | rfl | rfl | rfl | rfl | rfl | rfl | rfl <;> rfl
structure DInv (w : World) (a b : Int) (cl : Bool) (k : Nat) (v : Value) (W : World) : Prop where
  own : W.ownsRow (w.heap.size + 2) 26 9 v k (dotsV a b k)
  box : Blk W w.heap.size 23 #[.int .i64 a, .int .i64 b]
  sub : Blk W (w.heap.size + 1) 60 #[.int .i64 a, .int .i64 b, v, .bool cl]
  below : Below w.heap.size w W
  size : w.heap.size + 2 ≤ W.heap.size
theorem nine_new (W : World) (a b : Int) : ∀ j u, (dotV a b)[j]? = some u → (W.alloc (.cells #[.int .i64 a, .int .i64 b, .int .i64 a, .int .i64 b, .int .i64 a, .int .i64 b, .int .i64 0, .int .i64 0, .int .i64 3] 26)).cell? ((⟨W.heap.size, 0, none⟩ : Addr).add j) = some u := by
  intro j u h
  rw [Addr.add_mid, Nat.zero_add, (Blk.new W 26 #[.int .i64 a, .int .i64 b, .int .i64 a, .int .i64 b, .int .i64 a, .int .i64 b, .int .i64 0, .int .i64 0, .int .i64 3]).cell]
  simpa [dotV] using h
theorem of_dots (a b : Int) (cl : Bool) (v : Value) (k : Nat) (w : World) (hg : GoodE (dotE a b) ∧ (dotE a b) 9 = 0) (hk : k ≤ 4) (h : SegsAt w v (List.replicate k (dotE a b))) :
    Calls Try.prog 25 #[.agg #[.int .i64 a, .int .i64 b, v, .bool cl], .int .i64 50] w (ORet w cl [(a, b)]) := by
  have c := chainOf_c w (a, b) (List.replicate k (dotE a b)) v cl 50 (by omega) (by omega) h (by rw [List.length_replicate]; omega) (fun s hs => by rw [List.eq_of_mem_replicate hs]; exact hg)
  rw [dots_chn] at c
  exact c
end Go.Proofs.Ytcdnekhpeghkiaa
