/-
  Texts that stand as one.
-/
import Derived.Test.YtfgppkiioinphaaKA
import Derived.RangeFuncNested
import Derived.RangeFuncBound
import Derived.RangeFuncCalls
import Derived.RangeFuncLeaves
import Derived.RangeFuncFrom
import Derived.Shelf.Abstract
import Derived.Shelf.RegionOpen
import Derived.OwnWalkIn
import Derived.TacticsInMore
import Derived.LoopNIn
import Derived.LoopIn
import Derived.Test.YtfgppkiioinphaaRows
import Derived.ProofKit
import Derived.OpenShut
import Derived.Lib.SmallJoins
/-
  Plain arithmetic: the root of a whole number, rounded down; Newton's step from above; the root bit by bit.
-/
namespace Go.Proofs.Ytfgppkiioinphaa
set_option linter.unusedVariables false

structure IsRoot (N r : Int) : Prop where
  r0 : 0 ≤ r
  le : r * r ≤ N
  lt : N < (r + 1) * (r + 1)

theorem root_mono {N r x : Int} (h : IsRoot N r) (x0 : 0 ≤ x) (hx : x * x ≤ N) : x ≤ r := by
  rcases Int.lt_or_le r x with k | k
  · have := Int.mul_le_mul (show r + 1 ≤ x by omega) (show r + 1 ≤ x by omega) (by have := h.r0; omega) x0
    have := h.lt
    omega
  · exact k
theorem root_above {N r x : Int} (h : IsRoot N r) (x0 : 0 ≤ x) (hx : x ≤ r) : x * x ≤ N := by
  have := Int.mul_le_mul hx hx x0 h.r0
  have := h.le
  omega
theorem root_unique {N r s : Int} (h : IsRoot N r) (k : IsRoot N s) : r = s := by
  have a := root_mono h k.r0 k.le
  have b := root_mono k h.r0 h.le
  omega

theorem root_exists : ∀ n : Nat, ∃ r : Nat, IsRoot n r
  | 0 => ⟨0, by omega, by omega, by omega⟩
  | n + 1 => by
    obtain ⟨r, h⟩ := root_exists n
    have h1 := h.le
    have h2 := h.lt
    by_cases k : ((r : Int) + 1) * (r + 1) ≤ ((n + 1 : Nat) : Int)
    · refine ⟨r + 1, by omega, ?_, ?_⟩
      · simpa using k
      · have e : (((r + 1 : Nat) : Int) + 1) * (((r + 1 : Nat) : Int) + 1) = ((r : Int) + 1) * (r + 1) + 2 * (r + 1) + 1 := by
          have : (((r + 1 : Nat) : Int)) = (r : Int) + 1 := by omega
          rw [this, Int.add_mul (↑r + 1) 1, Int.mul_add (↑r + 1)]
          omega
        rw [e]
        omega
    · exact ⟨r, by omega, by omega, by omega⟩

/-- the root -/
noncomputable def isq (N : Int) : Int := ((root_exists N.toNat).choose : Nat)
theorem isq_is (N : Int) (h : 0 ≤ N) : IsRoot N (isq N) := by
  have e := Int.toNat_of_nonneg h
  have k := (root_exists N.toNat).choose_spec
  unfold isq
  generalize (root_exists N.toNat).choose = r at *
  rw [e] at k
  exact k
theorem isq_of {N r : Int} (h : 0 ≤ N) (k : IsRoot N r) : isq N = r := root_unique (isq_is N h) k

theorem sq_add (x y : Int) : (x + y) * (x + y) = x * x + 2 * (x * y) + y * y := by
  rw [Int.add_mul, Int.mul_add, Int.mul_add, Int.mul_comm y x]; omega

/-- Newton's step from above stays above -/
theorem newton_above {N r x : Int} (h : IsRoot N r) (x0 : 0 < x) (hx : r ≤ x) : r ≤ (x + N / x) / 2 := by
  rcases Int.lt_or_le ((x + N / x) / 2) r with k | k
  · have e := Int.mul_ediv_add_emod N x
    have m0 := Int.emod_nonneg N (show x ≠ 0 by omega)
    have m1 := Int.emod_lt_of_pos N x0
    have q1 : N / x ≤ 2 * r - 1 - x := by omega
    have q2 := Int.mul_le_mul_of_nonneg_left q1 (Int.le_of_lt x0)
    have d : 0 ≤ (x - r) * (x - r) := by
      rcases Int.lt_or_le (x - r) 0 with a | a
      · omega
      · exact Int.mul_nonneg a a
    have e2 : x * (2 * r - 1 - x) = 2 * (x * r) - x - x * x := by rw [Int.mul_sub, Int.mul_sub, Int.mul_left_comm]; omega
    have e3 : (x - r) * (x - r) = x * x - 2 * (x * r) + r * r := by rw [Int.sub_mul, Int.mul_sub, Int.mul_sub, Int.mul_comm r x]; omega
    have := h.le
    omega
  · exact k
/-- where it does not fall any more it is the root -/
theorem newton_end {N r x : Int} (h : IsRoot N r) (x0 : 0 < x) (hx : r ≤ x) (hn : x ≤ (x + N / x) / 2) : x = r := by
  have q : x ≤ N / x := by omega
  have e := Int.mul_ediv_add_emod N x
  have m0 := Int.emod_nonneg N (show x ≠ 0 by omega)
  have q2 := Int.mul_le_mul_of_nonneg_left q (Int.le_of_lt x0)
  have := root_mono h (Int.le_of_lt x0) (by omega)
  omega
/-- a guess at most the upper half -/
theorem newton_high {hi lo r x : Int} (h : IsRoot (hi * 18446744073709551616 + lo) r) (x0 : 0 ≤ x) (x1 : x ≤ 18446744073709551615) (l0 : 0 ≤ lo) (hx : r ≤ x) (hh : x ≤ hi) : x = r := by
  have q := Int.mul_le_mul_of_nonneg_left (show x ≤ 18446744073709551616 by omega) x0
  have := root_mono h x0 (by omega)
  omega
theorem root_lt {N r : Int} (h : IsRoot N r) (b : Int) (b0 : 0 ≤ b) (hN : N < b * b) : r < b := by
  rcases Int.lt_or_le r b with k | k
  · exact k
  · have := root_above h b0 k
    omega

end Go.Proofs.Ytfgppkiioinphaa

/-
  A range over a function whose assignment stores into a box ('for x = range seq {}'): what holds between the assignment and the body is a word of its own, that may speak of what has come. No way out of the loop but its end.
-/
namespace Go.Proofs.Ytfgppkiioinphaa
set_option linter.unusedVariables false
open Go.RowKit Go.Shelf

section
variable {P : Program} {F : Fence} {n : Nat}

/-- the loop's record in a state -/
def recAt (fn : FuncId) (tmps : Array Value) (ps : Array Tmp) (assign body : Code) (D : Nat) (st : LoopState) (pe : Option Code) : Obj :=
  .loop { state := st, pending := pe, fn, tmps, params := ps, assign, body, defers := D }

theorem wpIn_rangeFunc_mid {α : Type} {g : Operand} {ps : Array Tmp} {assign body : Code} {Q : Exit → Act → World → Prop} {a : Act} {w : World}
    (hro : F.round = none) (h1 : 1 ≤ n) {gf : Nat} {lb : Array Value} (hg : a.eval g = .func (.func gf) #[] lb) (hF : F.fn gf) (eg : ∀ args w, (callFunc gf args).run P w = .ok (.enter gf args) w)
    {encs : α → Array Value} {Kp : World → World → Prop} {S : List α → Prop} {N : Nat} {w0 : World} (hseq : SeqStopsK F (n - 1) P gf lb encs Kp S (fun _ => True) N w0)
    (hKt : ∀ {A B C : World}, Kp A B → Kp B C → Kp A C) (hKb : ∀ (W : World) (l : Nat) (o o' : Obj), w.heap.size ≤ l → W.heap[l]? = some o → o.isCells = false → o.isWalk = false → Kp W (W.putObj l o'))
    (hb0 : Below w0.heap.size w0 w) (hps : ∀ x, (encs x).size = ps.size)
    (I : List α → World → Prop) (hI : OwnFrom w.heap.size I) (h0 : I [] w) (M : List α → α → Act → World → Prop) (hM : ∀ pre x a', OwnFrom w.heap.size (fun (_ : Unit) W => M pre x a' W))
    (hassign : ∀ (l : Nat) (pre : List α) (x : α) (W : World) (K : Act → World → Prop), I pre W → (∀ a' W', KeepsFrom w.heap.size W W' → Kp W W' → M pre x a' W' → K a' W') →
      assign.wpIn (F.inRound l) (n - 1 - 1) P (Exit.then K (fun _ _ _ => False)) { tmps := (ps.zip (encs x)).foldl (fun t (p, v) => t.setIfInBounds p v) a.tmps, defers := [] } W)
    (hbody : ∀ (l : Nat) (pre : List α) (x : α) (a' : Act) (W : World), M pre x a' W → pre.length < N →
      body.wpIn (F.inRound l) (n - 1 - 1) P (Exit.then (fun _ W' => KeepsFrom w.heap.size W W' ∧ Kp W W' ∧ I (pre ++ [x]) W') (fun _ _ _ => False)) a' W)
    (hdone : ∀ (D : Nat) (xs : List α) (W : World), w.heap.size ≤ D → S xs → I xs W → W.heap[D]? = some (.deferred (some [])) → Q .normal { a with defers := { target := .collected D, args := #[] } :: a.defers } W) :
    (Code.rangeFunc g ps assign body).wpIn F n P Q a w := by
  refine wpIn_rangeFunc ?_
  intro fn hfn
  rw [hro]
  have nd : (w.alloc (.deferred (some []))).heap.size = w.heap.size + 1 := World.size_alloc _ _
  obtain ⟨R, hR⟩ : ∃ R : LoopState → Option Code → Obj, R = recAt fn a.tmps ps assign body w.heap.size := ⟨_, rfl⟩
  have Rcells : ∀ st pe, (R st pe).isCells = false := fun _ _ => by rw [hR]; rfl
  have Rwalk : ∀ st pe, (R st pe).isWalk = false := fun _ _ => by rw [hR]; rfl
  obtain ⟨V, hV⟩ : ∃ V, (w.alloc (.deferred (some []))).alloc (R .ready none) = V := ⟨_, rfl⟩
  have vs : V.heap.size = w.heap.size + 1 + 1 := by rw [← hV]; simp
  have vl : V.heap[w.heap.size + 1]? = some (R .ready none) := by
    have := World.alloc_heap_new (w.alloc (.deferred (some []))) (R .ready none)
    rwa [nd, hV] at this
  have vd : V.heap[w.heap.size]? = some (.deferred (some [])) := by
    rw [← hV]; exact (Below.heap_alloc _ _ _ (by rw [nd]; omega)).trans (World.alloc_heap_new w _)
  have vI : I [] V := by rw [← hV]; exact hI.alloc _ (hI.alloc _ h0)
  have vb : Below w0.heap.size w0 V := by
    have : Below w.heap.size w V := by rw [← hV]; exact ((Below.refl _ w).alloc (Nat.le_refl _) _).alloc (by rw [nd]; omega) _
    exact hb0.trans (this.mono hb0.size)
  -- what a step that turns no cells and nothing below the loop keeps
  have cast : ∀ {A : World} {row : Option Nat}, (∀ r, row = some r → V.heap.size ≤ r ∧ ∃ o : Obj, A.heap[r]? = some o ∧ o.isWalk = true) → (∀ r, row = some r → w.heap.size ≤ r ∧ ∃ o : Obj, A.heap[r]? = some o ∧ o.isCells = false) :=
    fun h r e => let ⟨hB, o, ho, hw⟩ := h r e; ⟨by omega, o, ho, Obj.not_cells_of_walk hw⟩
  refine ⟨w.heap.size + 1, [{ target := .collected w.heap.size, args := #[] }], V, { target := .fn (.func gf) lb, args := #[.func (.yield (w.heap.size + 1)) #[] #[]] }, V, gf,
    #[.func (.yield (w.heap.size + 1)) #[] #[]] ++ lb, V, ?_, ?_, ?_, ?_, fun _ => h1, ?_⟩
  · rw [← hV, hR]; exact run_enterLoop_outer _ _ _ _ _
  · simp only [resolve, hg]
    simp [go_sem]
  · intro f' hf'
    simp [Target.leads] at hf'
    subst hf'
    exact hF
  · simp [invoke, go_sem, eg]
  · refine (hseq (w.heap.size + 1)
      (fun pre W => I pre W ∧ W.heap[w.heap.size + 1]? = some (R .ready none) ∧ W.heap[w.heap.size]? = some (.deferred (some [])))
      (fun _ _ => False) V vb
      (fun s A B row hs hk hr => ⟨hI s A B row hs.1 hk (cast hr), (grownBy_keeps hk (fun r e => (hr r e).2) hs.2.1 (Rwalk _ _)).trans hs.2.1, (grownBy_keeps hk (fun r e => (hr r e).2) hs.2.2 rfl).trans hs.2.2⟩)
      (fun _ _ _ _ hs _ _ => hs) ?_ ⟨vI, vl, vd⟩).mono ?_
    · rintro pre x W ⟨hi, hl, hk⟩ hlen
      have hl0 := hl
      rw [hR] at hl0
      have hy := run_yield (P := P) (args := encs x) hl0 (hps x)
      refine ⟨fn, _, assign, body, hy, roundIn_of_wpIn hfn (hassign _ pre x W _ hi ?_)⟩
      intro a' X kx bx mx
      have xl := kx.same _ _ (by omega) hl (Rcells _ _)
      have xd := kx.same _ _ (Nat.le_refl _) hk rfl
      have xlt : w.heap.size + 1 < X.heap.size := (Array.getElem?_eq_some_iff.1 xl).1
      have xl0 := xl
      rw [hR] at xl0
      refine ⟨_, run_beginRound xl0 rfl, ?_⟩
      obtain ⟨Y, hY⟩ : ∃ Y, X.putObj (w.heap.size + 1) (R .busy none) = Y := ⟨_, rfl⟩
      have yl : Y.heap[w.heap.size + 1]? = some (R .busy none) := by rw [← hY]; exact World.putObj_heap_same xlt
      have yd : Y.heap[w.heap.size]? = some (.deferred (some [])) := by rw [← hY]; exact (World.putObj_heap_other (by omega)).trans xd
      have yb : Kp X Y := by rw [← hY]; exact hKb X _ _ _ (by omega) xl (Rcells _ _) (Rwalk _ _)
      have ym : M pre x a' Y := by rw [← hY]; exact (hM pre x a').putObj (s := ()) _ mx (by omega) xl (Rcells _ _)
      have hY' : X.putObj (w.heap.size + 1) (.loop { state := .busy, pending := none, fn, tmps := a.tmps, params := ps, assign, body, defers := w.heap.size }) = Y := by rw [← hY, hR]; rfl
      refine wpIn_mono (by rw [hY']; exact hbody _ pre x a' Y ym hlen) ?_
      rintro e a3 Z hz
      cases e with
      | normal =>
        obtain ⟨kz, bz, iz⟩ := hz
        have zl := kz.same _ _ (by omega) yl (Rcells _ _)
        have zd := kz.same _ _ (Nat.le_refl _) yd rfl
        have zlt := (Array.getElem?_eq_some_iff.1 zl).1
        have zl0 := zl
        rw [hR] at zl0
        refine ⟨_, _, run_endRound (P := P) none zl0, .inl ⟨rfl, ⟨hI.putObj _ iz (by omega) zl (Rcells _ _), ?_, (World.putObj_heap_other (by omega)).trans zd⟩, hKt bx (hKt (hKt yb bz) (hKb Z _ _ _ (by omega) zl (Rcells _ _) (Rwalk _ _)))⟩⟩
        rw [World.putObj_heap_same zlt, hR]
        rfl
      | ret => exact hz.elim
      | exit id => exact hz.elim
      | goto t => exact hz.elim
      | panic ch => exact hz.elim
      | outgrown => exact hz.elim
    · rintro e Z ⟨⟨v, rfl⟩, (⟨xs, hS, iz, zl, zd⟩ | ⟨_, _, h⟩)⟩
      · have zl0 := zl
        rw [hR] at zl0
        exact ⟨none, _, run_endLoop (P := P) zl0 (by simp), hdone _ xs _ (Nat.le_refl _) hS (hI.putObj _ iz (by omega) zl (Rcells _ _)) ((World.putObj_heap_other (by omega)).trans zd)⟩
      · exact h.elim
end
end Go.Proofs.Ytfgppkiioinphaa

/-
  The contract of the root: Newton's guesses, from above, come by an iterator.
-/
namespace Go.Proofs.Ytfgppkiioinphaa
set_option linter.unusedVariables false
open Go.RowKit Go.Shelf

theorem half_val (a b : Int) (a0 : 0 ≤ a) (a1 : a ≤ 18446744073709551615) (b0 : 0 ≤ b) (b1 : b ≤ 18446744073709551615) :
    bits .or .u64 (addS a b 0 / 2) (IntKind.u64.wrap (addC a b 0 * 9223372036854775808)) = (a + b) / 2 := by
  obtain ⟨A, rfl⟩ := Int.eq_ofNat_of_zero_le a0
  obtain ⟨B, rfl⟩ := Int.eq_ofNat_of_zero_le b0
  by_cases h : A + B < 18446744073709551616
  · have e1 : addS (A : Int) B 0 / 2 = (((A + B) / 2 : Nat) : Int) := by unfold addS; omega
    have e2 : IntKind.u64.wrap (addC (A : Int) B 0 * 9223372036854775808) = ((0 : Nat) : Int) := by
      unfold addC; rw [if_pos (by omega), IntKind.wrap_u64]; omega
    rw [e1, e2, bits_or_u64_nat _ _ (by omega) (by omega), Nat.or_zero]
    omega
  · have e1 : addS (A : Int) B 0 / 2 = (((A + B - 18446744073709551616) / 2 : Nat) : Int) := by unfold addS; omega
    have e2 : IntKind.u64.wrap (addC (A : Int) B 0 * 9223372036854775808) = ((2 ^ 63 * 1 : Nat) : Int) := by
      unfold addC; rw [if_neg (by omega), IntKind.wrap_u64]; omega
    have hb : (A + B - 18446744073709551616) / 2 < 2 ^ 63 := by omega
    rw [e1, e2, bits_or_u64_nat _ _ (by omega) (by omega), Nat.or_comm, ← Nat.two_pow_add_eq_or_of_lt hb]
    omega

attribute [local go_sem] Oper.semAt_some

/-- two blocks lie as they lay -/
def Same2 (b c : Nat) (W W' : World) : Prop := W'.heap[b]? = W.heap[b]? ∧ W'.heap[c]? = W.heap[c]?
theorem Same2.trans {b c : Nat} {A B C : World} (h : Same2 b c A B) (k : Same2 b c B C) : Same2 b c A C := ⟨k.1.trans h.1, k.2.trans h.2⟩

theorem Later.grown {w : World} (x : Later w) : w.grownBy x.out none := ⟨x.below.os, x.below.tape, x.below.output, x.below.size, fun k hk _ => x.below.block k hk⟩


end Go.Proofs.Ytfgppkiioinphaa

/-
  The contract of the root, and of the layer's calls.
-/
namespace Go.Proofs.Ytfgppkiioinphaa
set_option linter.unusedVariables false
open Go.RowKit Go.Shelf

theorem and63 : ∀ k : Fin 64, bits .and .i64 ((k.val : Nat) : Int) 63 = ((k.val : Nat) : Int) := by decide +kernel


attribute [local go_sem] Oper.semAt_some

end Go.Proofs.Ytfgppkiioinphaa

/-
  The contracts of the layer's calls: Sqrt, Long, Square.
-/
namespace Go.Proofs.Ytfgppkiioinphaa
set_option linter.unusedVariables false
open Go.RowKit

/-- the root of a number of any sign -/
noncomputable def lng (n : Int) : Int := if n < 0 then 0 else isq n

theorem root_one {N r : Int} (h : IsRoot N r) (hN : 1 ≤ N) : 1 ≤ r := root_mono h (by omega) (by omega)

end Go.Proofs.Ytfgppkiioinphaa

/-
  The contract of fix's division, rounded down or to the nearest.
-/
namespace Go.Proofs.Ytfgppkiioinphaa
set_option linter.unusedVariables false
open Go.RowKit

/-- a quotient to the nearest one, halves up -/
def nrst (n c : Int) : Int := if c - n % c ≤ n % c then n / c + 1 else n / c
theorem nrst_R128 (n c : Int) (h : R128 n) (hc : 0 < c) : R128 (nrst n c) := by
  have m0 := Int.emod_nonneg n (show c ≠ 0 by omega)
  have m1 := Int.emod_lt_of_pos n hc
  have e := Int.mul_ediv_add_emod n c
  unfold R128 at *
  unfold nrst
  have b1 : n / c ≤ 170141183460469231731687303715884105727 := by
    refine Int.le_of_lt_add_one (Int.ediv_lt_of_lt_mul hc ?_)
    have := Int.mul_le_mul_of_nonneg_left (show (1 : Int) ≤ c by omega) (show (0 : Int) ≤ 170141183460469231731687303715884105728 by omega)
    omega
  have b0 : -170141183460469231731687303715884105728 ≤ n / c := by
    refine Int.le_ediv_of_mul_le hc ?_
    have := Int.mul_le_mul_of_nonneg_left (show (1 : Int) ≤ c by omega) (show (0 : Int) ≤ 170141183460469231731687303715884105728 by omega)
    omega
  split
  · have c2 : 2 ≤ c := by omega
    refine ⟨by omega, ?_⟩
    have : n / c < 170141183460469231731687303715884105727 := by
      refine Int.ediv_lt_of_lt_mul hc ?_
      have := Int.mul_le_mul_of_nonneg_left c2 (show (0 : Int) ≤ 170141183460469231731687303715884105727 by omega)
      omega
    omega
  · exact ⟨b0, by omega⟩


set_option maxRecDepth 100000 in
set_option maxHeartbeats 600000 in
theorem divided_false_true (a b c h l h1 l1 h2 l2 t v : Int) (w : World) (t0 : 0 ≤ t) (t1 : t < c) (c9 : c ≤ 9223372036854775807)
    (c1 : ∀ w', Calls Try.prog 76 #[.int .i64 a, .int .i64 b] w' fun e w'' => e = .returned (.agg #[.int .i64 h, .int .u64 l]) ∧ ∃ x : Later w', w'' = x.out)
    (c2 : ∀ w', Calls Try.prog 75 #[.agg #[.int .i64 h, .int .u64 l], .int .i64 c] w' fun e w'' => e = .returned (.tuple #[.agg #[.int .i64 h1, .int .u64 l1], .int .i64 t, .int .i64 0]) ∧ ∃ x : Later w', w'' = x.out)
    
    (c5 : ∀ w', Calls Try.prog 79 #[.agg #[.int .i64 h1, .int .u64 l1]] w' fun e w'' => e = .returned (.tuple #[.int .i64 v, .bool true]) ∧ ∃ x : Later w', w'' = x.out) :
    Calls Try.prog 69 #[.int .i64 a, .int .i64 b, .int .i64 c, .bool false] w fun e w' => e = .returned (.tuple #[.int .i64 v, .int .i64 0]) ∧ ∃ x : Later w, w' = x.out := by
  have Hc1 := Lib.hid c1; clear c1
  have Hc2 := Lib.hid c2; clear c2
  have Hc5 := Lib.hid c5; clear c5
  go_enter Try.func69, Try.ntmps69
  go_wp2_with (first | (go_at_call 76; (with_reducible refine (Hc1.out _).mono ?_); rintro e _ ⟨rfl, x, rfl⟩) | (go_at_call 75; (with_reducible refine (Hc2.out _).mono ?_); rintro e _ ⟨rfl, x, rfl⟩) | (go_at_call 79; (with_reducible refine (Hc5.out _).mono ?_); rintro e _ ⟨rfl, x, rfl⟩))
  exact bodyPost_ret (v := .tuple #[.int .i64 v, .int .i64 0]) (by simp [results, Try.results69, go_sem, *]) rfl ⟨rfl, (Later.mk_of (by repeat (first | (with_reducible assumption) | (with_reducible exact Below.refl _ _) | (with_reducible refine Later.after ?_ _) | (with_reducible refine Later.newer ?_ _) | (with_reducible refine Below.drew ?_) | (with_reducible refine Below.setCell ?_ (by first | exact Nat.le_refl _ | exact Nat.le_add_right _ _ | omega | (simp [go_sem]; done) | (simp [go_sem]; omega)) _))))⟩


set_option maxRecDepth 100000 in
set_option maxHeartbeats 600000 in
theorem divided_false_false (a b c h l h1 l1 h2 l2 t v : Int) (w : World) (t0 : 0 ≤ t) (t1 : t < c) (c9 : c ≤ 9223372036854775807)
    (c1 : ∀ w', Calls Try.prog 76 #[.int .i64 a, .int .i64 b] w' fun e w'' => e = .returned (.agg #[.int .i64 h, .int .u64 l]) ∧ ∃ x : Later w', w'' = x.out)
    (c2 : ∀ w', Calls Try.prog 75 #[.agg #[.int .i64 h, .int .u64 l], .int .i64 c] w' fun e w'' => e = .returned (.tuple #[.agg #[.int .i64 h1, .int .u64 l1], .int .i64 t, .int .i64 0]) ∧ ∃ x : Later w', w'' = x.out)
    
    (c5 : ∀ w', Calls Try.prog 79 #[.agg #[.int .i64 h1, .int .u64 l1]] w' fun e w'' => e = .returned (.tuple #[.int .i64 v, .bool false]) ∧ ∃ x : Later w', w'' = x.out) :
    Calls Try.prog 69 #[.int .i64 a, .int .i64 b, .int .i64 c, .bool false] w fun e w' => e = .returned (.tuple #[.int .i64 0, .int .i64 2]) ∧ ∃ x : Later w, w' = x.out := by
  have Hc1 := Lib.hid c1; clear c1
  have Hc2 := Lib.hid c2; clear c2
  have Hc5 := Lib.hid c5; clear c5
  go_enter Try.func69, Try.ntmps69
  go_wp2_with (first | (go_at_call 76; (with_reducible refine (Hc1.out _).mono ?_); rintro e _ ⟨rfl, x, rfl⟩) | (go_at_call 75; (with_reducible refine (Hc2.out _).mono ?_); rintro e _ ⟨rfl, x, rfl⟩) | (go_at_call 79; (with_reducible refine (Hc5.out _).mono ?_); rintro e _ ⟨rfl, x, rfl⟩))
  exact bodyPost_ret (v := .tuple #[.int .i64 0, .int .i64 2]) (by simp [results, Try.results69, go_sem, *]) rfl ⟨rfl, (Later.mk_of (by repeat (first | (with_reducible assumption) | (with_reducible exact Below.refl _ _) | (with_reducible refine Later.after ?_ _) | (with_reducible refine Later.newer ?_ _) | (with_reducible refine Below.drew ?_) | (with_reducible refine Below.setCell ?_ (by first | exact Nat.le_refl _ | exact Nat.le_add_right _ _ | omega | (simp [go_sem]; done) | (simp [go_sem]; omega)) _))))⟩


set_option maxRecDepth 100000 in
set_option maxHeartbeats 600000 in
theorem divided_true_dn_true (a b c h l h1 l1 h2 l2 t v : Int) (w : World) (t0 : 0 ≤ t) (t1 : t < c) (c9 : c ≤ 9223372036854775807) (g : t < c - t)
    (c1 : ∀ w', Calls Try.prog 76 #[.int .i64 a, .int .i64 b] w' fun e w'' => e = .returned (.agg #[.int .i64 h, .int .u64 l]) ∧ ∃ x : Later w', w'' = x.out)
    (c2 : ∀ w', Calls Try.prog 75 #[.agg #[.int .i64 h, .int .u64 l], .int .i64 c] w' fun e w'' => e = .returned (.tuple #[.agg #[.int .i64 h1, .int .u64 l1], .int .i64 t, .int .i64 0]) ∧ ∃ x : Later w', w'' = x.out)
    
    (c5 : ∀ w', Calls Try.prog 79 #[.agg #[.int .i64 h1, .int .u64 l1]] w' fun e w'' => e = .returned (.tuple #[.int .i64 v, .bool true]) ∧ ∃ x : Later w', w'' = x.out) :
    Calls Try.prog 69 #[.int .i64 a, .int .i64 b, .int .i64 c, .bool true] w fun e w' => e = .returned (.tuple #[.int .i64 v, .int .i64 0]) ∧ ∃ x : Later w, w' = x.out := by
  have Hc1 := Lib.hid c1; clear c1
  have Hc2 := Lib.hid c2; clear c2
  have Hc5 := Lib.hid c5; clear c5
  go_enter Try.func69, Try.ntmps69
  go_wp2_with (first | (go_at_call 76; (with_reducible refine (Hc1.out _).mono ?_); rintro e _ ⟨rfl, x, rfl⟩) | (go_at_call 75; (with_reducible refine (Hc2.out _).mono ?_); rintro e _ ⟨rfl, x, rfl⟩) | (go_at_call 79; (with_reducible refine (Hc5.out _).mono ?_); rintro e _ ⟨rfl, x, rfl⟩))
  exact bodyPost_ret (v := .tuple #[.int .i64 v, .int .i64 0]) (by simp [results, Try.results69, go_sem, *]) rfl ⟨rfl, (Later.mk_of (by repeat (first | (with_reducible assumption) | (with_reducible exact Below.refl _ _) | (with_reducible refine Later.after ?_ _) | (with_reducible refine Later.newer ?_ _) | (with_reducible refine Below.drew ?_) | (with_reducible refine Below.setCell ?_ (by first | exact Nat.le_refl _ | exact Nat.le_add_right _ _ | omega | (simp [go_sem]; done) | (simp [go_sem]; omega)) _))))⟩


set_option maxRecDepth 100000 in
set_option maxHeartbeats 600000 in
theorem divided_true_dn_false (a b c h l h1 l1 h2 l2 t v : Int) (w : World) (t0 : 0 ≤ t) (t1 : t < c) (c9 : c ≤ 9223372036854775807) (g : t < c - t)
    (c1 : ∀ w', Calls Try.prog 76 #[.int .i64 a, .int .i64 b] w' fun e w'' => e = .returned (.agg #[.int .i64 h, .int .u64 l]) ∧ ∃ x : Later w', w'' = x.out)
    (c2 : ∀ w', Calls Try.prog 75 #[.agg #[.int .i64 h, .int .u64 l], .int .i64 c] w' fun e w'' => e = .returned (.tuple #[.agg #[.int .i64 h1, .int .u64 l1], .int .i64 t, .int .i64 0]) ∧ ∃ x : Later w', w'' = x.out)
    
    (c5 : ∀ w', Calls Try.prog 79 #[.agg #[.int .i64 h1, .int .u64 l1]] w' fun e w'' => e = .returned (.tuple #[.int .i64 v, .bool false]) ∧ ∃ x : Later w', w'' = x.out) :
    Calls Try.prog 69 #[.int .i64 a, .int .i64 b, .int .i64 c, .bool true] w fun e w' => e = .returned (.tuple #[.int .i64 0, .int .i64 2]) ∧ ∃ x : Later w, w' = x.out := by
  have Hc1 := Lib.hid c1; clear c1
  have Hc2 := Lib.hid c2; clear c2
  have Hc5 := Lib.hid c5; clear c5
  go_enter Try.func69, Try.ntmps69
  go_wp2_with (first | (go_at_call 76; (with_reducible refine (Hc1.out _).mono ?_); rintro e _ ⟨rfl, x, rfl⟩) | (go_at_call 75; (with_reducible refine (Hc2.out _).mono ?_); rintro e _ ⟨rfl, x, rfl⟩) | (go_at_call 79; (with_reducible refine (Hc5.out _).mono ?_); rintro e _ ⟨rfl, x, rfl⟩))
  exact bodyPost_ret (v := .tuple #[.int .i64 0, .int .i64 2]) (by simp [results, Try.results69, go_sem, *]) rfl ⟨rfl, (Later.mk_of (by repeat (first | (with_reducible assumption) | (with_reducible exact Below.refl _ _) | (with_reducible refine Later.after ?_ _) | (with_reducible refine Later.newer ?_ _) | (with_reducible refine Below.drew ?_) | (with_reducible refine Below.setCell ?_ (by first | exact Nat.le_refl _ | exact Nat.le_add_right _ _ | omega | (simp [go_sem]; done) | (simp [go_sem]; omega)) _))))⟩


set_option maxRecDepth 100000 in
set_option maxHeartbeats 600000 in
theorem divided_true_up_true (a b c h l h1 l1 h2 l2 t v : Int) (w : World) (t0 : 0 ≤ t) (t1 : t < c) (c9 : c ≤ 9223372036854775807) (g : c - t ≤ t)
    (c1 : ∀ w', Calls Try.prog 76 #[.int .i64 a, .int .i64 b] w' fun e w'' => e = .returned (.agg #[.int .i64 h, .int .u64 l]) ∧ ∃ x : Later w', w'' = x.out)
    (c2 : ∀ w', Calls Try.prog 75 #[.agg #[.int .i64 h, .int .u64 l], .int .i64 c] w' fun e w'' => e = .returned (.tuple #[.agg #[.int .i64 h1, .int .u64 l1], .int .i64 t, .int .i64 0]) ∧ ∃ x : Later w', w'' = x.out)
    (c3 : ∀ w', Calls Try.prog 78 #[.int .i64 1] w' fun e w'' => e = .returned (.agg #[.int .i64 0, .int .u64 1]) ∧ ∃ x : Later w', w'' = x.out)
    (c4 : ∀ w', Calls Try.prog 77 #[.agg #[.int .i64 h1, .int .u64 l1], .agg #[.int .i64 0, .int .u64 1]] w' fun e w'' => e = .returned (.agg #[.int .i64 h2, .int .u64 l2]) ∧ ∃ x : Later w', w'' = x.out)
    (c5 : ∀ w', Calls Try.prog 79 #[.agg #[.int .i64 h2, .int .u64 l2]] w' fun e w'' => e = .returned (.tuple #[.int .i64 v, .bool true]) ∧ ∃ x : Later w', w'' = x.out) :
    Calls Try.prog 69 #[.int .i64 a, .int .i64 b, .int .i64 c, .bool true] w fun e w' => e = .returned (.tuple #[.int .i64 v, .int .i64 0]) ∧ ∃ x : Later w, w' = x.out := by
  have Hc1 := Lib.hid c1; clear c1
  have Hc2 := Lib.hid c2; clear c2
  have Hc3 := Lib.hid c3; clear c3
  have Hc4 := Lib.hid c4; clear c4
  have Hc5 := Lib.hid c5; clear c5
  go_enter Try.func69, Try.ntmps69
  go_wp2_with (first | (go_at_call 76; (with_reducible refine (Hc1.out _).mono ?_); rintro e _ ⟨rfl, x1, rfl⟩) | (go_at_call 75; (with_reducible refine (Hc2.out _).mono ?_); rintro e _ ⟨rfl, x2, rfl⟩))
  refine wp_region_later_tail 3 (by kernel_rfl) (by kernel_rfl) ?_
  simp only [List.take_succ_cons, List.take_zero, List.drop_succ_cons, List.drop_zero]
  repeat (go_big_quiet_step ((first | (go_at_call 78; with_reducible exact Later.call _ (Hc3.out _)) | (go_at_call 77; with_reducible exact Later.call _ (Hc4.out _)))))
  refine wpQuiet_nil ?_
  intro x
  have g8 : x2.out.heap.size < x.out.heap.size := Later.lt x _ (by simp [go_sem])
  go_wp2_with (first | (go_at_call 79; (with_reducible refine (Hc5.out _).mono ?_); rintro e _ ⟨rfl, y, rfl⟩))
  exact bodyPost_ret (v := .tuple #[.int .i64 v, .int .i64 0]) (by simp [results, Try.results69, go_sem, *]) rfl ⟨rfl, (Later.mk_of (by repeat (first | (with_reducible assumption) | (with_reducible exact Below.refl _ _) | (with_reducible refine Later.after ?_ _) | (with_reducible refine Later.newer ?_ _) | (with_reducible refine Below.drew ?_) | (with_reducible refine Below.setCell ?_ (by first | exact Nat.le_refl _ | exact Nat.le_add_right _ _ | omega | (simp [go_sem]; done) | (simp [go_sem]; omega)) _))))⟩


set_option maxRecDepth 100000 in
set_option maxHeartbeats 600000 in
theorem divided_true_up_false (a b c h l h1 l1 h2 l2 t v : Int) (w : World) (t0 : 0 ≤ t) (t1 : t < c) (c9 : c ≤ 9223372036854775807) (g : c - t ≤ t)
    (c1 : ∀ w', Calls Try.prog 76 #[.int .i64 a, .int .i64 b] w' fun e w'' => e = .returned (.agg #[.int .i64 h, .int .u64 l]) ∧ ∃ x : Later w', w'' = x.out)
    (c2 : ∀ w', Calls Try.prog 75 #[.agg #[.int .i64 h, .int .u64 l], .int .i64 c] w' fun e w'' => e = .returned (.tuple #[.agg #[.int .i64 h1, .int .u64 l1], .int .i64 t, .int .i64 0]) ∧ ∃ x : Later w', w'' = x.out)
    (c3 : ∀ w', Calls Try.prog 78 #[.int .i64 1] w' fun e w'' => e = .returned (.agg #[.int .i64 0, .int .u64 1]) ∧ ∃ x : Later w', w'' = x.out)
    (c4 : ∀ w', Calls Try.prog 77 #[.agg #[.int .i64 h1, .int .u64 l1], .agg #[.int .i64 0, .int .u64 1]] w' fun e w'' => e = .returned (.agg #[.int .i64 h2, .int .u64 l2]) ∧ ∃ x : Later w', w'' = x.out)
    (c5 : ∀ w', Calls Try.prog 79 #[.agg #[.int .i64 h2, .int .u64 l2]] w' fun e w'' => e = .returned (.tuple #[.int .i64 v, .bool false]) ∧ ∃ x : Later w', w'' = x.out) :
    Calls Try.prog 69 #[.int .i64 a, .int .i64 b, .int .i64 c, .bool true] w fun e w' => e = .returned (.tuple #[.int .i64 0, .int .i64 2]) ∧ ∃ x : Later w, w' = x.out := by
  have Hc1 := Lib.hid c1; clear c1
  have Hc2 := Lib.hid c2; clear c2
  have Hc3 := Lib.hid c3; clear c3
  have Hc4 := Lib.hid c4; clear c4
  have Hc5 := Lib.hid c5; clear c5
  go_enter Try.func69, Try.ntmps69
  go_wp2_with (first | (go_at_call 76; (with_reducible refine (Hc1.out _).mono ?_); rintro e _ ⟨rfl, x1, rfl⟩) | (go_at_call 75; (with_reducible refine (Hc2.out _).mono ?_); rintro e _ ⟨rfl, x2, rfl⟩))
  refine wp_region_later_tail 3 (by kernel_rfl) (by kernel_rfl) ?_
  simp only [List.take_succ_cons, List.take_zero, List.drop_succ_cons, List.drop_zero]
  repeat (go_big_quiet_step ((first | (go_at_call 78; with_reducible exact Later.call _ (Hc3.out _)) | (go_at_call 77; with_reducible exact Later.call _ (Hc4.out _)))))
  refine wpQuiet_nil ?_
  intro x
  have g8 : x2.out.heap.size < x.out.heap.size := Later.lt x _ (by simp [go_sem])
  go_wp2_with (first | (go_at_call 79; (with_reducible refine (Hc5.out _).mono ?_); rintro e _ ⟨rfl, y, rfl⟩))
  exact bodyPost_ret (v := .tuple #[.int .i64 0, .int .i64 2]) (by simp [results, Try.results69, go_sem, *]) rfl ⟨rfl, (Later.mk_of (by repeat (first | (with_reducible assumption) | (with_reducible exact Below.refl _ _) | (with_reducible refine Later.after ?_ _) | (with_reducible refine Later.newer ?_ _) | (with_reducible refine Below.drew ?_) | (with_reducible refine Below.setCell ?_ (by first | exact Nat.le_refl _ | exact Nat.le_add_right _ _ | omega | (simp [go_sem]; done) | (simp [go_sem]; omega)) _))))⟩


set_option maxHeartbeats 400000 in
theorem narrow3_true (h l v : Int) (w : World) (c : ∀ w', Calls Try.prog 83 #[.agg #[.int .i64 h, .int .u64 l]] w' fun e w'' => e = .returned (.tuple #[.int .i64 v, .bool true]) ∧ ∃ x : Later w', w'' = x.out) :
    Calls Try.prog 74 #[.agg #[.int .i64 h, .int .u64 l]] w fun e w' => e = .returned (.tuple #[.int .i64 v, .int .i64 0]) ∧ ∃ x : Later w, w' = x.out := by
  have Hc := Lib.hid c; clear c
  go_enter Try.func74, Try.ntmps74
  go_wp2_with (first | (go_at_call 83; (with_reducible refine (Hc.out _).mono ?_); rintro e _ ⟨rfl, x, rfl⟩))
  exact bodyPost_ret (v := .tuple #[.int .i64 v, .int .i64 0]) (by simp [results, Try.results74, go_sem, *]) rfl ⟨rfl, (Later.mk_of (by repeat (first | (with_reducible assumption) | (with_reducible exact Below.refl _ _) | (with_reducible refine Later.after ?_ _) | (with_reducible refine Later.newer ?_ _) | (with_reducible refine Below.drew ?_) | (with_reducible refine Below.setCell ?_ (by first | exact Nat.le_refl _ | exact Nat.le_add_right _ _ | omega | (simp [go_sem]; done) | (simp [go_sem]; omega)) _))))⟩


set_option maxHeartbeats 400000 in
theorem narrow3_false (h l v : Int) (w : World) (c : ∀ w', Calls Try.prog 83 #[.agg #[.int .i64 h, .int .u64 l]] w' fun e w'' => e = .returned (.tuple #[.int .i64 v, .bool false]) ∧ ∃ x : Later w', w'' = x.out) :
    Calls Try.prog 74 #[.agg #[.int .i64 h, .int .u64 l]] w fun e w' => e = .returned (.tuple #[.int .i64 0, .int .i64 2]) ∧ ∃ x : Later w, w' = x.out := by
  have Hc := Lib.hid c; clear c
  go_enter Try.func74, Try.ntmps74
  go_wp2_with (first | (go_at_call 83; (with_reducible refine (Hc.out _).mono ?_); rintro e _ ⟨rfl, x, rfl⟩))
  exact bodyPost_ret (v := .tuple #[.int .i64 0, .int .i64 2]) (by simp [results, Try.results74, go_sem, *]) rfl ⟨rfl, (Later.mk_of (by repeat (first | (with_reducible assumption) | (with_reducible exact Below.refl _ _) | (with_reducible refine Later.after ?_ _) | (with_reducible refine Later.newer ?_ _) | (with_reducible refine Below.drew ?_) | (with_reducible refine Below.setCell ?_ (by first | exact Nat.le_refl _ | exact Nat.le_add_right _ _ | omega | (simp [go_sem]; done) | (simp [go_sem]; omega)) _))))⟩


set_option maxRecDepth 100000 in
set_option maxHeartbeats 600000 in
theorem near3_dn (a b c h l h1 l1 h2 l2 t v er : Int) (w : World) (t0 : 0 ≤ t) (t1 : t < c) (c9 : c ≤ 9223372036854775807) (g : t < c - t)
    (c1 : ∀ w', Calls Try.prog 71 #[.int .i64 a, .int .i64 b] w' fun e w'' => e = .returned (.agg #[.int .i64 h, .int .u64 l]) ∧ ∃ x : Later w', w'' = x.out)
    (c2 : ∀ w', Calls Try.prog 70 #[.agg #[.int .i64 h, .int .u64 l], .int .i64 c] w' fun e w'' => e = .returned (.tuple #[.agg #[.int .i64 h1, .int .u64 l1], .int .i64 t, .int .i64 0]) ∧ ∃ x : Later w', w'' = x.out)
    
    (c5 : ∀ w', Calls Try.prog 74 #[.agg #[.int .i64 h1, .int .u64 l1]] w' fun e w'' => e = .returned (.tuple #[.int .i64 v, .int .i64 er]) ∧ ∃ x : Later w', w'' = x.out) :
    Calls Try.prog 68 #[.int .i64 a, .int .i64 b, .int .i64 c] w fun e w' => e = .returned (.tuple #[.int .i64 v, .int .i64 er]) ∧ ∃ x : Later w, w' = x.out := by
  have Hc1 := Lib.hid c1; clear c1
  have Hc2 := Lib.hid c2; clear c2
  have Hc5 := Lib.hid c5; clear c5
  go_enter Try.func68, Try.ntmps68
  go_wp2_with (first | (go_at_call 71; (with_reducible refine (Hc1.out _).mono ?_); rintro e _ ⟨rfl, x, rfl⟩) | (go_at_call 70; (with_reducible refine (Hc2.out _).mono ?_); rintro e _ ⟨rfl, x, rfl⟩) | (go_at_call 74; (with_reducible refine (Hc5.out _).mono ?_); rintro e _ ⟨rfl, x, rfl⟩))
  exact bodyPost_ret (v := .tuple #[.int .i64 v, .int .i64 er]) (by simp [results, Try.results68, go_sem, *]) rfl ⟨rfl, (Later.mk_of (by repeat (first | (with_reducible assumption) | (with_reducible exact Below.refl _ _) | (with_reducible refine Later.after ?_ _) | (with_reducible refine Later.newer ?_ _) | (with_reducible refine Below.drew ?_) | (with_reducible refine Below.setCell ?_ (by first | exact Nat.le_refl _ | exact Nat.le_add_right _ _ | omega | (simp [go_sem]; done) | (simp [go_sem]; omega)) _))))⟩


set_option maxRecDepth 100000 in
set_option maxHeartbeats 600000 in
theorem near3_up (a b c h l h1 l1 h2 l2 t v er : Int) (w : World) (t0 : 0 ≤ t) (t1 : t < c) (c9 : c ≤ 9223372036854775807) (g : c - t ≤ t)
    (c1 : ∀ w', Calls Try.prog 71 #[.int .i64 a, .int .i64 b] w' fun e w'' => e = .returned (.agg #[.int .i64 h, .int .u64 l]) ∧ ∃ x : Later w', w'' = x.out)
    (c2 : ∀ w', Calls Try.prog 70 #[.agg #[.int .i64 h, .int .u64 l], .int .i64 c] w' fun e w'' => e = .returned (.tuple #[.agg #[.int .i64 h1, .int .u64 l1], .int .i64 t, .int .i64 0]) ∧ ∃ x : Later w', w'' = x.out)
    (c3 : ∀ w', Calls Try.prog 73 #[.int .i64 1] w' fun e w'' => e = .returned (.agg #[.int .i64 0, .int .u64 1]) ∧ ∃ x : Later w', w'' = x.out)
    (c4 : ∀ w', Calls Try.prog 72 #[.agg #[.int .i64 h1, .int .u64 l1], .agg #[.int .i64 0, .int .u64 1]] w' fun e w'' => e = .returned (.agg #[.int .i64 h2, .int .u64 l2]) ∧ ∃ x : Later w', w'' = x.out)
    (c5 : ∀ w', Calls Try.prog 74 #[.agg #[.int .i64 h2, .int .u64 l2]] w' fun e w'' => e = .returned (.tuple #[.int .i64 v, .int .i64 er]) ∧ ∃ x : Later w', w'' = x.out) :
    Calls Try.prog 68 #[.int .i64 a, .int .i64 b, .int .i64 c] w fun e w' => e = .returned (.tuple #[.int .i64 v, .int .i64 er]) ∧ ∃ x : Later w, w' = x.out := by
  have Hc1 := Lib.hid c1; clear c1
  have Hc2 := Lib.hid c2; clear c2
  have Hc3 := Lib.hid c3; clear c3
  have Hc4 := Lib.hid c4; clear c4
  have Hc5 := Lib.hid c5; clear c5
  go_enter Try.func68, Try.ntmps68
  go_wp2_with (first | (go_at_call 71; (with_reducible refine (Hc1.out _).mono ?_); rintro e _ ⟨rfl, x1, rfl⟩) | (go_at_call 70; (with_reducible refine (Hc2.out _).mono ?_); rintro e _ ⟨rfl, x2, rfl⟩))
  refine wp_region_later_tail 3 (by kernel_rfl) (by kernel_rfl) ?_
  simp only [List.take_succ_cons, List.take_zero, List.drop_succ_cons, List.drop_zero]
  repeat (go_big_quiet_step ((first | (go_at_call 73; with_reducible exact Later.call _ (Hc3.out _)) | (go_at_call 72; with_reducible exact Later.call _ (Hc4.out _)))))
  refine wpQuiet_nil ?_
  intro x
  have g8 : x2.out.heap.size < x.out.heap.size := Later.lt x _ (by simp [go_sem])
  go_wp2_with (first | (go_at_call 74; (with_reducible refine (Hc5.out _).mono ?_); rintro e _ ⟨rfl, y, rfl⟩))
  exact bodyPost_ret (v := .tuple #[.int .i64 v, .int .i64 er]) (by simp [results, Try.results68, go_sem, *]) rfl ⟨rfl, (Later.mk_of (by repeat (first | (with_reducible assumption) | (with_reducible exact Below.refl _ _) | (with_reducible refine Later.after ?_ _) | (with_reducible refine Later.newer ?_ _) | (with_reducible refine Below.drew ?_) | (with_reducible refine Below.setCell ?_ (by first | exact Nat.le_refl _ | exact Nat.le_add_right _ _ | omega | (simp [go_sem]; done) | (simp [go_sem]; omega)) _))))⟩


theorem one_W : hiW 1 = 0 ∧ loW 1 = 1 := by unfold hiW loW; omega
theorem mul_R128 (a b : Int) (ra : R64 a) (rb : R64 b) : R128 (a * b) := by
  unfold R64 at ra rb
  have p1 := Int.mul_le_mul_of_natAbs_le (x := a) (y := b) (s := 9223372036854775808) (t := 9223372036854775808) (by omega) (by omega)
  have p2 := Int.mul_le_mul_of_natAbs_le (x := -a) (y := b) (s := 9223372036854775808) (t := 9223372036854775808) (by omega) (by omega)
  rw [Int.neg_mul] at p2
  unfold R128; omega

set_option maxHeartbeats 400000 in
theorem divided_near (a b c : Int) (w : World) (ra : R64 a) (rb : R64 b) (hc : 0 < c) (c9 : c ≤ 9223372036854775807) (hq : R64 (nrst (a * b) c)) :
    Calls Try.prog 69 #[.int .i64 a, .int .i64 b, .int .i64 c, .bool true] w fun e w' => e = .returned (.tuple #[.int .i64 (nrst (a * b) c), .int .i64 0]) ∧ ∃ x : Later w, w' = x.out := by
  have m0 := Int.emod_nonneg (a * b) (show c ≠ 0 by omega)
  have m1 := Int.emod_lt_of_pos (a * b) hc
  have rn := mul_R128 a b ra rb
  by_cases g : c - a * b % c ≤ a * b % c
  · have e : nrst (a * b) c = a * b / c + 1 := by unfold nrst; rw [if_pos g]
    rw [e] at hq ⊢
    have c3 := fun v => of_c 1 v (by unfold R64; omega)
    have c4 := fun v => add_c (a * b / c) 1 v
    rw [one_W.1, one_W.2] at c3 c4
    exact divided_true_up_true a b c _ _ _ _ _ _ (a * b % c) _ w m0 m1 c9 g (fun v => mul_c a b v ra rb) (fun v => div_c _ c v rn hc c9) c3 c4 (fun v => narrow_yes _ v hq)
  · have e : nrst (a * b) c = a * b / c := by unfold nrst; rw [if_neg g]
    rw [e] at hq ⊢
    exact divided_true_dn_true a b c _ _ _ _ 0 0 (a * b % c) _ w m0 m1 c9 (by omega) (fun v => mul_c a b v ra rb) (fun v => div_c _ c v rn hc c9) (fun v => narrow_yes _ v hq)

set_option maxHeartbeats 400000 in
theorem near_c (a b c : Int) (w : World) (ra : R64 a) (rb : R64 b) (hc : 0 < c) (c9 : c ≤ 9223372036854775807) (hq : R64 (nrst (a * b) c)) :
    Calls Try.prog 67 #[.int .i64 a, .int .i64 b, .int .i64 c] w fun e w' => e = .returned (.tuple #[.int .i64 (nrst (a * b) c), .int .i64 0]) ∧ ∃ x : Later w, w' = x.out := by
  have c1 := fun v => divided_near a b c v ra rb hc c9 hq
  have Hc1 := Lib.hid c1; clear c1
  clear hq
  generalize nrst (a * b) c = q at *
  go_enter Try.func67, Try.ntmps67
  go_wp2_with (first | (go_at_call 69; (with_reducible refine (Hc1.out _).mono ?_); rintro e _ ⟨rfl, x, rfl⟩))
  exact bodyPost_ret (v := .tuple #[.int .i64 q, .int .i64 0]) (by simp [results, Try.results67, go_sem, *]) rfl ⟨rfl, (Later.mk_of (by repeat (first | (with_reducible assumption) | (with_reducible exact Below.refl _ _) | (with_reducible refine Later.after ?_ _) | (with_reducible refine Later.newer ?_ _) | (with_reducible refine Below.drew ?_) | (with_reducible refine Below.setCell ?_ (by first | exact Nat.le_refl _ | exact Nat.le_add_right _ _ | omega | (simp [go_sem]; done) | (simp [go_sem]; omega)) _))))⟩

set_option maxHeartbeats 400000 in
theorem near_r (a b c : Int) (w : World) (ra : R64 a) (rb : R64 b) (hc : 0 < c) (c9 : c ≤ 9223372036854775807) (hq : R64 (nrst (a * b) c)) :
    Calls Try.prog 68 #[.int .i64 a, .int .i64 b, .int .i64 c] w fun e w' => e = .returned (.tuple #[.int .i64 (nrst (a * b) c), .int .i64 0]) ∧ ∃ x : Later w, w' = x.out := by
  have m0 := Int.emod_nonneg (a * b) (show c ≠ 0 by omega)
  have m1 := Int.emod_lt_of_pos (a * b) hc
  have rn := mul_R128 a b ra rb
  by_cases g : c - a * b % c ≤ a * b % c
  · have e : nrst (a * b) c = a * b / c + 1 := by unfold nrst; rw [if_pos g]
    rw [e] at hq ⊢
    have c3 := fun v => of_r 1 v (by unfold R64; omega)
    have c4 := fun v => add_r (a * b / c) 1 v
    rw [one_W.1, one_W.2] at c3 c4
    exact near3_up a b c _ _ _ _ _ _ (a * b % c) _ _ w m0 m1 c9 g (fun v => mul_r a b v ra rb) (fun v => div_r _ c v rn hc c9) c3 c4 (fun v => narrow3_true _ _ _ v (fun v => narrow_r_yes _ v hq))
  · have e : nrst (a * b) c = a * b / c := by unfold nrst; rw [if_neg g]
    rw [e] at hq ⊢
    exact near3_dn a b c _ _ _ _ 0 0 (a * b % c) _ _ w m0 m1 c9 (by omega) (fun v => mul_r a b v ra rb) (fun v => div_r _ c v rn hc c9) (fun v => narrow3_true _ _ _ v (fun v => narrow_r_yes _ v hq))

end Go.Proofs.Ytfgppkiioinphaa

/-
  The reference's root: the square of a number, by halves.
-/
namespace Go.Proofs.Ytfgppkiioinphaa
set_option linter.unusedVariables false
open Go.RowKit

end Go.Proofs.Ytfgppkiioinphaa

/-
  The reference's root, bit by bit.
-/
namespace Go.Proofs.Ytfgppkiioinphaa
set_option linter.unusedVariables false
open Go.RowKit

/-- the weight of what is not yet known in round k -/
def tw (k : Nat) : Int := 18446744073709551616 / 2 ^ k
theorem tw_step : ∀ k : Fin 64, tw k.val = 2 * tw (k.val + 1) ∧ 0 < tw (k.val + 1) ∧ tw (k.val + 1) ≤ 9223372036854775808 ∧ tw (k.val + 1) / 2 = tw (k.val + 2) := by decide +kernel
theorem tw_zero : tw 0 = 18446744073709551616 := by decide +kernel
theorem tw_one : tw 1 = 9223372036854775808 := by decide +kernel
theorem tw_end : tw 64 = 1 ∧ tw 65 = 0 := by decide +kernel

end Go.Proofs.Ytfgppkiioinphaa

/-
  The contracts of the vectors, and of the reference's.
-/
namespace Go.Proofs.Ytfgppkiioinphaa
set_option linter.unusedVariables false
open Go.RowKit

theorem w64_add (a b : Int) : wrap64 (wrap64 a + wrap64 b) = wrap64 (a + b) := by unfold wrap64; omega
theorem w64_sub (a b : Int) : wrap64 (wrap64 a - wrap64 b) = wrap64 (a - b) := by unfold wrap64; omega
theorem w64_addneg (a b : Int) : wrap64 (a + wrap64 (-b)) = wrap64 (a - b) := by unfold wrap64; omega
theorem w64_in (a : Int) (h : R64 a) : wrap64 a = a := by unfold R64 at h; unfold wrap64; omega


set_option maxRecDepth 100000 in
set_option maxHeartbeats 400000 in
theorem ptAdd_c (p q z u : Int) (w : World) :
    Calls Try.prog 48 #[.agg #[.int .i64 p, .int .i64 q], .agg #[.int .i64 z, .int .i64 u]] w fun e w' => e = .returned (.agg #[.int .i64 (wrap64 (p + z)), .int .i64 (wrap64 (q + u))]) ∧ ∃ x : Later w, w' = x.out := by
  go_enter Try.func48, Try.ntmps48
  go_wp2_with (fail)
  exact bodyPost_ret (v := .agg #[.int .i64 (wrap64 (p + z)), .int .i64 (wrap64 (q + u))]) (by simp [results, Try.results48, go_sem, *]) rfl ⟨rfl, (Later.mk_of (by repeat (first | (with_reducible assumption) | (with_reducible exact Below.refl _ _) | (with_reducible refine Later.after ?_ _) | (with_reducible refine Later.newer ?_ _) | (with_reducible refine Below.drew ?_) | (with_reducible refine Below.setCell ?_ (by first | exact Nat.le_refl _ | exact Nat.le_add_right _ _ | omega | (simp [go_sem]; done) | (simp [go_sem]; omega)) _))))⟩


set_option maxRecDepth 100000 in
set_option maxHeartbeats 400000 in
theorem ptNeg_c (p q : Int) (w : World) :
    Calls Try.prog 49 #[.agg #[.int .i64 p, .int .i64 q]] w fun e w' => e = .returned (.agg #[.int .i64 (wrap64 (-p)), .int .i64 (wrap64 (-q))]) ∧ ∃ x : Later w, w' = x.out := by
  go_enter Try.func49, Try.ntmps49
  go_wp2_with (fail)
  exact bodyPost_ret (v := .agg #[.int .i64 (wrap64 (-p)), .int .i64 (wrap64 (-q))]) (by simp [results, Try.results49, go_sem, *]) rfl ⟨rfl, (Later.mk_of (by repeat (first | (with_reducible assumption) | (with_reducible exact Below.refl _ _) | (with_reducible refine Later.after ?_ _) | (with_reducible refine Later.newer ?_ _) | (with_reducible refine Below.drew ?_) | (with_reducible refine Below.setCell ?_ (by first | exact Nat.le_refl _ | exact Nat.le_add_right _ _ | omega | (simp [go_sem]; done) | (simp [go_sem]; omega)) _))))⟩


set_option maxRecDepth 100000 in
set_option maxHeartbeats 400000 in
theorem ptSub_r (p q z u : Int) (w : World) :
    Calls Try.prog 55 #[.agg #[.int .i64 p, .int .i64 q], .agg #[.int .i64 z, .int .i64 u]] w fun e w' => e = .returned (.agg #[.int .i64 (wrap64 (p - z)), .int .i64 (wrap64 (q - u))]) ∧ ∃ x : Later w, w' = x.out := by
  go_enter Try.func55, Try.ntmps55
  go_wp2_with (fail)
  exact bodyPost_ret (v := .agg #[.int .i64 (wrap64 (p - z)), .int .i64 (wrap64 (q - u))]) (by simp [results, Try.results55, go_sem, *]) rfl ⟨rfl, (Later.mk_of (by repeat (first | (with_reducible assumption) | (with_reducible exact Below.refl _ _) | (with_reducible refine Later.after ?_ _) | (with_reducible refine Later.newer ?_ _) | (with_reducible refine Below.drew ?_) | (with_reducible refine Below.setCell ?_ (by first | exact Nat.le_refl _ | exact Nat.le_add_right _ _ | omega | (simp [go_sem]; done) | (simp [go_sem]; omega)) _))))⟩


set_option maxRecDepth 100000 in
set_option maxHeartbeats 400000 in
theorem ptSub_c0 (p q z u : Int) (w : World) :
    Calls Try.prog 36 #[.agg #[.int .i64 p, .int .i64 q], .agg #[.int .i64 z, .int .i64 u]] w fun e w' => e = .returned (.agg #[.int .i64 (wrap64 (p + wrap64 (-z))), .int .i64 (wrap64 (q + wrap64 (-u)))]) ∧ ∃ x : Later w, w' = x.out := by
  go_enter Try.func36, Try.ntmps36
  go_wp2_with (fail)
  refine wp_region_later_tail 4 (by kernel_rfl) (by kernel_rfl) ?_
  simp only [List.take_succ_cons, List.take_zero, List.drop_succ_cons, List.drop_zero]
  repeat (go_big_quiet_step ((first | (go_at_call 49; with_reducible exact Later.call _ (ptNeg_c _ _ _)) | (go_at_call 48; with_reducible exact Later.call _ (ptAdd_c _ _ _ _ _)))))
  refine wpQuiet_nil ?_
  intro x
  have g8 : w.heap.size + 1 + 1 < x.out.heap.size := Later.lt x _ (by simp [go_sem])
  go_wp2
  exact bodyPost_ret (v := .agg #[.int .i64 (wrap64 (p + wrap64 (-z))), .int .i64 (wrap64 (q + wrap64 (-u)))]) (by simp [results, Try.results36, go_sem, *]) rfl ⟨rfl, (Later.mk_of (by repeat (first | (with_reducible assumption) | (with_reducible exact Below.refl _ _) | (with_reducible refine Later.after ?_ _) | (with_reducible refine Later.newer ?_ _) | (with_reducible refine Below.drew ?_) | (with_reducible refine Below.setCell ?_ (by first | exact Nat.le_refl _ | exact Nat.le_add_right _ _ | omega | (simp [go_sem]; done) | (simp [go_sem]; omega)) _))))⟩


theorem ptSub_c (p q z u : Int) (w : World) :
    Calls Try.prog 36 #[.agg #[.int .i64 p, .int .i64 q], .agg #[.int .i64 z, .int .i64 u]] w fun e w' => e = .returned (.agg #[.int .i64 (wrap64 (p - z)), .int .i64 (wrap64 (q - u))]) ∧ ∃ x : Later w, w' = x.out := by
  rw [← w64_addneg p z, ← w64_addneg q u]
  exact ptSub_c0 p q z u w


set_option maxRecDepth 100000 in
set_option maxHeartbeats 400000 in
theorem ptDot_r0 (p q z u : Int) (w : World) :
    Calls Try.prog 30 #[.agg #[.int .i64 p, .int .i64 q], .agg #[.int .i64 z, .int .i64 u]] w fun e w' => e = .returned (.int .i64 (wrap64 (wrap64 (p * z) + wrap64 (q * u)))) ∧ ∃ x : Later w, w' = x.out := by
  go_enter Try.func30, Try.ntmps30
  go_wp2_with (fail)
  exact bodyPost_ret (v := .int .i64 (wrap64 (wrap64 (p * z) + wrap64 (q * u)))) (by simp [results, Try.results30, go_sem, *]) rfl ⟨rfl, (Later.mk_of (by repeat (first | (with_reducible assumption) | (with_reducible exact Below.refl _ _) | (with_reducible refine Later.after ?_ _) | (with_reducible refine Later.newer ?_ _) | (with_reducible refine Below.drew ?_) | (with_reducible refine Below.setCell ?_ (by first | exact Nat.le_refl _ | exact Nat.le_add_right _ _ | omega | (simp [go_sem]; done) | (simp [go_sem]; omega)) _))))⟩


set_option maxRecDepth 100000 in
set_option maxHeartbeats 400000 in
theorem ptDot_p (p q z u : Int) (w : World) :
    Calls Try.prog 61 #[.agg #[.int .i64 p, .int .i64 q, .int .i64 z, .int .i64 u]] w fun e w' => e = .returned (.int .i64 (wrap64 (wrap64 (p * z) + wrap64 (q * u)))) ∧ ∃ x : Later w, w' = x.out := by
  go_enter Try.func61, Try.ntmps61
  go_wp2_with (fail)
  exact bodyPost_ret (v := .int .i64 (wrap64 (wrap64 (p * z) + wrap64 (q * u)))) (by simp [results, Try.results61, go_sem, *]) rfl ⟨rfl, (Later.mk_of (by repeat (first | (with_reducible assumption) | (with_reducible exact Below.refl _ _) | (with_reducible refine Later.after ?_ _) | (with_reducible refine Later.newer ?_ _) | (with_reducible refine Below.drew ?_) | (with_reducible refine Below.setCell ?_ (by first | exact Nat.le_refl _ | exact Nat.le_add_right _ _ | omega | (simp [go_sem]; done) | (simp [go_sem]; omega)) _))))⟩


set_option maxRecDepth 100000 in
set_option maxHeartbeats 400000 in
theorem ptDot_c0 (p q z u : Int) (w : World) :
    Calls Try.prog 50 #[.agg #[.int .i64 p, .int .i64 q], .agg #[.int .i64 z, .int .i64 u]] w fun e w' => e = .returned (.int .i64 (wrap64 (wrap64 (p * z) + wrap64 (q * u)))) ∧ ∃ x : Later w, w' = x.out := by
  go_enter Try.func50, Try.ntmps50
  go_wp2_with (first | (go_at_call 61; (with_reducible refine (ptDot_p _ _ _ _ _).mono ?_); rintro e _ ⟨rfl, x, rfl⟩))
  exact bodyPost_ret (v := .int .i64 (wrap64 (wrap64 (p * z) + wrap64 (q * u)))) (by simp [results, Try.results50, go_sem, *]) rfl ⟨rfl, (Later.mk_of (by repeat (first | (with_reducible assumption) | (with_reducible exact Below.refl _ _) | (with_reducible refine Later.after ?_ _) | (with_reducible refine Later.newer ?_ _) | (with_reducible refine Below.drew ?_) | (with_reducible refine Below.setCell ?_ (by first | exact Nat.le_refl _ | exact Nat.le_add_right _ _ | omega | (simp [go_sem]; done) | (simp [go_sem]; omega)) _))))⟩


theorem ptDot_c (p q z u : Int) (w : World) :
    Calls Try.prog 50 #[.agg #[.int .i64 p, .int .i64 q], .agg #[.int .i64 z, .int .i64 u]] w fun e w' => e = .returned (.int .i64 (wrap64 (p * z + q * u))) ∧ ∃ x : Later w, w' = x.out := by
  rw [← w64_add]
  exact ptDot_c0 p q z u w


theorem ptDot_r (p q z u : Int) (w : World) :
    Calls Try.prog 30 #[.agg #[.int .i64 p, .int .i64 q], .agg #[.int .i64 z, .int .i64 u]] w fun e w' => e = .returned (.int .i64 (wrap64 (p * z + q * u))) ∧ ∃ x : Later w, w' = x.out := by
  rw [← w64_add]
  exact ptDot_r0 p q z u w


end Go.Proofs.Ytfgppkiioinphaa

/-
  The contracts of lengths, and of places on a way.
-/
namespace Go.Proofs.Ytfgppkiioinphaa
set_option linter.unusedVariables false
open Go.RowKit

/-- a number that is not too far away -/
def btw (n : Int) : Bool := decide (-1073741824 ≤ n) && decide (n ≤ 1073741824)
theorem btw_iff (n : Int) : btw n = true ↔ -1073741824 ≤ n ∧ n ≤ 1073741824 := by unfold btw; simp


set_option maxRecDepth 100000 in
set_option maxHeartbeats 400000 in
theorem scaled_c (p q k n X Y : Int) (w : World)
    (c1 : ∀ w', Calls Try.prog 67 #[.int .i64 p, .int .i64 k, .int .i64 n] w' fun e w'' => e = .returned (.tuple #[.int .i64 X, .int .i64 0]) ∧ ∃ x : Later w', w'' = x.out)(c2 : ∀ w', Calls Try.prog 67 #[.int .i64 q, .int .i64 k, .int .i64 n] w' fun e w'' => e = .returned (.tuple #[.int .i64 Y, .int .i64 0]) ∧ ∃ x : Later w', w'' = x.out) :
    Calls Try.prog 62 #[.agg #[.int .i64 p, .int .i64 q], .int .i64 k, .int .i64 n] w fun e w' => e = .returned (.agg #[.int .i64 X, .int .i64 Y]) ∧ ∃ x : Later w, w' = x.out := by
  have Hc1 := Lib.hid c1; clear c1
  have Hc2 := Lib.hid c2; clear c2
  go_enter Try.func62, Try.ntmps62
  go_wp2_with (first | (go_at_call 67; (with_reducible refine (Hc1.out _).mono ?_); rintro e _ ⟨rfl, x, rfl⟩) | (go_at_call 67; (with_reducible refine (Hc2.out _).mono ?_); rintro e _ ⟨rfl, x, rfl⟩))
  exact bodyPost_ret (v := .agg #[.int .i64 X, .int .i64 Y]) (by simp [results, Try.results62, go_sem, *]) rfl ⟨rfl, (Later.mk_of (by repeat (first | (with_reducible assumption) | (with_reducible exact Below.refl _ _) | (with_reducible refine Later.after ?_ _) | (with_reducible refine Later.newer ?_ _) | (with_reducible refine Below.drew ?_) | (with_reducible refine Below.setCell ?_ (by first | exact Nat.le_refl _ | exact Nat.le_add_right _ _ | omega | (simp [go_sem]; done) | (simp [go_sem]; omega)) _))))⟩


set_option maxRecDepth 100000 in
set_option maxHeartbeats 400000 in
theorem ptAlong_c0 (p q z u k n : Int) (w : World)
    (h : n < 1) :
    Calls Try.prog 51 #[.agg #[.int .i64 p, .int .i64 q], .agg #[.int .i64 z, .int .i64 u], .int .i64 k, .int .i64 n] w fun e w' => e = .returned (.agg #[.int .i64 p, .int .i64 q]) ∧ ∃ x : Later w, w' = x.out := by
  skip
  go_enter Try.func51, Try.ntmps51
  go_wp2_with (fail)
  exact bodyPost_ret (v := .agg #[.int .i64 p, .int .i64 q]) (by simp [results, Try.results51, go_sem, *]) rfl ⟨rfl, (Later.mk_of (by repeat (first | (with_reducible assumption) | (with_reducible exact Below.refl _ _) | (with_reducible refine Later.after ?_ _) | (with_reducible refine Later.newer ?_ _) | (with_reducible refine Below.drew ?_) | (with_reducible refine Below.setCell ?_ (by first | exact Nat.le_refl _ | exact Nat.le_add_right _ _ | omega | (simp [go_sem]; done) | (simp [go_sem]; omega)) _))))⟩


set_option maxRecDepth 100000 in
set_option maxHeartbeats 400000 in
theorem ptAlong_r0 (p q z u k n : Int) (w : World)
    (h : n < 1) :
    Calls Try.prog 64 #[.agg #[.int .i64 p, .int .i64 q], .agg #[.int .i64 z, .int .i64 u], .int .i64 k, .int .i64 n] w fun e w' => e = .returned (.agg #[.int .i64 p, .int .i64 q]) ∧ ∃ x : Later w, w' = x.out := by
  skip
  go_enter Try.func64, Try.ntmps64
  go_wp2_with (fail)
  exact bodyPost_ret (v := .agg #[.int .i64 p, .int .i64 q]) (by simp [results, Try.results64, go_sem, *]) rfl ⟨rfl, (Later.mk_of (by repeat (first | (with_reducible assumption) | (with_reducible exact Below.refl _ _) | (with_reducible refine Later.after ?_ _) | (with_reducible refine Later.newer ?_ _) | (with_reducible refine Below.drew ?_) | (with_reducible refine Below.setCell ?_ (by first | exact Nat.le_refl _ | exact Nat.le_add_right _ _ | omega | (simp [go_sem]; done) | (simp [go_sem]; omega)) _))))⟩

end Go.Proofs.Ytfgppkiioinphaa

/-
  The contracts of places on a way.
-/
namespace Go.Proofs.Ytfgppkiioinphaa
set_option linter.unusedVariables false
open Go.RowKit


set_option maxRecDepth 100000 in
set_option maxHeartbeats 400000 in
theorem ptAlong_c1 (p q z u k n d f X Y P Q : Int) (w : World)
    (h : 1 ≤ n) (e1 : wrap64 (p + X) = P) (e2 : wrap64 (q + Y) = Q) (c1 : ∀ w', Calls Try.prog 36 #[.agg #[.int .i64 z, .int .i64 u], .agg #[.int .i64 p, .int .i64 q]] w' fun e w'' => e = .returned (.agg #[.int .i64 d, .int .i64 f]) ∧ ∃ x : Later w', w'' = x.out)(c2 : ∀ w', Calls Try.prog 62 #[.agg #[.int .i64 d, .int .i64 f], .int .i64 k, .int .i64 n] w' fun e w'' => e = .returned (.agg #[.int .i64 X, .int .i64 Y]) ∧ ∃ x : Later w', w'' = x.out) :
    Calls Try.prog 51 #[.agg #[.int .i64 p, .int .i64 q], .agg #[.int .i64 z, .int .i64 u], .int .i64 k, .int .i64 n] w fun e w' => e = .returned (.agg #[.int .i64 P, .int .i64 Q]) ∧ ∃ x : Later w, w' = x.out := by
  have Hc1 := Lib.hid c1; clear c1
  have Hc2 := Lib.hid c2; clear c2
  go_enter Try.func51, Try.ntmps51
  go_wp2_with (fail)
  refine wp_region_later_tail 8 (by kernel_rfl) (by kernel_rfl) ?_
  simp only [List.take_succ_cons, List.take_zero, List.drop_succ_cons, List.drop_zero]
  repeat (go_big_quiet_step ((first | (go_at_call 36; with_reducible exact Later.call _ (Hc1.out _)) | (go_at_call 62; with_reducible exact Later.call _ (Hc2.out _)) | (go_at_call 48; with_reducible exact Later.call _ (ptAdd_c _ _ _ _ _)))))
  refine wpQuiet_nil ?_
  intro x
  have g8 : w.heap.size + 1 + 1 < x.out.heap.size := Later.lt x _ (by simp [go_sem])
  go_wp2
  exact bodyPost_ret (v := .agg #[.int .i64 P, .int .i64 Q]) (by simp [results, Try.results51, go_sem, *]) rfl ⟨rfl, (Later.mk_of (by repeat (first | (with_reducible assumption) | (with_reducible exact Below.refl _ _) | (with_reducible refine Later.after ?_ _) | (with_reducible refine Later.newer ?_ _) | (with_reducible refine Below.drew ?_) | (with_reducible refine Below.setCell ?_ (by first | exact Nat.le_refl _ | exact Nat.le_add_right _ _ | omega | (simp [go_sem]; done) | (simp [go_sem]; omega)) _))))⟩


set_option maxRecDepth 100000 in
set_option maxHeartbeats 400000 in
theorem ptAlong_r1 (p q z u k n d f X Y P Q : Int) (w : World)
    (h : 1 ≤ n) (e1 : wrap64 (p + X) = P) (e2 : wrap64 (q + Y) = Q) (e3 : wrap64 (z - p) = d) (e4 : wrap64 (u - q) = f) (c2 : ∀ w', Calls Try.prog 68 #[.int .i64 d, .int .i64 k, .int .i64 n] w' fun e w'' => e = .returned (.tuple #[.int .i64 X, .int .i64 0]) ∧ ∃ x : Later w', w'' = x.out)(c3 : ∀ w', Calls Try.prog 68 #[.int .i64 f, .int .i64 k, .int .i64 n] w' fun e w'' => e = .returned (.tuple #[.int .i64 Y, .int .i64 0]) ∧ ∃ x : Later w', w'' = x.out) :
    Calls Try.prog 64 #[.agg #[.int .i64 p, .int .i64 q], .agg #[.int .i64 z, .int .i64 u], .int .i64 k, .int .i64 n] w fun e w' => e = .returned (.agg #[.int .i64 P, .int .i64 Q]) ∧ ∃ x : Later w, w' = x.out := by
  have Hc2 := Lib.hid c2; clear c2
  have Hc3 := Lib.hid c3; clear c3
  go_enter Try.func64, Try.ntmps64
  go_wp2_with (first | (go_at_call 68; (with_reducible refine (Hc2.out _).mono ?_); rintro e _ ⟨rfl, x, rfl⟩) | (go_at_call 68; (with_reducible refine (Hc3.out _).mono ?_); rintro e _ ⟨rfl, x, rfl⟩))
  exact bodyPost_ret (v := .agg #[.int .i64 P, .int .i64 Q]) (by simp [results, Try.results64, go_sem, *]) rfl ⟨rfl, (Later.mk_of (by repeat (first | (with_reducible assumption) | (with_reducible exact Below.refl _ _) | (with_reducible refine Later.after ?_ _) | (with_reducible refine Later.newer ?_ _) | (with_reducible refine Below.drew ?_) | (with_reducible refine Below.setCell ?_ (by first | exact Nat.le_refl _ | exact Nat.le_add_right _ _ | omega | (simp [go_sem]; done) | (simp [go_sem]; omega)) _))))⟩

end Go.Proofs.Ytfgppkiioinphaa

/-
  Lengths of what is near; what the layer shows of itself.
-/
namespace Go.Proofs.Ytfgppkiioinphaa
set_option linter.unusedVariables false
open Go.RowKit

/-- squares of what is near -/
theorem near_sq (p : Int) (h1 : -1073741824 ≤ p) (h2 : p ≤ 1073741824) : 0 ≤ p * p ∧ p * p ≤ 1152921504606846976 := by
  have := Int.mul_le_mul_of_natAbs_le (x := p) (y := p) (s := 1073741824) (t := 1073741824) (by omega) (by omega)
  have h0 : 0 ≤ p * p := by
    rcases Int.lt_or_le p 0 with h | h
    · exact Int.mul_nonneg_of_nonpos_of_nonpos (by omega) (by omega)
    · exact Int.mul_nonneg h h
  omega
theorem root_near {D r : Int} (h : IsRoot D r) (hD : D ≤ 2305843009213693952) : r < 1518500250 := root_lt h _ (by omega) (by omega)

end Go.Proofs.Ytfgppkiioinphaa

/-
  From a walk that keeps what lay in memory to the row of a law: the last step, and how an argument that is a struct of two numbers is opened and shut.
-/
namespace Go.Proofs.Ytfgppkiioinphaa
set_option linter.unusedVariables false
open Go.ChangeShapes Go.WideShapes Go.ChangeAt Go.RowKit Go.Joins Go.Deep

theorem own : ownKnob Try.prog.godebug = none := by kernel_rfl

section
variable {H : Type} {enc : TypeId × Value → H} {P : Program}
/-- the row's last step: nothing that lay in memory has turned -/
theorem post_later {f : Func} {s : ChangeSpec} {apart fresh handsOn again : Bool} {W W' : World} {args : Array Value} {v : Value} {ds gs : List (DataW H)} {before pa : List MemPlace}
    (hW : DataW.Whole enc P f.params.toList s.vars apart W args.toList ds gs before)
    (hres : ∀ (b : Nat) (sp : Nat → Bool) (hd : Bool), DataW.TrodAll enc P W' b sp hd f.resultTypes.toList (v.resultList f.resultTypes.size) (s.fn H (ds ++ gs)).results [])
    (hargs : ∀ sp : Nat → Bool, (∀ p ∈ before, sp p.block = true) → DataW.TrodAll enc P W' 0 sp true f.params.toList args.toList (s.fn H (ds ++ gs)).args pa)
    (hvars : ∀ sp : Nat → Bool, (∀ p ∈ before, sp p.block = true) → DataW.TrodVars enc P W' sp s.vars (s.fn H (ds ++ gs)).vars [])
    (hps : before = pa) (hb : ∃ x : Later W, W' = x.out)
    (hok : ∀ (j : Nat) (t : TypeId) (r : Value), f.resultTypes[j]? = some t → (v.resultList f.resultTypes.size)[j]? = some r → Value.okWide P W' .any 0 t r) :
    s.post enc P f apart fresh handsOn again W args v W' := by
  obtain ⟨x, rfl⟩ := hb
  subst hps
  have old : ∀ p ∈ before, p.block < W.heap.size := fun p hp => hW.lt p hp
  have kept : W.keptBut x.out (fun p => p ∈ before ∧ (p ∈ ([] : List MemPlace) ∨ p ∈ before ++ [])) :=
    World.keptBut_mono (fun p hp => ⟨hp, .inr (by simpa using hp)⟩) (x.below.frame (· ∈ before))
  refine ⟨ds, gs, before, [], before, [], hW, hres _ _ _, hargs (fun b => decide (b < W.heap.size)) (fun p hp => by simpa using old p hp), hvars _ (fun p hp => by simpa using old p hp), World.keptBut_mono (fun p hp => ⟨hp.1, by simpa using hp.1⟩) kept, fun _ => ?_⟩
  obtain ⟨_, _, _, _, _, hz, hn⟩ := hW
  refine ⟨hok, _, _, ([] ++ before) ++ [], ⟨[] ++ before, [], trodAll_append (hargs _ (fun _ _ => rfl)) (hres _ _ _), hvars _ (fun _ _ => rfl), rfl, ?_, ?_⟩, ?_⟩
  · intro b off hp
    have hin : MemPlace.cell b off ∈ before := by simpa using hp
    rw [x.below.frozen (old _ hin)]
    exact hz b off hin
  · intro ha
    have := hn ha
    simpa using this
  · intro p hp _
    simpa using hp

/-- a struct of two numbers, by value: opened -/
theorem open_two {W : World} {r : Reach} {b0 base : Nat} {sp : Nat → Bool} {hd : Bool} {t : TypeId} {f0 f1 : Field} {k0 k1 : IntKind} {v : Value} {d : DataW H} {p : List MemPlace} (hs : P.underlying t = some (.struct #[f0, f1])) (hone : oneCellFields P #[f0, f1] = true) (hC : P.cellsOf t = 2)
    (h0 : P.underlying f0.type = some (.int k0)) (h1 : P.underlying f1.type = some (.int k1))
    (hv : Value.okWide P W r b0 t v) (h : DataW.Trod enc P W base sp hd t v d p) :
    ∃ a b : Int, v = .agg #[.int k0 a, .int k1 b] ∧ d = .agg [.lit (.int k0 a), .lit (.int k1 b)] ∧ p = [] ∧ (Lit.int k0 a).wf = true ∧ (Lit.int k1 b).wf = true := by
  obtain ⟨c0, c1, y0, y1, m, rfl, rfl, rfl, hy0, hy1⟩ := open_agg2 hs hone hC hv h
  obtain ⟨a, e0, rfl, wa⟩ := DataW.trod_int h0 hy0
  obtain ⟨b, e1, rfl, wb⟩ := DataW.trod_int h1 hy1
  simp at e0 e1
  subst e0 e1
  exact ⟨a, b, rfl, rfl, rfl, wa, wb⟩

theorem R64_of {n : Int} (h : (Lit.int .i64 n).wf = true) : R64 n := by have := bounds_i64 h; unfold R64; omega

/-- and shut -/
theorem shut_two {W : World} {base : Nat} {sp : Nat → Bool} {hd : Bool} {t : TypeId} {f0 f1 : Field} {k0 k1 : IntKind} {a b : Int} (hs : P.underlying t = some (.struct #[f0, f1])) (hone : oneCellFields P #[f0, f1] = true) (hC : P.cellsOf t = 2)
    (h0 : P.underlying f0.type = some (.int k0)) (h1 : P.underlying f1.type = some (.int k1)) (wa : (Lit.int k0 a).wf = true) (wb : (Lit.int k1 b).wf = true) :
    DataW.Trod enc P W base sp hd t (.agg #[.int k0 a, .int k1 b]) (.agg [.lit (.int k0 a), .lit (.int k1 b)]) [] :=
  shut_agg2 (y0 := (.lit (.int k0 a), [])) (y1 := (.lit (.int k1 b), [])) hs hone hC ⟨1, by simp [DataW.trod, h0, wa]⟩ ⟨1, by simp [DataW.trod, h1, wb]⟩
end
end Go.Proofs.Ytfgppkiioinphaa

/-
  The nearest quotient, in plain words; the place on a way between near points.
-/
namespace Go.Proofs.Ytfgppkiioinphaa
set_option linter.unusedVariables false
open Go.RowKit

theorem nrst_eq (n c : Int) (hc : 0 < c) : nrst n c = (2 * n + c) / (2 * c) := by
  have e := Int.mul_ediv_add_emod n c
  have m0 := Int.emod_nonneg n (show c ≠ 0 by omega)
  have m1 := Int.emod_lt_of_pos n hc
  unfold nrst
  generalize n % c = t at *
  generalize n / c = q at *
  have k : 2 * n + c = (2 * t + c) + 2 * c * q := by rw [Int.mul_assoc]; omega
  rw [k, Int.add_mul_ediv_left _ _ (by omega)]
  split
  · have : (2 * t + c) / (2 * c) = 1 := by
      rw [show 2 * t + c = (2 * t - c) + 2 * c * 1 by omega, Int.add_mul_ediv_left _ _ (by omega), Int.ediv_eq_zero_of_lt (by omega) (by omega)]; rfl
    omega
  · rw [Int.ediv_eq_zero_of_lt (by omega) (by omega)]; omega
theorem nrst_mono (m n c : Int) (hc : 0 < c) (h : m ≤ n) : nrst m c ≤ nrst n c := by
  rw [nrst_eq m c hc, nrst_eq n c hc]
  exact Int.ediv_le_ediv (by omega) (by omega)
theorem nrst_mul (d c : Int) (hc : 0 < c) : nrst (d * c) c = d := by
  unfold nrst
  rw [Int.mul_emod_left, Int.mul_ediv_cancel _ (by omega), if_neg (by omega)]
theorem nrst_zero (c : Int) (hc : 0 < c) : nrst 0 c = 0 := by have := nrst_mul 0 c hc; simpa using this
theorem nrst_shift (n d c : Int) (hc : 0 < c) : nrst (n + d * c) c = nrst n c + d := by
  unfold nrst
  rw [Int.add_mul_emod_self_right, Int.add_mul_ediv_right _ _ (by omega)]
  split <;> omega
theorem nrst_pos (n c : Int) (hc : 0 < c) (h : 0 ≤ n) : 0 ≤ nrst n c ∧ nrst n c ≤ n := by
  have a := nrst_mono 0 n c hc h
  rw [nrst_zero c hc] at a
  have b := nrst_mono n (n * c) c hc (by have := Int.mul_le_mul_of_nonneg_left (show 1 ≤ c by omega) h; omega)
  rw [nrst_mul n c hc] at b
  exact ⟨a, b⟩
theorem nrst_neg (n c : Int) (hc : 0 < c) (h : n ≤ 0) : n ≤ nrst n c ∧ nrst n c ≤ 0 := by
  have a := nrst_mono n 0 c hc h
  rw [nrst_zero c hc] at a
  have b := nrst_mono (n * c) n c hc (by have := Int.mul_le_mul_of_nonpos_left h (show 1 ≤ c by omega); omega)
  rw [nrst_mul n c hc] at b
  exact ⟨b, a⟩
/-- the products of a way -/
theorem way_bd (d k : Int) (d0 : -2147483648 ≤ d) (d1 : d ≤ 2147483648) (k0 : -1073741824 ≤ k) (k1 : k ≤ 1073741824) : -2305843009213693952 ≤ d * k ∧ d * k ≤ 2305843009213693952 := by
  have := Int.mul_le_mul_of_natAbs_le (x := d) (y := k) (s := 2147483648) (t := 1073741824) (by omega) (by omega)
  have := Int.mul_le_mul_of_natAbs_le (x := -d) (y := k) (s := 2147483648) (t := 1073741824) (by omega) (by omega)
  rw [Int.neg_mul] at this
  omega
theorem way_nrst (d k n : Int) (hn : 0 < n) (d0 : -2147483648 ≤ d) (d1 : d ≤ 2147483648) (k0 : -1073741824 ≤ k) (k1 : k ≤ 1073741824) : -2305843009213693952 ≤ nrst (d * k) n ∧ nrst (d * k) n ≤ 2305843009213693952 := by
  have w := way_bd d k d0 d1 k0 k1
  rcases Int.le_total 0 (d * k) with h | h
  · have := nrst_pos (d * k) n hn h; omega
  · have := nrst_neg (d * k) n hn h; omega


theorem along_c (p q z u k n : Int) (w : World) (h1 : -1073741824 ≤ p) (h2 : p ≤ 1073741824) (h3 : -1073741824 ≤ q) (h4 : q ≤ 1073741824) (k1 : -1073741824 ≤ z) (k2 : z ≤ 1073741824) (k3 : -1073741824 ≤ u) (k4 : u ≤ 1073741824) (hn : 1 ≤ n) (n9 : n ≤ 9223372036854775807) (k0 : -1073741824 ≤ k) (k9 : k ≤ 1073741824) :
    Calls Try.prog 51 #[.agg #[.int .i64 p, .int .i64 q], .agg #[.int .i64 z, .int .i64 u], .int .i64 k, .int .i64 n] w fun e w' => e = .returned (.agg #[.int .i64 (p + nrst ((z - p) * k) n), .int .i64 (q + nrst ((u - q) * k) n)]) ∧ ∃ x : Later w, w' = x.out := by
  have y1 := way_nrst (z - p) k n (by omega) (by omega) (by omega) k0 k9
  have y2 := way_nrst (u - q) k n (by omega) (by omega) (by omega) k0 k9
  have c1 := fun v => near_c (z - p) k n v (by unfold R64; omega) (by unfold R64; omega) (by omega) n9 (by unfold R64; omega)
  have c2 := fun v => near_c (u - q) k n v (by unfold R64; omega) (by unfold R64; omega) (by omega) n9 (by unfold R64; omega)
  have cs := fun v => ptSub_c z u p q v
  rw [w64_in (z - p) (by unfold R64; omega), w64_in (u - q) (by unfold R64; omega)] at cs
  exact ptAlong_c1 p q z u k n _ _ _ _ _ _ w hn (w64_in _ (by unfold R64; omega)) (w64_in _ (by unfold R64; omega)) cs (fun v => scaled_c _ _ k n _ _ v c1 c2)


theorem along_r (p q z u k n : Int) (w : World) (h1 : -1073741824 ≤ p) (h2 : p ≤ 1073741824) (h3 : -1073741824 ≤ q) (h4 : q ≤ 1073741824) (k1 : -1073741824 ≤ z) (k2 : z ≤ 1073741824) (k3 : -1073741824 ≤ u) (k4 : u ≤ 1073741824) (hn : 1 ≤ n) (n9 : n ≤ 9223372036854775807) (k0 : -1073741824 ≤ k) (k9 : k ≤ 1073741824) :
    Calls Try.prog 64 #[.agg #[.int .i64 p, .int .i64 q], .agg #[.int .i64 z, .int .i64 u], .int .i64 k, .int .i64 n] w fun e w' => e = .returned (.agg #[.int .i64 (p + nrst ((z - p) * k) n), .int .i64 (q + nrst ((u - q) * k) n)]) ∧ ∃ x : Later w, w' = x.out := by
  have y1 := way_nrst (z - p) k n (by omega) (by omega) (by omega) k0 k9
  have y2 := way_nrst (u - q) k n (by omega) (by omega) (by omega) k0 k9
  have c1 := fun v => near_r (z - p) k n v (by unfold R64; omega) (by unfold R64; omega) (by omega) n9 (by unfold R64; omega)
  have c2 := fun v => near_r (u - q) k n v (by unfold R64; omega) (by unfold R64; omega) (by omega) n9 (by unfold R64; omega)
  skip
  skip
  exact ptAlong_r1 p q z u k n _ _ _ _ _ _ w hn (w64_in _ (by unfold R64; omega)) (w64_in _ (by unfold R64; omega)) (w64_in _ (by unfold R64; omega)) (w64_in _ (by unfold R64; omega)) c1 c2

end Go.Proofs.Ytfgppkiioinphaa
