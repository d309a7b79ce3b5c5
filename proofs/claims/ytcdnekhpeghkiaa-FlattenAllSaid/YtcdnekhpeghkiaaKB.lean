/-
  Texts that stand as one.
-/
import Derived.Test.YtcdnekhpeghkiaaKA
import Derived.RangeFuncNested
import Derived.RangeFuncBound
import Derived.RangeFuncCalls
import Derived.RangeFuncLeaves
import Derived.RangeFuncFrom
import Derived.Shelf.Abstract
import Derived.Shelf.RegionOpen
import Derived.OwnWalkIn
import Derived.TacticsInMore
import Derived.LoopNIn
import Derived.LoopIn
import Derived.Test.YtcdnekhpeghkiaaRows
import Derived.ProofKit
import Derived.OpenShut
import Derived.Lib.SmallJoins
/-
  Plain arithmetic: the root of a whole number, rounded down; Newton's step from above; the root bit by bit.
-/
namespace Go.Proofs.Ytcdnekhpeghkiaa
set_option linter.unusedVariables false

structure IsRoot (N r : Int) : Prop where
  r0 : 0 ≤ r
  le : r * r ≤ N
  lt : N < (r + 1) * (r + 1)

theorem root_mono {N r x : Int} (h : IsRoot N r) (x0 : 0 ≤ x) (hx : x * x ≤ N) : x ≤ r := by
  rcases Int.lt_or_le r x with k | k
  · have := Int.mul_le_mul (show r + 1 ≤ x by omega) (show r + 1 ≤ x by omega) (by have := h.r0; omega) x0
    have := h.lt
    omega
  · exact k
theorem root_above {N r x : Int} (h : IsRoot N r) (x0 : 0 ≤ x) (hx : x ≤ r) : x * x ≤ N := by
  have := Int.mul_le_mul hx hx x0 h.r0
  have := h.le
  omega
theorem root_unique {N r s : Int} (h : IsRoot N r) (k : IsRoot N s) : r = s := by
  have a := root_mono h k.r0 k.le
  have b := root_mono k h.r0 h.le
  omega

theorem root_exists : ∀ n : Nat, ∃ r : Nat, IsRoot n r
  | 0 => ⟨0, by omega, by omega, by omega⟩
  | n + 1 => by
    obtain ⟨r, h⟩ := root_exists n
    have h1 := h.le
    have h2 := h.lt
    by_cases k : ((r : Int) + 1) * (r + 1) ≤ ((n + 1 : Nat) : Int)
    · refine ⟨r + 1, by omega, ?_, ?_⟩
      · simpa using k
      · have e : (((r + 1 : Nat) : Int) + 1) * (((r + 1 : Nat) : Int) + 1) = ((r : Int) + 1) * (r + 1) + 2 * (r + 1) + 1 := by
          have : (((r + 1 : Nat) : Int)) = (r : Int) + 1 := by omega
          rw [this, Int.add_mul (↑r + 1) 1, Int.mul_add (↑r + 1)]
          omega
        rw [e]
        omega
    · exact ⟨r, by omega, by omega, by omega⟩

/-- the root -/
noncomputable def isq (N : Int) : Int := ((root_exists N.toNat).choose : Nat)
theorem isq_is (N : Int) (h : 0 ≤ N) : IsRoot N (isq N) := by
  have e := Int.toNat_of_nonneg h
  have k := (root_exists N.toNat).choose_spec
  unfold isq
  generalize (root_exists N.toNat).choose = r at *
  rw [e] at k
  exact k
theorem isq_of {N r : Int} (h : 0 ≤ N) (k : IsRoot N r) : isq N = r := root_unique (isq_is N h) k

theorem sq_add (x y : Int) : (x + y) * (x + y) = x * x + 2 * (x * y) + y * y := by
  rw [Int.add_mul, Int.mul_add, Int.mul_add, Int.mul_comm y x]; omega

/-- Newton's step from above stays above -/
theorem newton_above {N r x : Int} (h : IsRoot N r) (x0 : 0 < x) (hx : r ≤ x) : r ≤ (x + N / x) / 2 := by
  rcases Int.lt_or_le ((x + N / x) / 2) r with k | k
  · have e := Int.mul_ediv_add_emod N x
    have m0 := Int.emod_nonneg N (show x ≠ 0 by omega)
    have m1 := Int.emod_lt_of_pos N x0
    have q1 : N / x ≤ 2 * r - 1 - x := by omega
    have q2 := Int.mul_le_mul_of_nonneg_left q1 (Int.le_of_lt x0)
    have d : 0 ≤ (x - r) * (x - r) := by
      rcases Int.lt_or_le (x - r) 0 with a | a
      · omega
      · exact Int.mul_nonneg a a
    have e2 : x * (2 * r - 1 - x) = 2 * (x * r) - x - x * x := by rw [Int.mul_sub, Int.mul_sub, Int.mul_left_comm]; omega
    have e3 : (x - r) * (x - r) = x * x - 2 * (x * r) + r * r := by rw [Int.sub_mul, Int.mul_sub, Int.mul_sub, Int.mul_comm r x]; omega
    have := h.le
    omega
  · exact k
/-- where it does not fall any more it is the root -/
theorem newton_end {N r x : Int} (h : IsRoot N r) (x0 : 0 < x) (hx : r ≤ x) (hn : x ≤ (x + N / x) / 2) : x = r := by
  have q : x ≤ N / x := by omega
  have e := Int.mul_ediv_add_emod N x
  have m0 := Int.emod_nonneg N (show x ≠ 0 by omega)
  have q2 := Int.mul_le_mul_of_nonneg_left q (Int.le_of_lt x0)
  have := root_mono h (Int.le_of_lt x0) (by omega)
  omega
/-- a guess at most the upper half -/
theorem newton_high {hi lo r x : Int} (h : IsRoot (hi * 18446744073709551616 + lo) r) (x0 : 0 ≤ x) (x1 : x ≤ 18446744073709551615) (l0 : 0 ≤ lo) (hx : r ≤ x) (hh : x ≤ hi) : x = r := by
  have q := Int.mul_le_mul_of_nonneg_left (show x ≤ 18446744073709551616 by omega) x0
  have := root_mono h x0 (by omega)
  omega
theorem root_lt {N r : Int} (h : IsRoot N r) (b : Int) (b0 : 0 ≤ b) (hN : N < b * b) : r < b := by
  rcases Int.lt_or_le r b with k | k
  · exact k
  · have := root_above h b0 k
    omega

end Go.Proofs.Ytcdnekhpeghkiaa

/-
  A range over a function whose assignment stores into a box ('for x = range seq {}'): what holds between the assignment and the body is a word of its own, that may speak of what has come. No way out of the loop but its end.
-/
namespace Go.Proofs.Ytcdnekhpeghkiaa
set_option linter.unusedVariables false
open Go.RowKit Go.Shelf

section
variable {P : Program} {F : Fence} {n : Nat}

/-- the loop's record in a state -/
def recAt (fn : FuncId) (tmps : Array Value) (ps : Array Tmp) (assign body : Code) (D : Nat) (st : LoopState) (pe : Option Code) : Obj :=
  .loop { state := st, pending := pe, fn, tmps, params := ps, assign, body, defers := D }

theorem wpIn_rangeFunc_mid {α : Type} {g : Operand} {ps : Array Tmp} {assign body : Code} {Q : Exit → Act → World → Prop} {a : Act} {w : World}
    (hro : F.round = none) (h1 : 1 ≤ n) {gf : Nat} {lb : Array Value} (hg : a.eval g = .func (.func gf) #[] lb) (hF : F.fn gf) (eg : ∀ args w, (callFunc gf args).run P w = .ok (.enter gf args) w)
    {encs : α → Array Value} {Kp : World → World → Prop} {S : List α → Prop} {N : Nat} {w0 : World} (hseq : SeqStopsK F (n - 1) P gf lb encs Kp S (fun _ => True) N w0)
    (hKt : ∀ {A B C : World}, Kp A B → Kp B C → Kp A C) (hKb : ∀ (W : World) (l : Nat) (o o' : Obj), w.heap.size ≤ l → W.heap[l]? = some o → o.isCells = false → o.isWalk = false → Kp W (W.putObj l o'))
    (hb0 : Below w0.heap.size w0 w) (hps : ∀ x, (encs x).size = ps.size)
    (I : List α → World → Prop) (hI : OwnFrom w.heap.size I) (h0 : I [] w) (M : List α → α → Act → World → Prop) (hM : ∀ pre x a', OwnFrom w.heap.size (fun (_ : Unit) W => M pre x a' W))
    (hassign : ∀ (l : Nat) (pre : List α) (x : α) (W : World) (K : Act → World → Prop), I pre W → (∀ a' W', KeepsFrom w.heap.size W W' → Kp W W' → M pre x a' W' → K a' W') →
      assign.wpIn (F.inRound l) (n - 1 - 1) P (Exit.then K (fun _ _ _ => False)) { tmps := (ps.zip (encs x)).foldl (fun t (p, v) => t.setIfInBounds p v) a.tmps, defers := [] } W)
    (hbody : ∀ (l : Nat) (pre : List α) (x : α) (a' : Act) (W : World), M pre x a' W → pre.length < N →
      body.wpIn (F.inRound l) (n - 1 - 1) P (Exit.then (fun _ W' => KeepsFrom w.heap.size W W' ∧ Kp W W' ∧ I (pre ++ [x]) W') (fun _ _ _ => False)) a' W)
    (hdone : ∀ (D : Nat) (xs : List α) (W : World), w.heap.size ≤ D → S xs → I xs W → W.heap[D]? = some (.deferred (some [])) → Q .normal { a with defers := { target := .collected D, args := #[] } :: a.defers } W) :
    (Code.rangeFunc g ps assign body).wpIn F n P Q a w := by
  refine wpIn_rangeFunc ?_
  intro fn hfn
  rw [hro]
  have nd : (w.alloc (.deferred (some []))).heap.size = w.heap.size + 1 := World.size_alloc _ _
  obtain ⟨R, hR⟩ : ∃ R : LoopState → Option Code → Obj, R = recAt fn a.tmps ps assign body w.heap.size := ⟨_, rfl⟩
  have Rcells : ∀ st pe, (R st pe).isCells = false := fun _ _ => by rw [hR]; rfl
  have Rwalk : ∀ st pe, (R st pe).isWalk = false := fun _ _ => by rw [hR]; rfl
  obtain ⟨V, hV⟩ : ∃ V, (w.alloc (.deferred (some []))).alloc (R .ready none) = V := ⟨_, rfl⟩
  have vs : V.heap.size = w.heap.size + 1 + 1 := by rw [← hV]; simp
  have vl : V.heap[w.heap.size + 1]? = some (R .ready none) := by
    have := World.alloc_heap_new (w.alloc (.deferred (some []))) (R .ready none)
    rwa [nd, hV] at this
  have vd : V.heap[w.heap.size]? = some (.deferred (some [])) := by
    rw [← hV]; exact (Below.heap_alloc _ _ _ (by rw [nd]; omega)).trans (World.alloc_heap_new w _)
  have vI : I [] V := by rw [← hV]; exact hI.alloc _ (hI.alloc _ h0)
  have vb : Below w0.heap.size w0 V := by
    have : Below w.heap.size w V := by rw [← hV]; exact ((Below.refl _ w).alloc (Nat.le_refl _) _).alloc (by rw [nd]; omega) _
    exact hb0.trans (this.mono hb0.size)
  -- what a step that turns no cells and nothing below the loop keeps
  have cast : ∀ {A : World} {row : Option Nat}, (∀ r, row = some r → V.heap.size ≤ r ∧ ∃ o : Obj, A.heap[r]? = some o ∧ o.isWalk = true) → (∀ r, row = some r → w.heap.size ≤ r ∧ ∃ o : Obj, A.heap[r]? = some o ∧ o.isCells = false) :=
    fun h r e => let ⟨hB, o, ho, hw⟩ := h r e; ⟨by omega, o, ho, Obj.not_cells_of_walk hw⟩
  refine ⟨w.heap.size + 1, [{ target := .collected w.heap.size, args := #[] }], V, { target := .fn (.func gf) lb, args := #[.func (.yield (w.heap.size + 1)) #[] #[]] }, V, gf,
    #[.func (.yield (w.heap.size + 1)) #[] #[]] ++ lb, V, ?_, ?_, ?_, ?_, fun _ => h1, ?_⟩
  · rw [← hV, hR]; exact run_enterLoop_outer _ _ _ _ _
  · simp only [resolve, hg]
    simp [go_sem]
  · intro f' hf'
    simp [Target.leads] at hf'
    subst hf'
    exact hF
  · simp [invoke, go_sem, eg]
  · refine (hseq (w.heap.size + 1)
      (fun pre W => I pre W ∧ W.heap[w.heap.size + 1]? = some (R .ready none) ∧ W.heap[w.heap.size]? = some (.deferred (some [])))
      (fun _ _ => False) V vb
      (fun s A B row hs hk hr => ⟨hI s A B row hs.1 hk (cast hr), (grownBy_keeps hk (fun r e => (hr r e).2) hs.2.1 (Rwalk _ _)).trans hs.2.1, (grownBy_keeps hk (fun r e => (hr r e).2) hs.2.2 rfl).trans hs.2.2⟩)
      (fun _ _ _ _ hs _ _ => hs) ?_ ⟨vI, vl, vd⟩).mono ?_
    · rintro pre x W ⟨hi, hl, hk⟩ hlen
      have hl0 := hl
      rw [hR] at hl0
      have hy := run_yield (P := P) (args := encs x) hl0 (hps x)
      refine ⟨fn, _, assign, body, hy, roundIn_of_wpIn hfn (hassign _ pre x W _ hi ?_)⟩
      intro a' X kx bx mx
      have xl := kx.same _ _ (by omega) hl (Rcells _ _)
      have xd := kx.same _ _ (Nat.le_refl _) hk rfl
      have xlt : w.heap.size + 1 < X.heap.size := (Array.getElem?_eq_some_iff.1 xl).1
      have xl0 := xl
      rw [hR] at xl0
      refine ⟨_, run_beginRound xl0 rfl, ?_⟩
      obtain ⟨Y, hY⟩ : ∃ Y, X.putObj (w.heap.size + 1) (R .busy none) = Y := ⟨_, rfl⟩
      have yl : Y.heap[w.heap.size + 1]? = some (R .busy none) := by rw [← hY]; exact World.putObj_heap_same xlt
      have yd : Y.heap[w.heap.size]? = some (.deferred (some [])) := by rw [← hY]; exact (World.putObj_heap_other (by omega)).trans xd
      have yb : Kp X Y := by rw [← hY]; exact hKb X _ _ _ (by omega) xl (Rcells _ _) (Rwalk _ _)
      have ym : M pre x a' Y := by rw [← hY]; exact (hM pre x a').putObj (s := ()) _ mx (by omega) xl (Rcells _ _)
      have hY' : X.putObj (w.heap.size + 1) (.loop { state := .busy, pending := none, fn, tmps := a.tmps, params := ps, assign, body, defers := w.heap.size }) = Y := by rw [← hY, hR]; rfl
      refine wpIn_mono (by rw [hY']; exact hbody _ pre x a' Y ym hlen) ?_
      rintro e a3 Z hz
      cases e with
      | normal =>
        obtain ⟨kz, bz, iz⟩ := hz
        have zl := kz.same _ _ (by omega) yl (Rcells _ _)
        have zd := kz.same _ _ (Nat.le_refl _) yd rfl
        have zlt := (Array.getElem?_eq_some_iff.1 zl).1
        have zl0 := zl
        rw [hR] at zl0
        refine ⟨_, _, run_endRound (P := P) none zl0, .inl ⟨rfl, ⟨hI.putObj _ iz (by omega) zl (Rcells _ _), ?_, (World.putObj_heap_other (by omega)).trans zd⟩, hKt bx (hKt (hKt yb bz) (hKb Z _ _ _ (by omega) zl (Rcells _ _) (Rwalk _ _)))⟩⟩
        rw [World.putObj_heap_same zlt, hR]
        rfl
      | ret => exact hz.elim
      | exit id => exact hz.elim
      | goto t => exact hz.elim
      | panic ch => exact hz.elim
      | outgrown => exact hz.elim
    · rintro e Z ⟨⟨v, rfl⟩, (⟨xs, hS, iz, zl, zd⟩ | ⟨_, _, h⟩)⟩
      · have zl0 := zl
        rw [hR] at zl0
        exact ⟨none, _, run_endLoop (P := P) zl0 (by simp), hdone _ xs _ (Nat.le_refl _) hS (hI.putObj _ iz (by omega) zl (Rcells _ _)) ((World.putObj_heap_other (by omega)).trans zd)⟩
      · exact h.elim
end
end Go.Proofs.Ytcdnekhpeghkiaa

/-
  The contract of the root: Newton's guesses, from above, come by an iterator.
-/
namespace Go.Proofs.Ytcdnekhpeghkiaa
set_option linter.unusedVariables false
open Go.RowKit Go.Shelf

theorem half_val (a b : Int) (a0 : 0 ≤ a) (a1 : a ≤ 18446744073709551615) (b0 : 0 ≤ b) (b1 : b ≤ 18446744073709551615) :
    bits .or .u64 (addS a b 0 / 2) (IntKind.u64.wrap (addC a b 0 * 9223372036854775808)) = (a + b) / 2 := by
  obtain ⟨A, rfl⟩ := Int.eq_ofNat_of_zero_le a0
  obtain ⟨B, rfl⟩ := Int.eq_ofNat_of_zero_le b0
  by_cases h : A + B < 18446744073709551616
  · have e1 : addS (A : Int) B 0 / 2 = (((A + B) / 2 : Nat) : Int) := by unfold addS; omega
    have e2 : IntKind.u64.wrap (addC (A : Int) B 0 * 9223372036854775808) = ((0 : Nat) : Int) := by
      unfold addC; rw [if_pos (by omega), IntKind.wrap_u64]; omega
    rw [e1, e2, bits_or_u64_nat _ _ (by omega) (by omega), Nat.or_zero]
    omega
  · have e1 : addS (A : Int) B 0 / 2 = (((A + B - 18446744073709551616) / 2 : Nat) : Int) := by unfold addS; omega
    have e2 : IntKind.u64.wrap (addC (A : Int) B 0 * 9223372036854775808) = ((2 ^ 63 * 1 : Nat) : Int) := by
      unfold addC; rw [if_neg (by omega), IntKind.wrap_u64]; omega
    have hb : (A + B - 18446744073709551616) / 2 < 2 ^ 63 := by omega
    rw [e1, e2, bits_or_u64_nat _ _ (by omega) (by omega), Nat.or_comm, ← Nat.two_pow_add_eq_or_of_lt hb]
    omega

set_option maxHeartbeats 400000 in
theorem half_c (a b : Int) (w : World) (a0 : 0 ≤ a) (a1 : a ≤ 18446744073709551615) (b0 : 0 ≤ b) (b1 : b ≤ 18446744073709551615) :
    Calls Try.prog 103 #[.int .u64 a, .int .u64 b] w fun e w' => e = .returned (.int .u64 ((a + b) / 2)) ∧ w = w' := by
  have u1 : U64 a := by unfold U64; omega
  have u2 : U64 b := by unfold U64; omega
  have e := Lib.hid (half_val a b a0 a1 b0 b1)
  go_enter Try.func103, Try.ntmps103
  go_wp2
  go_ret
  exact ⟨ret_int e.out, rfl⟩

attribute [local go_sem] Oper.semAt_some

/-- two blocks lie as they lay -/
def Same2 (b c : Nat) (W W' : World) : Prop := W'.heap[b]? = W.heap[b]? ∧ W'.heap[c]? = W.heap[c]?
theorem Same2.trans {b c : Nat} {A B C : World} (h : Same2 b c A B) (k : Same2 b c B C) : Same2 b c A C := ⟨k.1.trans h.1, k.2.trans h.2⟩

theorem Later.grown {w : World} (x : Later w) : w.grownBy x.out none := ⟨x.below.os, x.below.tape, x.below.output, x.below.size, fun k hk _ => x.below.block k hk⟩


set_option maxRecDepth 100000 in
set_option maxHeartbeats 2000000 in
theorem guess_a (hi lo r x0 z m n : Int) (k : Nat) (Bh Bl : Nat) (l : Nat) (J Jx : List Int → World → Prop) (N : Nat)
    (hlz : ∀ w', Calls Try.prog 100 #[.int .u64 hi] w' fun e w'' => e = .returned (.int .i64 z) ∧ w' = w'') (hln : ∀ w', Calls Try.prog 101 #[.int .u64 lo] w' fun e w'' => e = .returned (.int .i64 m) ∧ w' = w'') (z0 : 0 ≤ z) (z1 : z ≤ 64)
    (hz : (hi == 0) = false) (hn : 128 - z = n) (hk : (n + 1) / 2 = (k : Int)) (hk2 : bits .and .i64 (k : Int) 63 = (k : Int)) (hk3 : (n + 1) / 128 = 0) (hk4 : k ≤ 63) (hn0 : 0 ≤ n) (hn1 : n < 127) (hx : IntKind.u64.wrap (IntKind.u64.wrap (2 ^ k)) = x0) (hhi0 : 0 ≤ hi) (hlo0 : 0 ≤ lo) (hlo1 : lo ≤ 18446744073709551615) (HR : Hid (IsRoot (hi * 18446744073709551616 + lo) r))
    (hr1 : 1 ≤ r) (hx0 : r ≤ x0) (hx1 : 1 ≤ x0) (hx2 : x0 ≤ 18446744073709551615) (HN : Hid (([] : List Int).length + x0.toNat < N))
    (hJ : ∀ (s : List Int) (W W' : World), J s W → W.grownBy W' none → J s W')
    (hY : ∀ pre x W, J pre W → pre.length < N → YieldAt Fence.wide 2 Try.prog l #[.int .u64 x] W fun e W' =>
      (e = .returned (.bool true) ∧ J (pre ++ [x]) W' ∧ Same2 Bh Bl W W') ∨ (e = .returned (.bool false) ∧ Jx (pre ++ [x]) W'))
    (W : World) (hBh : W.cell? ⟨Bh, 0, none⟩ = some (.int .u64 hi)) (hBl : W.cell? ⟨Bl, 0, none⟩ = some (.int .u64 lo)) (h0 : J [] W) :
    CallsIn Fence.wide 3 Try.prog 99 #[.func (.yield l) #[] #[], .pointer (some ⟨Bh, 0, none⟩), .pointer (some ⟨Bl, 0, none⟩)] W fun e W' => (∃ v, e = .returned v) ∧
      ((∃ ys, (∃ pre, ys = pre ++ [r]) ∧ J ys W') ∨ (∃ pre, Jx pre W')) := by
  have HLZ := Lib.hid hlz
  have HLN := Lib.hid hln
  have HY := Lib.hid hY
  have HJ := Lib.hid hJ
  clear hlz hln hY hJ
  skip
  refine callsIn_of_wp Try.func99 rfl trivial ?_ rfl
  simp only [Try.ntmps99, List.size_toArray, List.length_cons, List.length_nil, Nat.reduceAdd, Nat.reduceSub, Array.replicate_succ, Array.replicate_zero, List.push_toArray, List.append_toArray, List.nil_append, List.cons_append]
  gi_wp2_with (first | (refine ⟨trivial, ?_⟩; gi_at_call 100; refine (callsIn_wide.2 (HLZ.out _)).mono ?_; rintro e _ ⟨rfl, rfl⟩) | (refine ⟨trivial, ?_⟩; gi_at_call 101; refine (callsIn_wide.2 (HLN.out _)).mono ?_; rintro e _ ⟨rfl, rfl⟩))
  gi_loopw [5] (fun x wr => ∃ (pre : List Int) (X : Int), x = .int .u64 X ∧ r ≤ X ∧ 1 ≤ X ∧ X ≤ 18446744073709551615 ∧ Hid (pre.length + X.toNat < N) ∧ J pre wr ∧ wr.cell? ⟨Bh, 0, none⟩ = some (.int .u64 hi) ∧ wr.cell? ⟨Bl, 0, none⟩ = some (.int .u64 lo))
    (fun x _ => (intOf x).toNat)
  case atStart => exact ⟨[], _, rfl, hx0, hx1, hx2, HN, h0, hBh, hBl⟩
  case round =>
    obtain ⟨pre, X, rfl, hX, hX1, hX2, HNX, hJs, c1, c2⟩ := hrel
    obtain ⟨fn, tmps, assign, body, hy, hR⟩ := HY.out pre X wr hJs (by have := HNX.out; omega)
    have l1 := World.block_lt_of_cell? wr _ c1
    have l2 := World.block_lt_of_cell? wr _ c2
    gi_wp2
    refine hR.mono ?_
    rintro e W3 (⟨rfl, hJ3, hk3⟩ | ⟨rfl, hJx3⟩)
    · have d1 : W3.cell? ⟨Bh, 0, none⟩ = some (.int .u64 hi) := (World.cell?_of_block (a := ⟨Bh, 0, none⟩) hk3.1).trans c1
      have d2 : W3.cell? ⟨Bl, 0, none⟩ = some (.int .u64 lo) := (World.cell?_of_block (a := ⟨Bl, 0, none⟩) hk3.2).trans c2
      have m1 := World.block_lt_of_cell? W3 _ d1
      have m2 := World.block_lt_of_cell? W3 _ d2
      dsimp only at m1 m2
      clear c1 c2 l1 l2 hk3 hJs hy hR
      have HJ3 := Lib.hid hJ3
      clear hJ3
      by_cases hle : X ≤ hi
      · have e := newton_high HR.out (by omega) hX2 hlo0 hX hle
        have HE := Lib.hid e
        clear e
        gi_wp2
        refine bodyPost_ret (results_none rfl _ _ _) rfl ?_
        exact ⟨⟨_, rfl⟩, .inl ⟨pre ++ [X], ⟨pre, by rw [HE.out]⟩, HJ3.out⟩⟩
      · have na := newton_above HR.out (show 0 < X by omega) hX
        have ne := newton_end HR.out (show 0 < X by omega) hX
        have hd := fun w' => div64_c hi lo X w' hhi0 (by omega) hlo0 hlo1 hX2
        have hq0 : 0 ≤ (hi * 18446744073709551616 + lo) / X := Int.ediv_nonneg (by omega) (by omega)
        have hq1 : (hi * 18446744073709551616 + lo) / X < 18446744073709551616 := Int.ediv_lt_of_lt_mul (by omega) (by
          have := Int.mul_le_mul_of_nonneg_left (show hi + 1 ≤ X by omega) (show (0 : Int) ≤ 18446744073709551616 by omega)
          omega)
        generalize (hi * 18446744073709551616 + lo) / X = q at *
        generalize (hi * 18446744073709551616 + lo) % X = rr at *
        have hh := fun w' => half_c X q w' (by omega) hX2 hq0 (by omega)
        have nb : (X + q) / 2 ≤ 18446744073709551615 := by omega
        generalize (X + q) / 2 = nx at *
        have HD := Lib.hid hd
        have HH := Lib.hid hh
        clear hd hh hq1
        by_cases hge : X ≤ nx
        · have HE := Lib.hid (ne hge)
          clear ne na
          gi_wp2_with (first | (refine ⟨trivial, ?_⟩; gi_at_call 102; refine (callsIn_wide.2 (HD.out _)).mono ?_; rintro e _ ⟨rfl, x, rfl⟩) | (refine ⟨trivial, ?_⟩; gi_at_call 103; refine (callsIn_wide.2 (HH.out _)).mono ?_; rintro e _ ⟨rfl, rfl⟩))
          refine bodyPost_ret (results_none rfl _ _ _) rfl ?_
          exact ⟨⟨_, rfl⟩, .inl ⟨pre ++ [X], ⟨pre, by rw [HE.out]⟩, HJ.out _ _ _ HJ3.out (Later.grown x)⟩⟩
        · clear ne
          have h1 : 1 ≤ nx := by omega
          gi_wp2_with (first | (refine ⟨trivial, ?_⟩; gi_at_call 102; refine (callsIn_wide.2 (HD.out _)).mono ?_; rintro e _ ⟨rfl, x, rfl⟩) | (refine ⟨trivial, ?_⟩; gi_at_call 103; refine (callsIn_wide.2 (HH.out _)).mono ?_; rintro e _ ⟨rfl, rfl⟩))
          go_roundw
          case rel =>
            exact ⟨pre ++ [X], nx, rfl, na, h1, nb, Lib.hid (by have := HNX.out; simp; omega), HJ.out _ _ _ HJ3.out (Later.grown x), by simp [go_sem, *], by simp [go_sem, *]⟩
          case measure => simp [intOf]; omega
    · gi_wp2
      go_end0
      exact ⟨⟨_, rfl⟩, .inr ⟨pre ++ [X], hJx3⟩⟩


set_option maxRecDepth 100000 in
set_option maxHeartbeats 2000000 in
theorem guess_b1 (hi lo r x0 z m n : Int) (k : Nat) (Bh Bl : Nat) (l : Nat) (J Jx : List Int → World → Prop) (N : Nat)
    (hlz : ∀ w', Calls Try.prog 100 #[.int .u64 hi] w' fun e w'' => e = .returned (.int .i64 z) ∧ w' = w'') (hln : ∀ w', Calls Try.prog 101 #[.int .u64 lo] w' fun e w'' => e = .returned (.int .i64 m) ∧ w' = w'') (z0 : 0 ≤ z) (z1 : z ≤ 64)
    (hz : (hi == 0) = false) (hn : z = 1) (hx : x0 = 18446744073709551615) (hhi0 : 0 ≤ hi) (hlo0 : 0 ≤ lo) (hlo1 : lo ≤ 18446744073709551615) (HR : Hid (IsRoot (hi * 18446744073709551616 + lo) r))
    (hr1 : 1 ≤ r) (hx0 : r ≤ x0) (hx1 : 1 ≤ x0) (hx2 : x0 ≤ 18446744073709551615) (HN : Hid (([] : List Int).length + x0.toNat < N))
    (hJ : ∀ (s : List Int) (W W' : World), J s W → W.grownBy W' none → J s W')
    (hY : ∀ pre x W, J pre W → pre.length < N → YieldAt Fence.wide 2 Try.prog l #[.int .u64 x] W fun e W' =>
      (e = .returned (.bool true) ∧ J (pre ++ [x]) W' ∧ Same2 Bh Bl W W') ∨ (e = .returned (.bool false) ∧ Jx (pre ++ [x]) W'))
    (W : World) (hBh : W.cell? ⟨Bh, 0, none⟩ = some (.int .u64 hi)) (hBl : W.cell? ⟨Bl, 0, none⟩ = some (.int .u64 lo)) (h0 : J [] W) :
    CallsIn Fence.wide 3 Try.prog 99 #[.func (.yield l) #[] #[], .pointer (some ⟨Bh, 0, none⟩), .pointer (some ⟨Bl, 0, none⟩)] W fun e W' => (∃ v, e = .returned v) ∧
      ((∃ ys, (∃ pre, ys = pre ++ [r]) ∧ J ys W') ∨ (∃ pre, Jx pre W')) := by
  have HLZ := Lib.hid hlz
  have HLN := Lib.hid hln
  have HY := Lib.hid hY
  have HJ := Lib.hid hJ
  clear hlz hln hY hJ
  subst hx; subst hn; have hb1 : bits .and .i64 64 63 = 0 := by decide +kernel
  refine callsIn_of_wp Try.func99 rfl trivial ?_ rfl
  simp only [Try.ntmps99, List.size_toArray, List.length_cons, List.length_nil, Nat.reduceAdd, Nat.reduceSub, Array.replicate_succ, Array.replicate_zero, List.push_toArray, List.append_toArray, List.nil_append, List.cons_append]
  gi_wp2_with (first | (refine ⟨trivial, ?_⟩; gi_at_call 100; refine (callsIn_wide.2 (HLZ.out _)).mono ?_; rintro e _ ⟨rfl, rfl⟩) | (refine ⟨trivial, ?_⟩; gi_at_call 101; refine (callsIn_wide.2 (HLN.out _)).mono ?_; rintro e _ ⟨rfl, rfl⟩))
  gi_loopw [5] (fun x wr => ∃ (pre : List Int) (X : Int), x = .int .u64 X ∧ r ≤ X ∧ 1 ≤ X ∧ X ≤ 18446744073709551615 ∧ Hid (pre.length + X.toNat < N) ∧ J pre wr ∧ wr.cell? ⟨Bh, 0, none⟩ = some (.int .u64 hi) ∧ wr.cell? ⟨Bl, 0, none⟩ = some (.int .u64 lo))
    (fun x _ => (intOf x).toNat)
  case atStart => exact ⟨[], _, rfl, hx0, hx1, hx2, HN, h0, hBh, hBl⟩
  case round =>
    obtain ⟨pre, X, rfl, hX, hX1, hX2, HNX, hJs, c1, c2⟩ := hrel
    obtain ⟨fn, tmps, assign, body, hy, hR⟩ := HY.out pre X wr hJs (by have := HNX.out; omega)
    have l1 := World.block_lt_of_cell? wr _ c1
    have l2 := World.block_lt_of_cell? wr _ c2
    gi_wp2
    refine hR.mono ?_
    rintro e W3 (⟨rfl, hJ3, hk3⟩ | ⟨rfl, hJx3⟩)
    · have d1 : W3.cell? ⟨Bh, 0, none⟩ = some (.int .u64 hi) := (World.cell?_of_block (a := ⟨Bh, 0, none⟩) hk3.1).trans c1
      have d2 : W3.cell? ⟨Bl, 0, none⟩ = some (.int .u64 lo) := (World.cell?_of_block (a := ⟨Bl, 0, none⟩) hk3.2).trans c2
      have m1 := World.block_lt_of_cell? W3 _ d1
      have m2 := World.block_lt_of_cell? W3 _ d2
      dsimp only at m1 m2
      clear c1 c2 l1 l2 hk3 hJs hy hR
      have HJ3 := Lib.hid hJ3
      clear hJ3
      by_cases hle : X ≤ hi
      · have e := newton_high HR.out (by omega) hX2 hlo0 hX hle
        have HE := Lib.hid e
        clear e
        gi_wp2
        refine bodyPost_ret (results_none rfl _ _ _) rfl ?_
        exact ⟨⟨_, rfl⟩, .inl ⟨pre ++ [X], ⟨pre, by rw [HE.out]⟩, HJ3.out⟩⟩
      · have na := newton_above HR.out (show 0 < X by omega) hX
        have ne := newton_end HR.out (show 0 < X by omega) hX
        have hd := fun w' => div64_c hi lo X w' hhi0 (by omega) hlo0 hlo1 hX2
        have hq0 : 0 ≤ (hi * 18446744073709551616 + lo) / X := Int.ediv_nonneg (by omega) (by omega)
        have hq1 : (hi * 18446744073709551616 + lo) / X < 18446744073709551616 := Int.ediv_lt_of_lt_mul (by omega) (by
          have := Int.mul_le_mul_of_nonneg_left (show hi + 1 ≤ X by omega) (show (0 : Int) ≤ 18446744073709551616 by omega)
          omega)
        generalize (hi * 18446744073709551616 + lo) / X = q at *
        generalize (hi * 18446744073709551616 + lo) % X = rr at *
        have hh := fun w' => half_c X q w' (by omega) hX2 hq0 (by omega)
        have nb : (X + q) / 2 ≤ 18446744073709551615 := by omega
        generalize (X + q) / 2 = nx at *
        have HD := Lib.hid hd
        have HH := Lib.hid hh
        clear hd hh hq1
        by_cases hge : X ≤ nx
        · have HE := Lib.hid (ne hge)
          clear ne na
          gi_wp2_with (first | (refine ⟨trivial, ?_⟩; gi_at_call 102; refine (callsIn_wide.2 (HD.out _)).mono ?_; rintro e _ ⟨rfl, x, rfl⟩) | (refine ⟨trivial, ?_⟩; gi_at_call 103; refine (callsIn_wide.2 (HH.out _)).mono ?_; rintro e _ ⟨rfl, rfl⟩))
          refine bodyPost_ret (results_none rfl _ _ _) rfl ?_
          exact ⟨⟨_, rfl⟩, .inl ⟨pre ++ [X], ⟨pre, by rw [HE.out]⟩, HJ.out _ _ _ HJ3.out (Later.grown x)⟩⟩
        · clear ne
          have h1 : 1 ≤ nx := by omega
          gi_wp2_with (first | (refine ⟨trivial, ?_⟩; gi_at_call 102; refine (callsIn_wide.2 (HD.out _)).mono ?_; rintro e _ ⟨rfl, x, rfl⟩) | (refine ⟨trivial, ?_⟩; gi_at_call 103; refine (callsIn_wide.2 (HH.out _)).mono ?_; rintro e _ ⟨rfl, rfl⟩))
          go_roundw
          case rel =>
            exact ⟨pre ++ [X], nx, rfl, na, h1, nb, Lib.hid (by have := HNX.out; simp; omega), HJ.out _ _ _ HJ3.out (Later.grown x), by simp [go_sem, *], by simp [go_sem, *]⟩
          case measure => simp [intOf]; omega
    · gi_wp2
      go_end0
      exact ⟨⟨_, rfl⟩, .inr ⟨pre ++ [X], hJx3⟩⟩


set_option maxRecDepth 100000 in
set_option maxHeartbeats 2000000 in
theorem guess_b2 (hi lo r x0 z m n : Int) (k : Nat) (Bh Bl : Nat) (l : Nat) (J Jx : List Int → World → Prop) (N : Nat)
    (hlz : ∀ w', Calls Try.prog 100 #[.int .u64 hi] w' fun e w'' => e = .returned (.int .i64 z) ∧ w' = w'') (hln : ∀ w', Calls Try.prog 101 #[.int .u64 lo] w' fun e w'' => e = .returned (.int .i64 m) ∧ w' = w'') (z0 : 0 ≤ z) (z1 : z ≤ 64)
    (hz : (hi == 0) = false) (hn : z = 0) (hx : x0 = 18446744073709551615) (hhi0 : 0 ≤ hi) (hlo0 : 0 ≤ lo) (hlo1 : lo ≤ 18446744073709551615) (HR : Hid (IsRoot (hi * 18446744073709551616 + lo) r))
    (hr1 : 1 ≤ r) (hx0 : r ≤ x0) (hx1 : 1 ≤ x0) (hx2 : x0 ≤ 18446744073709551615) (HN : Hid (([] : List Int).length + x0.toNat < N))
    (hJ : ∀ (s : List Int) (W W' : World), J s W → W.grownBy W' none → J s W')
    (hY : ∀ pre x W, J pre W → pre.length < N → YieldAt Fence.wide 2 Try.prog l #[.int .u64 x] W fun e W' =>
      (e = .returned (.bool true) ∧ J (pre ++ [x]) W' ∧ Same2 Bh Bl W W') ∨ (e = .returned (.bool false) ∧ Jx (pre ++ [x]) W'))
    (W : World) (hBh : W.cell? ⟨Bh, 0, none⟩ = some (.int .u64 hi)) (hBl : W.cell? ⟨Bl, 0, none⟩ = some (.int .u64 lo)) (h0 : J [] W) :
    CallsIn Fence.wide 3 Try.prog 99 #[.func (.yield l) #[] #[], .pointer (some ⟨Bh, 0, none⟩), .pointer (some ⟨Bl, 0, none⟩)] W fun e W' => (∃ v, e = .returned v) ∧
      ((∃ ys, (∃ pre, ys = pre ++ [r]) ∧ J ys W') ∨ (∃ pre, Jx pre W')) := by
  have HLZ := Lib.hid hlz
  have HLN := Lib.hid hln
  have HY := Lib.hid hY
  have HJ := Lib.hid hJ
  clear hlz hln hY hJ
  subst hx; subst hn; have hb1 : bits .and .i64 64 63 = 0 := by decide +kernel
  refine callsIn_of_wp Try.func99 rfl trivial ?_ rfl
  simp only [Try.ntmps99, List.size_toArray, List.length_cons, List.length_nil, Nat.reduceAdd, Nat.reduceSub, Array.replicate_succ, Array.replicate_zero, List.push_toArray, List.append_toArray, List.nil_append, List.cons_append]
  gi_wp2_with (first | (refine ⟨trivial, ?_⟩; gi_at_call 100; refine (callsIn_wide.2 (HLZ.out _)).mono ?_; rintro e _ ⟨rfl, rfl⟩) | (refine ⟨trivial, ?_⟩; gi_at_call 101; refine (callsIn_wide.2 (HLN.out _)).mono ?_; rintro e _ ⟨rfl, rfl⟩))
  gi_loopw [5] (fun x wr => ∃ (pre : List Int) (X : Int), x = .int .u64 X ∧ r ≤ X ∧ 1 ≤ X ∧ X ≤ 18446744073709551615 ∧ Hid (pre.length + X.toNat < N) ∧ J pre wr ∧ wr.cell? ⟨Bh, 0, none⟩ = some (.int .u64 hi) ∧ wr.cell? ⟨Bl, 0, none⟩ = some (.int .u64 lo))
    (fun x _ => (intOf x).toNat)
  case atStart => exact ⟨[], _, rfl, hx0, hx1, hx2, HN, h0, hBh, hBl⟩
  case round =>
    obtain ⟨pre, X, rfl, hX, hX1, hX2, HNX, hJs, c1, c2⟩ := hrel
    obtain ⟨fn, tmps, assign, body, hy, hR⟩ := HY.out pre X wr hJs (by have := HNX.out; omega)
    have l1 := World.block_lt_of_cell? wr _ c1
    have l2 := World.block_lt_of_cell? wr _ c2
    gi_wp2
    refine hR.mono ?_
    rintro e W3 (⟨rfl, hJ3, hk3⟩ | ⟨rfl, hJx3⟩)
    · have d1 : W3.cell? ⟨Bh, 0, none⟩ = some (.int .u64 hi) := (World.cell?_of_block (a := ⟨Bh, 0, none⟩) hk3.1).trans c1
      have d2 : W3.cell? ⟨Bl, 0, none⟩ = some (.int .u64 lo) := (World.cell?_of_block (a := ⟨Bl, 0, none⟩) hk3.2).trans c2
      have m1 := World.block_lt_of_cell? W3 _ d1
      have m2 := World.block_lt_of_cell? W3 _ d2
      dsimp only at m1 m2
      clear c1 c2 l1 l2 hk3 hJs hy hR
      have HJ3 := Lib.hid hJ3
      clear hJ3
      by_cases hle : X ≤ hi
      · have e := newton_high HR.out (by omega) hX2 hlo0 hX hle
        have HE := Lib.hid e
        clear e
        gi_wp2
        refine bodyPost_ret (results_none rfl _ _ _) rfl ?_
        exact ⟨⟨_, rfl⟩, .inl ⟨pre ++ [X], ⟨pre, by rw [HE.out]⟩, HJ3.out⟩⟩
      · have na := newton_above HR.out (show 0 < X by omega) hX
        have ne := newton_end HR.out (show 0 < X by omega) hX
        have hd := fun w' => div64_c hi lo X w' hhi0 (by omega) hlo0 hlo1 hX2
        have hq0 : 0 ≤ (hi * 18446744073709551616 + lo) / X := Int.ediv_nonneg (by omega) (by omega)
        have hq1 : (hi * 18446744073709551616 + lo) / X < 18446744073709551616 := Int.ediv_lt_of_lt_mul (by omega) (by
          have := Int.mul_le_mul_of_nonneg_left (show hi + 1 ≤ X by omega) (show (0 : Int) ≤ 18446744073709551616 by omega)
          omega)
        generalize (hi * 18446744073709551616 + lo) / X = q at *
        generalize (hi * 18446744073709551616 + lo) % X = rr at *
        have hh := fun w' => half_c X q w' (by omega) hX2 hq0 (by omega)
        have nb : (X + q) / 2 ≤ 18446744073709551615 := by omega
        generalize (X + q) / 2 = nx at *
        have HD := Lib.hid hd
        have HH := Lib.hid hh
        clear hd hh hq1
        by_cases hge : X ≤ nx
        · have HE := Lib.hid (ne hge)
          clear ne na
          gi_wp2_with (first | (refine ⟨trivial, ?_⟩; gi_at_call 102; refine (callsIn_wide.2 (HD.out _)).mono ?_; rintro e _ ⟨rfl, x, rfl⟩) | (refine ⟨trivial, ?_⟩; gi_at_call 103; refine (callsIn_wide.2 (HH.out _)).mono ?_; rintro e _ ⟨rfl, rfl⟩))
          refine bodyPost_ret (results_none rfl _ _ _) rfl ?_
          exact ⟨⟨_, rfl⟩, .inl ⟨pre ++ [X], ⟨pre, by rw [HE.out]⟩, HJ.out _ _ _ HJ3.out (Later.grown x)⟩⟩
        · clear ne
          have h1 : 1 ≤ nx := by omega
          gi_wp2_with (first | (refine ⟨trivial, ?_⟩; gi_at_call 102; refine (callsIn_wide.2 (HD.out _)).mono ?_; rintro e _ ⟨rfl, x, rfl⟩) | (refine ⟨trivial, ?_⟩; gi_at_call 103; refine (callsIn_wide.2 (HH.out _)).mono ?_; rintro e _ ⟨rfl, rfl⟩))
          go_roundw
          case rel =>
            exact ⟨pre ++ [X], nx, rfl, na, h1, nb, Lib.hid (by have := HNX.out; simp; omega), HJ.out _ _ _ HJ3.out (Later.grown x), by simp [go_sem, *], by simp [go_sem, *]⟩
          case measure => simp [intOf]; omega
    · gi_wp2
      go_end0
      exact ⟨⟨_, rfl⟩, .inr ⟨pre ++ [X], hJx3⟩⟩


set_option maxRecDepth 100000 in
set_option maxHeartbeats 2000000 in
theorem guess_c (hi lo r x0 z m n : Int) (k : Nat) (Bh Bl : Nat) (l : Nat) (J Jx : List Int → World → Prop) (N : Nat)
    (hlz : ∀ w', Calls Try.prog 100 #[.int .u64 hi] w' fun e w'' => e = .returned (.int .i64 z) ∧ w' = w'') (hln : ∀ w', Calls Try.prog 101 #[.int .u64 lo] w' fun e w'' => e = .returned (.int .i64 m) ∧ w' = w'') (z0 : 0 ≤ z) (z1 : z ≤ 64)
    (hz : (hi == 0) = true) (hm : m = n) (hk : (n + 1) / 2 = (k : Int)) (hk2 : bits .and .i64 (k : Int) 63 = (k : Int)) (hk3 : (n + 1) / 128 = 0) (hk4 : k ≤ 63) (hn0 : 0 ≤ n) (hn1 : n < 127) (hx : IntKind.u64.wrap (IntKind.u64.wrap (2 ^ k)) = x0) (hhi0 : 0 ≤ hi) (hlo0 : 0 ≤ lo) (hlo1 : lo ≤ 18446744073709551615) (HR : Hid (IsRoot (hi * 18446744073709551616 + lo) r))
    (hr1 : 1 ≤ r) (hx0 : r ≤ x0) (hx1 : 1 ≤ x0) (hx2 : x0 ≤ 18446744073709551615) (HN : Hid (([] : List Int).length + x0.toNat < N))
    (hJ : ∀ (s : List Int) (W W' : World), J s W → W.grownBy W' none → J s W')
    (hY : ∀ pre x W, J pre W → pre.length < N → YieldAt Fence.wide 2 Try.prog l #[.int .u64 x] W fun e W' =>
      (e = .returned (.bool true) ∧ J (pre ++ [x]) W' ∧ Same2 Bh Bl W W') ∨ (e = .returned (.bool false) ∧ Jx (pre ++ [x]) W'))
    (W : World) (hBh : W.cell? ⟨Bh, 0, none⟩ = some (.int .u64 hi)) (hBl : W.cell? ⟨Bl, 0, none⟩ = some (.int .u64 lo)) (h0 : J [] W) :
    CallsIn Fence.wide 3 Try.prog 99 #[.func (.yield l) #[] #[], .pointer (some ⟨Bh, 0, none⟩), .pointer (some ⟨Bl, 0, none⟩)] W fun e W' => (∃ v, e = .returned v) ∧
      ((∃ ys, (∃ pre, ys = pre ++ [r]) ∧ J ys W') ∨ (∃ pre, Jx pre W')) := by
  have HLZ := Lib.hid hlz
  have HLN := Lib.hid hln
  have HY := Lib.hid hY
  have HJ := Lib.hid hJ
  clear hlz hln hY hJ
  subst hm
  refine callsIn_of_wp Try.func99 rfl trivial ?_ rfl
  simp only [Try.ntmps99, List.size_toArray, List.length_cons, List.length_nil, Nat.reduceAdd, Nat.reduceSub, Array.replicate_succ, Array.replicate_zero, List.push_toArray, List.append_toArray, List.nil_append, List.cons_append]
  gi_wp2_with (first | (refine ⟨trivial, ?_⟩; gi_at_call 100; refine (callsIn_wide.2 (HLZ.out _)).mono ?_; rintro e _ ⟨rfl, rfl⟩) | (refine ⟨trivial, ?_⟩; gi_at_call 101; refine (callsIn_wide.2 (HLN.out _)).mono ?_; rintro e _ ⟨rfl, rfl⟩))
  gi_loopw [5] (fun x wr => ∃ (pre : List Int) (X : Int), x = .int .u64 X ∧ r ≤ X ∧ 1 ≤ X ∧ X ≤ 18446744073709551615 ∧ Hid (pre.length + X.toNat < N) ∧ J pre wr ∧ wr.cell? ⟨Bh, 0, none⟩ = some (.int .u64 hi) ∧ wr.cell? ⟨Bl, 0, none⟩ = some (.int .u64 lo))
    (fun x _ => (intOf x).toNat)
  case atStart => exact ⟨[], _, rfl, hx0, hx1, hx2, HN, h0, hBh, hBl⟩
  case round =>
    obtain ⟨pre, X, rfl, hX, hX1, hX2, HNX, hJs, c1, c2⟩ := hrel
    obtain ⟨fn, tmps, assign, body, hy, hR⟩ := HY.out pre X wr hJs (by have := HNX.out; omega)
    have l1 := World.block_lt_of_cell? wr _ c1
    have l2 := World.block_lt_of_cell? wr _ c2
    gi_wp2
    refine hR.mono ?_
    rintro e W3 (⟨rfl, hJ3, hk3⟩ | ⟨rfl, hJx3⟩)
    · have d1 : W3.cell? ⟨Bh, 0, none⟩ = some (.int .u64 hi) := (World.cell?_of_block (a := ⟨Bh, 0, none⟩) hk3.1).trans c1
      have d2 : W3.cell? ⟨Bl, 0, none⟩ = some (.int .u64 lo) := (World.cell?_of_block (a := ⟨Bl, 0, none⟩) hk3.2).trans c2
      have m1 := World.block_lt_of_cell? W3 _ d1
      have m2 := World.block_lt_of_cell? W3 _ d2
      dsimp only at m1 m2
      clear c1 c2 l1 l2 hk3 hJs hy hR
      have HJ3 := Lib.hid hJ3
      clear hJ3
      by_cases hle : X ≤ hi
      · have e := newton_high HR.out (by omega) hX2 hlo0 hX hle
        have HE := Lib.hid e
        clear e
        gi_wp2
        refine bodyPost_ret (results_none rfl _ _ _) rfl ?_
        exact ⟨⟨_, rfl⟩, .inl ⟨pre ++ [X], ⟨pre, by rw [HE.out]⟩, HJ3.out⟩⟩
      · have na := newton_above HR.out (show 0 < X by omega) hX
        have ne := newton_end HR.out (show 0 < X by omega) hX
        have hd := fun w' => div64_c hi lo X w' hhi0 (by omega) hlo0 hlo1 hX2
        have hq0 : 0 ≤ (hi * 18446744073709551616 + lo) / X := Int.ediv_nonneg (by omega) (by omega)
        have hq1 : (hi * 18446744073709551616 + lo) / X < 18446744073709551616 := Int.ediv_lt_of_lt_mul (by omega) (by
          have := Int.mul_le_mul_of_nonneg_left (show hi + 1 ≤ X by omega) (show (0 : Int) ≤ 18446744073709551616 by omega)
          omega)
        generalize (hi * 18446744073709551616 + lo) / X = q at *
        generalize (hi * 18446744073709551616 + lo) % X = rr at *
        have hh := fun w' => half_c X q w' (by omega) hX2 hq0 (by omega)
        have nb : (X + q) / 2 ≤ 18446744073709551615 := by omega
        generalize (X + q) / 2 = nx at *
        have HD := Lib.hid hd
        have HH := Lib.hid hh
        clear hd hh hq1
        by_cases hge : X ≤ nx
        · have HE := Lib.hid (ne hge)
          clear ne na
          gi_wp2_with (first | (refine ⟨trivial, ?_⟩; gi_at_call 102; refine (callsIn_wide.2 (HD.out _)).mono ?_; rintro e _ ⟨rfl, x, rfl⟩) | (refine ⟨trivial, ?_⟩; gi_at_call 103; refine (callsIn_wide.2 (HH.out _)).mono ?_; rintro e _ ⟨rfl, rfl⟩))
          refine bodyPost_ret (results_none rfl _ _ _) rfl ?_
          exact ⟨⟨_, rfl⟩, .inl ⟨pre ++ [X], ⟨pre, by rw [HE.out]⟩, HJ.out _ _ _ HJ3.out (Later.grown x)⟩⟩
        · clear ne
          have h1 : 1 ≤ nx := by omega
          gi_wp2_with (first | (refine ⟨trivial, ?_⟩; gi_at_call 102; refine (callsIn_wide.2 (HD.out _)).mono ?_; rintro e _ ⟨rfl, x, rfl⟩) | (refine ⟨trivial, ?_⟩; gi_at_call 103; refine (callsIn_wide.2 (HH.out _)).mono ?_; rintro e _ ⟨rfl, rfl⟩))
          go_roundw
          case rel =>
            exact ⟨pre ++ [X], nx, rfl, na, h1, nb, Lib.hid (by have := HNX.out; simp; omega), HJ.out _ _ _ HJ3.out (Later.grown x), by simp [go_sem, *], by simp [go_sem, *]⟩
          case measure => simp [intOf]; omega
    · gi_wp2
      go_end0
      exact ⟨⟨_, rfl⟩, .inr ⟨pre ++ [X], hJx3⟩⟩

end Go.Proofs.Ytcdnekhpeghkiaa

/-
  The contract of the root, and of the layer's calls.
-/
namespace Go.Proofs.Ytcdnekhpeghkiaa
set_option linter.unusedVariables false
open Go.RowKit Go.Shelf

theorem and63 : ∀ k : Fin 64, bits .and .i64 ((k.val : Nat) : Int) 63 = ((k.val : Nat) : Int) := by decide +kernel


/-- the guesses, for any loop's body that keeps what lay below n₀ -/
theorem guess_stops (hi lo r : Int) (Bh Bl : Nat) (w : World) (hhi0 : 0 ≤ hi) (hhi1 : hi ≤ 18446744073709551615) (hlo0 : 0 ≤ lo) (hlo1 : lo ≤ 18446744073709551615) (HR : IsRoot (hi * 18446744073709551616 + lo) r) (hr1 : 1 ≤ r)
    (hB0 : Bh < w.heap.size) (hB1 : Bl < w.heap.size) (c0 : w.cell? ⟨Bh, 0, none⟩ = some (.int .u64 hi)) (c1 : w.cell? ⟨Bl, 0, none⟩ = some (.int .u64 lo)) :
    ∃ N, SeqStopsK Fence.wide 3 Try.prog 99 #[.pointer (some ⟨Bh, 0, none⟩), .pointer (some ⟨Bl, 0, none⟩)] (fun x : Int => #[.int .u64 x]) (Same2 Bh Bl) (fun xs => ∃ pre, xs = pre ++ [r]) (fun _ => True) N w := by
  have hlz : ∀ w', Calls Try.prog 100 #[.int .u64 hi] w' fun e w'' => e = .returned (.int .i64 (64 - (Lib.bitLen hi.toNat : Int))) ∧ w' = w'' := fun w' =>
    (Try.bits_LeadingZeros64 hi w' hhi0 hhi1).mono fun e w'' ⟨he, hw⟩ => ⟨he, hw.symm⟩
  have hln : ∀ w', Calls Try.prog 101 #[.int .u64 lo] w' fun e w'' => e = .returned (.int .i64 (Lib.bitLen lo.toNat)) ∧ w' = w'' := fun w' =>
    (Try.bits_Len64 lo w' hlo0 hlo1).mono fun e w'' ⟨he, hw⟩ => ⟨he, hw.symm⟩
  obtain ⟨HI, rfl⟩ := Int.eq_ofNat_of_zero_le hhi0
  obtain ⟨LO, rfl⟩ := Int.eq_ofNat_of_zero_le hlo0
  simp only [Int.toNat_natCast] at hlz hln
  have bh := Lib.bitLen_le HI 64 (by omega) (by simpa using (show HI < 18446744073709551616 by omega))
  -- a power of two above the root
  have pw : ∀ k : Nat, k ≤ 63 → ((HI : Int) * 18446744073709551616 + LO < (2 ^ k : Nat) * (2 ^ k : Nat)) → r ≤ (2 : Int) ^ k ∧ 1 ≤ (2 : Int) ^ k ∧ (2 : Int) ^ k ≤ 18446744073709551615 ∧ IntKind.u64.wrap (IntKind.u64.wrap (2 ^ k)) = (2 : Int) ^ k := by
    intro k hk hN
    have e : (2 : Int) ^ k = ((2 ^ k : Nat) : Int) := by rw [Int.natCast_pow]; rfl
    have p := Nat.two_pow_pos k
    have q : 2 ^ k ≤ 2 ^ 63 := Nat.pow_le_pow_right (by omega) hk
    have rl := root_lt HR ((2 ^ k : Nat) : Int) (Int.natCast_nonneg _) hN
    rw [e]
    generalize 2 ^ k = t at *
    refine ⟨by omega, by omega, by omega, ?_⟩
    rw [IntWalk.u64_in (t : Int) (by omega), IntWalk.u64_in (t : Int) (by omega)]
  have sq : ∀ (v n : Nat), v < 2 ^ n → v < 2 ^ ((n + 1) / 2) * 2 ^ ((n + 1) / 2) := fun v n h => by
    rw [← Nat.pow_add]
    exact Nat.lt_of_lt_of_le h (Nat.pow_le_pow_right (by omega) (by omega))
  by_cases hz : HI = 0
  · have hl0 : LO ≠ 0 := fun e => by
      have := HR.le
      have := Int.mul_le_mul hr1 hr1 (by omega) (by omega : (0 : Int) ≤ r)
      omega
    obtain ⟨k, e, a, b⟩ := bitLen_is LO LO (Nat.le_refl _) hl0 (by simpa using (show LO < 18446744073709551616 by omega))
    have k1 : k ≤ 63 := by
      rcases Nat.lt_or_ge 63 k with h | h
      · have : 2 ^ 64 ≤ 2 ^ k := Nat.pow_le_pow_right (by omega) (by omega)
        omega
      · exact h
    have s := sq LO (k + 1) b
    obtain ⟨x1, x2, x3, x4⟩ := pw ((k + 1 + 1) / 2) (by omega) (by rw [hz, ← Int.natCast_mul]; omega)
    refine ⟨((2 : Int) ^ ((k + 1 + 1) / 2)).toNat + 1, fun l J Jx W hW hJ hJx hY h0 => ?_⟩
    rw [e] at hln
    refine (guess_c _ _ r _ _ _ ((k + 1 : Nat) : Int) ((k + 1 + 1) / 2) Bh Bl l J Jx _ hlz hln (by omega) (by omega) (by simp [hz]) rfl (by omega) (and63 ⟨_, by omega⟩) (by omega) (by omega) (by omega) (by omega) x4 (by omega) hlo0 hlo1 (Lib.hid HR) hr1 x1 x2 x3 (Lib.hid (by simp))
      (fun s A B h hg => hJ s A B none h hg (fun r e => by cases e)) hY W ((hW.cell (p := ⟨Bh, 0, none⟩) (by simpa using hB0)).trans c0) ((hW.cell (p := ⟨Bl, 0, none⟩) (by simpa using hB1)).trans c1) h0).mono fun e W' ⟨hv, hh⟩ => ⟨hv, hh.imp id (fun ⟨pre, h⟩ => ⟨pre, trivial, h⟩)⟩
  · obtain ⟨k, e, a, b⟩ := bitLen_is HI HI (Nat.le_refl _) hz (by simpa using (show HI < 18446744073709551616 by omega))
    have k1 : k ≤ 63 := by
      rcases Nat.lt_or_ge 63 k with h | h
      · have : 2 ^ 64 ≤ 2 ^ k := Nat.pow_le_pow_right (by omega) (by omega)
        omega
      · exact h
    rw [e] at hlz
    by_cases hbig : 127 ≤ 64 + (k + 1)
    · have rl := root_lt HR 18446744073709551616 (by omega) (by omega)
      refine ⟨(18446744073709551615 : Int).toNat + 1, fun l J Jx W hW hJ hJx hY h0 => ?_⟩
      have hk : k = 62 ∨ k = 63 := by omega
      rcases hk with rfl | rfl
      · refine (guess_b1 _ _ r _ _ _ 0 0 Bh Bl l J Jx _ hlz hln (by omega) (by omega) (by simp; omega) (by omega) rfl (by omega) hlo0 hlo1 (Lib.hid HR) hr1 (by omega) (by omega) (by omega) (Lib.hid (by simp))
          (fun s A B h hg => hJ s A B none h hg (fun r e => by cases e)) hY W ((hW.cell (p := ⟨Bh, 0, none⟩) (by simpa using hB0)).trans c0) ((hW.cell (p := ⟨Bl, 0, none⟩) (by simpa using hB1)).trans c1) h0).mono fun e W' ⟨hv, hh⟩ => ⟨hv, hh.imp id (fun ⟨pre, h⟩ => ⟨pre, trivial, h⟩)⟩
      · refine (guess_b2 _ _ r _ _ _ 0 0 Bh Bl l J Jx _ hlz hln (by omega) (by omega) (by simp; omega) (by omega) rfl (by omega) hlo0 hlo1 (Lib.hid HR) hr1 (by omega) (by omega) (by omega) (Lib.hid (by simp))
          (fun s A B h hg => hJ s A B none h hg (fun r e => by cases e)) hY W ((hW.cell (p := ⟨Bh, 0, none⟩) (by simpa using hB0)).trans c0) ((hW.cell (p := ⟨Bl, 0, none⟩) (by simpa using hB1)).trans c1) h0).mono fun e W' ⟨hv, hh⟩ => ⟨hv, hh.imp id (fun ⟨pre, h⟩ => ⟨pre, trivial, h⟩)⟩
    · have hv : HI * 18446744073709551616 + LO < 2 ^ (64 + (k + 1)) := by
        rw [Nat.pow_add]
        have : 2 ^ 64 = 18446744073709551616 := by decide
        rw [this]
        omega
      have s := sq _ _ hv
      obtain ⟨x1, x2, x3, x4⟩ := pw ((64 + (k + 1) + 1) / 2) (by omega) (by rw [← Int.natCast_mul]; omega)
      refine ⟨((2 : Int) ^ ((64 + (k + 1) + 1) / 2)).toNat + 1, fun l J Jx W hW hJ hJx hY h0 => ?_⟩
      refine (guess_a _ _ r _ _ _ ((64 + (k + 1) : Nat) : Int) ((64 + (k + 1) + 1) / 2) Bh Bl l J Jx _ hlz hln (by omega) (by omega) (by simp; omega) (by omega) (by omega) (and63 ⟨_, by omega⟩) (by omega) (by omega) (by omega) (by omega) x4 (by omega) hlo0 hlo1 (Lib.hid HR) hr1 x1 x2 x3 (Lib.hid (by simp))
        (fun s A B h hg => hJ s A B none h hg (fun r e => by cases e)) hY W ((hW.cell (p := ⟨Bh, 0, none⟩) (by simpa using hB0)).trans c0) ((hW.cell (p := ⟨Bl, 0, none⟩) (by simpa using hB1)).trans c1) h0).mono fun e W' ⟨hv, hh⟩ => ⟨hv, hh.imp id (fun ⟨pre, h⟩ => ⟨pre, trivial, h⟩)⟩

set_option maxHeartbeats 400000 in
theorem guesses_c (hi lo : Int) (w : World) :
    Calls Try.prog 92 #[.int .u64 hi, .int .u64 lo] w fun e w' => e = .returned (.func (.func 99) #[] #[.pointer (some ⟨w.heap.size, 0, none⟩), .pointer (some ⟨w.heap.size + 1, 0, none⟩)]) ∧
      (w.alloc (.cells #[.int .u64 hi] 87)).alloc (.cells #[.int .u64 lo] 87) = w' := by
  go_enter Try.func92, Try.ntmps92
  go_wp2
  go_ret
  exact ⟨rfl, rfl⟩

set_option maxHeartbeats 400000 in
theorem root_zero (w : World) : Calls Try.prog 81 #[.int .u64 0, .int .u64 0] w fun e w' => e = .returned (.int .u64 0) ∧ ∃ x : Later w, w' = x.out := by
  go_enter Try.func81, Try.ntmps81
  go_wp2
  exact bodyPost_ret (v := .int .u64 0) (by simp [results, Try.results81, go_sem, *]) rfl ⟨rfl, (Later.mk_of (by repeat (first | (with_reducible assumption) | (with_reducible exact Below.refl _ _) | (with_reducible refine Later.after ?_ _) | (with_reducible refine Later.newer ?_ _) | (with_reducible refine Below.drew ?_) | (with_reducible refine Below.setCell ?_ (by first | exact Nat.le_refl _ | exact Nat.le_add_right _ _ | omega | (simp [go_sem]; done) | (simp [go_sem]; omega)) _))))⟩

attribute [local go_sem] Oper.semAt_some

set_option maxRecDepth 100000 in
set_option maxHeartbeats 1000000 in
theorem root_pos (hi lo r : Int) (w : World) (hhi0 : 0 ≤ hi) (hhi1 : hi ≤ 18446744073709551615) (hlo0 : 0 ≤ lo) (hlo1 : lo ≤ 18446744073709551615) (HR : IsRoot (hi * 18446744073709551616 + lo) r) (hr1 : 1 ≤ r) (hne : (hi == 0) = false ∨ (hi == 0) = true ∧ (lo == 0) = false) :
    Calls Try.prog 81 #[.int .u64 hi, .int .u64 lo] w fun e w' => e = .returned (.int .u64 r) ∧ ∃ x : Later w, w' = x.out := by
  refine (callsIn_wide (n := 4)).1 ?_
  have H1 := Lib.hid hhi1
  have H3 := Lib.hid hlo1
  have HRR := Lib.hid HR
  clear hhi1 hlo1 HR
  refine callsIn_of_wp_marks Try.func81 rfl trivial ?_ rfl
  simp only [Try.ntmps81, List.size_toArray, List.length_cons, List.length_nil, Nat.reduceAdd, Nat.reduceSub, Array.replicate_succ, Array.replicate_zero, List.push_toArray, List.append_toArray, List.nil_append, List.cons_append]
  rcases hne with hne | ⟨hne, hne2⟩
  all_goals
    gi_wp2_with (first | (refine ⟨trivial, ?_⟩; gi_at_call 92; refine (callsIn_wide.2 (guesses_c _ _ _)).mono ?_; rintro e _ ⟨rfl, rfl⟩))
    obtain ⟨N, hst⟩ := guess_stops hi lo r (w.heap.size + 1) (w.heap.size + 1 + 1) (((w.alloc (.cells #[.int .u64 0] 87)).alloc (.cells #[.int .u64 hi] 87)).alloc (.cells #[.int .u64 lo] 87)) hhi0 H1.out hlo0 H3.out HRR.out hr1 (by simp) (by simp) (by simp [go_sem]) (by simp [go_sem])
    refine wpIn_rangeFunc_mid rfl (by omega) (gf := 99) rfl trivial (enters_of Try.func99 (by kernel_rfl) rfl) hst (fun h k => h.trans k)
      (fun W l o o' hl h _ _ => ⟨World.putObj_heap_other (by simp at hl; omega), World.putObj_heap_other (by simp at hl; omega)⟩) (Below.refl _ _) (fun _ => rfl)
      (fun pre W => (∃ v, W.cell? ⟨w.heap.size, 0, none⟩ = some (.int .u64 v) ∧ ∀ p x, pre = p ++ [x] → v = x) ∧ W.frozen? ⟨w.heap.size, 0, none⟩ = false ∧ Below w.heap.size w W)
      ?own ?start
      (fun pre x a' W => W.cell? ⟨w.heap.size, 0, none⟩ = some (.int .u64 x) ∧ W.frozen? ⟨w.heap.size, 0, none⟩ = false ∧ Below w.heap.size w W)
      ?ownM ?assign ?body ?done
    case own =>
      intro s A B row ⟨⟨v, hv, hs⟩, hf, hb⟩ hg hr
      have hr' : ∀ r, row = some r → ∃ o : Obj, A.heap[r]? = some o ∧ o.isCells = false := fun r e => (hr r e).2
      exact ⟨⟨v, cell_kept hv hg hr', hs⟩, (frozen_kept hv hg hr').trans hf, hb.grown hg hb.size (fun k e => by have := (hr k e).1; simp at this; omega)⟩
    case start => exact ⟨⟨0, by simp [go_sem], fun p x e => by simp at e⟩, by simp [go_sem], (((Below.refl _ w).alloc (Nat.le_refl _) _).alloc (by simp) _).alloc (by simp; omega) _⟩
    case ownM =>
      intro pre x a' s A B row ⟨hv, hf, hb⟩ hg hr
      have hr' : ∀ r, row = some r → ∃ o : Obj, A.heap[r]? = some o ∧ o.isCells = false := fun r e => (hr r e).2
      exact ⟨cell_kept hv hg hr', (frozen_kept hv hg hr').trans hf, hb.grown hg hb.size (fun k e => by have := (hr k e).1; simp at this; omega)⟩
    case assign =>
      rintro l pre x W K ⟨⟨v, hv, hs⟩, hf, hb⟩ hK
      have HK := Lib.hid hK
      have HB := Lib.hid hb
      clear hK hb hs
      gi_wp2
      refine HK.out _ _ ((KeepsOthers.setCell W ⟨w.heap.size, 0, none⟩ _).from _) ⟨Below.heap_setCell W _ _ _ (by simp), Below.heap_setCell W _ _ _ (by simp; omega)⟩ ⟨?_, ?_, ?_⟩
      · rw [cell_set_same, hv]; rfl
      · rw [World.frozen?_setCell]; exact hf
      · exact HB.out.setCell (p := ⟨w.heap.size, 0, none⟩) (Nat.le_refl _) _
    case body =>
      rintro l pre x a' W ⟨hv, hf, hb⟩ _
      have HB := Lib.hid hb
      clear hb
      gi_wp2
      exact ⟨KeepsFrom.refl _ _, ⟨rfl, rfl⟩, ⟨x, hv, fun p y e => (List.append_inj_right' e rfl |> List.cons.inj |>.1)⟩, hf, HB.out⟩
    case done =>
      rintro D ys W hD ⟨p, hp⟩ ⟨⟨v, hv, hs⟩, hf, hb⟩ hK
      obtain rfl := hs p r hp
      have HB := Lib.hid hb
      clear hb hs
      gi_wp2
      have hK' := (KeepsOthers.setCell W ⟨w.heap.size, 0, none⟩ (.int .u64 v)).same D _ hK rfl
      refine ⟨by simp, .inl ⟨_, _, rfl, run_takeDeferred hK', ?_⟩⟩
      have hc5 := cell_kept (by rw [cell_set_same, hv]; rfl : (W.setCell ⟨w.heap.size, 0, none⟩ (.int .u64 v)).cell? ⟨w.heap.size, 0, none⟩ = some (.int .u64 v)) (grownBy_putObj' _ D (.deferred none)) (fun r e => by cases e; exact ⟨_, hK', rfl⟩)
      refine ⟨.int .u64 v, ?_, rfl, Later.mk_of ((HB.out.setCell (p := ⟨w.heap.size, 0, none⟩) (Nat.le_refl _) _).trans (belowK_b (w := w) (Nat.le_refl _) _ D _ _ (by simp at hD; omega) hK' rfl rfl))⟩
      simp [results, go_sem, hc5]
end Go.Proofs.Ytcdnekhpeghkiaa

/-
  The contracts of the layer's calls: Sqrt, Long, Square.
-/
namespace Go.Proofs.Ytcdnekhpeghkiaa
set_option linter.unusedVariables false
open Go.RowKit

/-- the root of a number of any sign -/
noncomputable def lng (n : Int) : Int := if n < 0 then 0 else isq n

theorem root_one {N r : Int} (h : IsRoot N r) (hN : 1 ≤ N) : 1 ≤ r := root_mono h (by omega) (by omega)

theorem root_c (hi lo r : Int) (w : World) (hhi0 : 0 ≤ hi) (hhi1 : hi ≤ 18446744073709551615) (hlo0 : 0 ≤ lo) (hlo1 : lo ≤ 18446744073709551615) (HR : IsRoot (hi * 18446744073709551616 + lo) r) :
    Calls Try.prog 81 #[.int .u64 hi, .int .u64 lo] w fun e w' => e = .returned (.int .u64 r) ∧ ∃ x : Later w, w' = x.out := by
  by_cases h : hi = 0
  · by_cases l : lo = 0
    · subst h l
      obtain rfl : r = 0 := root_unique HR ⟨by omega, by simp, by simp⟩
      exact root_zero w
    · exact root_pos hi lo r w hhi0 hhi1 hlo0 hlo1 HR (root_one HR (by omega)) (.inr ⟨by simp [h], by simp [l]⟩)
  · exact root_pos hi lo r w hhi0 hhi1 hlo0 hlo1 HR (root_one HR (by omega)) (.inl (by simp [h]))

set_option maxHeartbeats 400000 in
theorem sqrt_c (n r : Int) (w : World) (h0 : 0 ≤ n) (h1 : n ≤ 18446744073709551615) (HR : IsRoot n r) :
    Calls Try.prog 59 #[.int .u64 n] w fun e w' => e = .returned (.int .u64 r) ∧ ∃ x : Later w, w' = x.out := by
  have c := fun w' => root_c 0 n r w' (by omega) (by omega) h0 h1 (by simpa using HR)
  have Hc := Lib.hid c; clear c
  go_enter Try.func59, Try.ntmps59
  go_wp2_with (first | (go_at_call 81; (with_reducible refine (Hc.out _).mono ?_); rintro e _ ⟨rfl, x, rfl⟩))
  exact bodyPost_ret (v := .int .u64 r) (by simp [results, Try.results59, go_sem, *]) rfl ⟨rfl, (Later.mk_of (by repeat (first | (with_reducible assumption) | (with_reducible exact Below.refl _ _) | (with_reducible refine Later.after ?_ _) | (with_reducible refine Later.newer ?_ _) | (with_reducible refine Below.drew ?_) | (with_reducible refine Below.setCell ?_ (by first | exact Nat.le_refl _ | exact Nat.le_add_right _ _ | omega | (simp [go_sem]; done) | (simp [go_sem]; omega)) _))))⟩

end Go.Proofs.Ytcdnekhpeghkiaa

/-
  The contract of fix's division, rounded down or to the nearest.
-/
namespace Go.Proofs.Ytcdnekhpeghkiaa
set_option linter.unusedVariables false
open Go.RowKit

/-- a quotient to the nearest one, halves up -/
def nrst (n c : Int) : Int := if c - n % c ≤ n % c then n / c + 1 else n / c
theorem nrst_R128 (n c : Int) (h : R128 n) (hc : 0 < c) : R128 (nrst n c) := by
  have m0 := Int.emod_nonneg n (show c ≠ 0 by omega)
  have m1 := Int.emod_lt_of_pos n hc
  have e := Int.mul_ediv_add_emod n c
  unfold R128 at *
  unfold nrst
  have b1 : n / c ≤ 170141183460469231731687303715884105727 := by
    refine Int.le_of_lt_add_one (Int.ediv_lt_of_lt_mul hc ?_)
    have := Int.mul_le_mul_of_nonneg_left (show (1 : Int) ≤ c by omega) (show (0 : Int) ≤ 170141183460469231731687303715884105728 by omega)
    omega
  have b0 : -170141183460469231731687303715884105728 ≤ n / c := by
    refine Int.le_ediv_of_mul_le hc ?_
    have := Int.mul_le_mul_of_nonneg_left (show (1 : Int) ≤ c by omega) (show (0 : Int) ≤ 170141183460469231731687303715884105728 by omega)
    omega
  split
  · have c2 : 2 ≤ c := by omega
    refine ⟨by omega, ?_⟩
    have : n / c < 170141183460469231731687303715884105727 := by
      refine Int.ediv_lt_of_lt_mul hc ?_
      have := Int.mul_le_mul_of_nonneg_left c2 (show (0 : Int) ≤ 170141183460469231731687303715884105727 by omega)
      omega
    omega
  · exact ⟨b0, by omega⟩


set_option maxRecDepth 100000 in
set_option maxHeartbeats 600000 in
theorem divided_false_true (a b c h l h1 l1 h2 l2 t v : Int) (w : World) (t0 : 0 ≤ t) (t1 : t < c) (c9 : c ≤ 9223372036854775807)
    (c1 : ∀ w', Calls Try.prog 110 #[.int .i64 a, .int .i64 b] w' fun e w'' => e = .returned (.agg #[.int .i64 h, .int .u64 l]) ∧ ∃ x : Later w', w'' = x.out)
    (c2 : ∀ w', Calls Try.prog 109 #[.agg #[.int .i64 h, .int .u64 l], .int .i64 c] w' fun e w'' => e = .returned (.tuple #[.agg #[.int .i64 h1, .int .u64 l1], .int .i64 t, .int .i64 0]) ∧ ∃ x : Later w', w'' = x.out)
    
    (c5 : ∀ w', Calls Try.prog 113 #[.agg #[.int .i64 h1, .int .u64 l1]] w' fun e w'' => e = .returned (.tuple #[.int .i64 v, .bool true]) ∧ ∃ x : Later w', w'' = x.out) :
    Calls Try.prog 98 #[.int .i64 a, .int .i64 b, .int .i64 c, .bool false] w fun e w' => e = .returned (.tuple #[.int .i64 v, .int .i64 0]) ∧ ∃ x : Later w, w' = x.out := by
  have Hc1 := Lib.hid c1; clear c1
  have Hc2 := Lib.hid c2; clear c2
  have Hc5 := Lib.hid c5; clear c5
  go_enter Try.func98, Try.ntmps98
  go_wp2_with (first | (go_at_call 110; (with_reducible refine (Hc1.out _).mono ?_); rintro e _ ⟨rfl, x, rfl⟩) | (go_at_call 109; (with_reducible refine (Hc2.out _).mono ?_); rintro e _ ⟨rfl, x, rfl⟩) | (go_at_call 113; (with_reducible refine (Hc5.out _).mono ?_); rintro e _ ⟨rfl, x, rfl⟩))
  exact bodyPost_ret (v := .tuple #[.int .i64 v, .int .i64 0]) (by simp [results, Try.results98, go_sem, *]) rfl ⟨rfl, (Later.mk_of (by repeat (first | (with_reducible assumption) | (with_reducible exact Below.refl _ _) | (with_reducible refine Later.after ?_ _) | (with_reducible refine Later.newer ?_ _) | (with_reducible refine Below.drew ?_) | (with_reducible refine Below.setCell ?_ (by first | exact Nat.le_refl _ | exact Nat.le_add_right _ _ | omega | (simp [go_sem]; done) | (simp [go_sem]; omega)) _))))⟩


set_option maxRecDepth 100000 in
set_option maxHeartbeats 600000 in
theorem divided_false_false (a b c h l h1 l1 h2 l2 t v : Int) (w : World) (t0 : 0 ≤ t) (t1 : t < c) (c9 : c ≤ 9223372036854775807)
    (c1 : ∀ w', Calls Try.prog 110 #[.int .i64 a, .int .i64 b] w' fun e w'' => e = .returned (.agg #[.int .i64 h, .int .u64 l]) ∧ ∃ x : Later w', w'' = x.out)
    (c2 : ∀ w', Calls Try.prog 109 #[.agg #[.int .i64 h, .int .u64 l], .int .i64 c] w' fun e w'' => e = .returned (.tuple #[.agg #[.int .i64 h1, .int .u64 l1], .int .i64 t, .int .i64 0]) ∧ ∃ x : Later w', w'' = x.out)
    
    (c5 : ∀ w', Calls Try.prog 113 #[.agg #[.int .i64 h1, .int .u64 l1]] w' fun e w'' => e = .returned (.tuple #[.int .i64 v, .bool false]) ∧ ∃ x : Later w', w'' = x.out) :
    Calls Try.prog 98 #[.int .i64 a, .int .i64 b, .int .i64 c, .bool false] w fun e w' => e = .returned (.tuple #[.int .i64 0, .int .i64 2]) ∧ ∃ x : Later w, w' = x.out := by
  have Hc1 := Lib.hid c1; clear c1
  have Hc2 := Lib.hid c2; clear c2
  have Hc5 := Lib.hid c5; clear c5
  go_enter Try.func98, Try.ntmps98
  go_wp2_with (first | (go_at_call 110; (with_reducible refine (Hc1.out _).mono ?_); rintro e _ ⟨rfl, x, rfl⟩) | (go_at_call 109; (with_reducible refine (Hc2.out _).mono ?_); rintro e _ ⟨rfl, x, rfl⟩) | (go_at_call 113; (with_reducible refine (Hc5.out _).mono ?_); rintro e _ ⟨rfl, x, rfl⟩))
  exact bodyPost_ret (v := .tuple #[.int .i64 0, .int .i64 2]) (by simp [results, Try.results98, go_sem, *]) rfl ⟨rfl, (Later.mk_of (by repeat (first | (with_reducible assumption) | (with_reducible exact Below.refl _ _) | (with_reducible refine Later.after ?_ _) | (with_reducible refine Later.newer ?_ _) | (with_reducible refine Below.drew ?_) | (with_reducible refine Below.setCell ?_ (by first | exact Nat.le_refl _ | exact Nat.le_add_right _ _ | omega | (simp [go_sem]; done) | (simp [go_sem]; omega)) _))))⟩


set_option maxRecDepth 100000 in
set_option maxHeartbeats 600000 in
theorem divided_true_dn_true (a b c h l h1 l1 h2 l2 t v : Int) (w : World) (t0 : 0 ≤ t) (t1 : t < c) (c9 : c ≤ 9223372036854775807) (g : t < c - t)
    (c1 : ∀ w', Calls Try.prog 110 #[.int .i64 a, .int .i64 b] w' fun e w'' => e = .returned (.agg #[.int .i64 h, .int .u64 l]) ∧ ∃ x : Later w', w'' = x.out)
    (c2 : ∀ w', Calls Try.prog 109 #[.agg #[.int .i64 h, .int .u64 l], .int .i64 c] w' fun e w'' => e = .returned (.tuple #[.agg #[.int .i64 h1, .int .u64 l1], .int .i64 t, .int .i64 0]) ∧ ∃ x : Later w', w'' = x.out)
    
    (c5 : ∀ w', Calls Try.prog 113 #[.agg #[.int .i64 h1, .int .u64 l1]] w' fun e w'' => e = .returned (.tuple #[.int .i64 v, .bool true]) ∧ ∃ x : Later w', w'' = x.out) :
    Calls Try.prog 98 #[.int .i64 a, .int .i64 b, .int .i64 c, .bool true] w fun e w' => e = .returned (.tuple #[.int .i64 v, .int .i64 0]) ∧ ∃ x : Later w, w' = x.out := by
  have Hc1 := Lib.hid c1; clear c1
  have Hc2 := Lib.hid c2; clear c2
  have Hc5 := Lib.hid c5; clear c5
  go_enter Try.func98, Try.ntmps98
  go_wp2_with (first | (go_at_call 110; (with_reducible refine (Hc1.out _).mono ?_); rintro e _ ⟨rfl, x, rfl⟩) | (go_at_call 109; (with_reducible refine (Hc2.out _).mono ?_); rintro e _ ⟨rfl, x, rfl⟩) | (go_at_call 113; (with_reducible refine (Hc5.out _).mono ?_); rintro e _ ⟨rfl, x, rfl⟩))
  exact bodyPost_ret (v := .tuple #[.int .i64 v, .int .i64 0]) (by simp [results, Try.results98, go_sem, *]) rfl ⟨rfl, (Later.mk_of (by repeat (first | (with_reducible assumption) | (with_reducible exact Below.refl _ _) | (with_reducible refine Later.after ?_ _) | (with_reducible refine Later.newer ?_ _) | (with_reducible refine Below.drew ?_) | (with_reducible refine Below.setCell ?_ (by first | exact Nat.le_refl _ | exact Nat.le_add_right _ _ | omega | (simp [go_sem]; done) | (simp [go_sem]; omega)) _))))⟩


set_option maxRecDepth 100000 in
set_option maxHeartbeats 600000 in
theorem divided_true_dn_false (a b c h l h1 l1 h2 l2 t v : Int) (w : World) (t0 : 0 ≤ t) (t1 : t < c) (c9 : c ≤ 9223372036854775807) (g : t < c - t)
    (c1 : ∀ w', Calls Try.prog 110 #[.int .i64 a, .int .i64 b] w' fun e w'' => e = .returned (.agg #[.int .i64 h, .int .u64 l]) ∧ ∃ x : Later w', w'' = x.out)
    (c2 : ∀ w', Calls Try.prog 109 #[.agg #[.int .i64 h, .int .u64 l], .int .i64 c] w' fun e w'' => e = .returned (.tuple #[.agg #[.int .i64 h1, .int .u64 l1], .int .i64 t, .int .i64 0]) ∧ ∃ x : Later w', w'' = x.out)
    
    (c5 : ∀ w', Calls Try.prog 113 #[.agg #[.int .i64 h1, .int .u64 l1]] w' fun e w'' => e = .returned (.tuple #[.int .i64 v, .bool false]) ∧ ∃ x : Later w', w'' = x.out) :
    Calls Try.prog 98 #[.int .i64 a, .int .i64 b, .int .i64 c, .bool true] w fun e w' => e = .returned (.tuple #[.int .i64 0, .int .i64 2]) ∧ ∃ x : Later w, w' = x.out := by
  have Hc1 := Lib.hid c1; clear c1
  have Hc2 := Lib.hid c2; clear c2
  have Hc5 := Lib.hid c5; clear c5
  go_enter Try.func98, Try.ntmps98
  go_wp2_with (first | (go_at_call 110; (with_reducible refine (Hc1.out _).mono ?_); rintro e _ ⟨rfl, x, rfl⟩) | (go_at_call 109; (with_reducible refine (Hc2.out _).mono ?_); rintro e _ ⟨rfl, x, rfl⟩) | (go_at_call 113; (with_reducible refine (Hc5.out _).mono ?_); rintro e _ ⟨rfl, x, rfl⟩))
  exact bodyPost_ret (v := .tuple #[.int .i64 0, .int .i64 2]) (by simp [results, Try.results98, go_sem, *]) rfl ⟨rfl, (Later.mk_of (by repeat (first | (with_reducible assumption) | (with_reducible exact Below.refl _ _) | (with_reducible refine Later.after ?_ _) | (with_reducible refine Later.newer ?_ _) | (with_reducible refine Below.drew ?_) | (with_reducible refine Below.setCell ?_ (by first | exact Nat.le_refl _ | exact Nat.le_add_right _ _ | omega | (simp [go_sem]; done) | (simp [go_sem]; omega)) _))))⟩


set_option maxRecDepth 100000 in
set_option maxHeartbeats 600000 in
theorem divided_true_up_true (a b c h l h1 l1 h2 l2 t v : Int) (w : World) (t0 : 0 ≤ t) (t1 : t < c) (c9 : c ≤ 9223372036854775807) (g : c - t ≤ t)
    (c1 : ∀ w', Calls Try.prog 110 #[.int .i64 a, .int .i64 b] w' fun e w'' => e = .returned (.agg #[.int .i64 h, .int .u64 l]) ∧ ∃ x : Later w', w'' = x.out)
    (c2 : ∀ w', Calls Try.prog 109 #[.agg #[.int .i64 h, .int .u64 l], .int .i64 c] w' fun e w'' => e = .returned (.tuple #[.agg #[.int .i64 h1, .int .u64 l1], .int .i64 t, .int .i64 0]) ∧ ∃ x : Later w', w'' = x.out)
    (c3 : ∀ w', Calls Try.prog 112 #[.int .i64 1] w' fun e w'' => e = .returned (.agg #[.int .i64 0, .int .u64 1]) ∧ ∃ x : Later w', w'' = x.out)
    (c4 : ∀ w', Calls Try.prog 111 #[.agg #[.int .i64 h1, .int .u64 l1], .agg #[.int .i64 0, .int .u64 1]] w' fun e w'' => e = .returned (.agg #[.int .i64 h2, .int .u64 l2]) ∧ ∃ x : Later w', w'' = x.out)
    (c5 : ∀ w', Calls Try.prog 113 #[.agg #[.int .i64 h2, .int .u64 l2]] w' fun e w'' => e = .returned (.tuple #[.int .i64 v, .bool true]) ∧ ∃ x : Later w', w'' = x.out) :
    Calls Try.prog 98 #[.int .i64 a, .int .i64 b, .int .i64 c, .bool true] w fun e w' => e = .returned (.tuple #[.int .i64 v, .int .i64 0]) ∧ ∃ x : Later w, w' = x.out := by
  have Hc1 := Lib.hid c1; clear c1
  have Hc2 := Lib.hid c2; clear c2
  have Hc3 := Lib.hid c3; clear c3
  have Hc4 := Lib.hid c4; clear c4
  have Hc5 := Lib.hid c5; clear c5
  go_enter Try.func98, Try.ntmps98
  go_wp2_with (first | (go_at_call 110; (with_reducible refine (Hc1.out _).mono ?_); rintro e _ ⟨rfl, x1, rfl⟩) | (go_at_call 109; (with_reducible refine (Hc2.out _).mono ?_); rintro e _ ⟨rfl, x2, rfl⟩))
  refine wp_region_later_tail 3 (by kernel_rfl) (by kernel_rfl) ?_
  simp only [List.take_succ_cons, List.take_zero, List.drop_succ_cons, List.drop_zero]
  repeat (go_big_quiet_step ((first | (go_at_call 112; with_reducible exact Later.call _ (Hc3.out _)) | (go_at_call 111; with_reducible exact Later.call _ (Hc4.out _)))))
  refine wpQuiet_nil ?_
  intro x
  have g8 : x2.out.heap.size < x.out.heap.size := Later.lt x _ (by simp [go_sem])
  go_wp2_with (first | (go_at_call 113; (with_reducible refine (Hc5.out _).mono ?_); rintro e _ ⟨rfl, y, rfl⟩))
  exact bodyPost_ret (v := .tuple #[.int .i64 v, .int .i64 0]) (by simp [results, Try.results98, go_sem, *]) rfl ⟨rfl, (Later.mk_of (by repeat (first | (with_reducible assumption) | (with_reducible exact Below.refl _ _) | (with_reducible refine Later.after ?_ _) | (with_reducible refine Later.newer ?_ _) | (with_reducible refine Below.drew ?_) | (with_reducible refine Below.setCell ?_ (by first | exact Nat.le_refl _ | exact Nat.le_add_right _ _ | omega | (simp [go_sem]; done) | (simp [go_sem]; omega)) _))))⟩


set_option maxRecDepth 100000 in
set_option maxHeartbeats 600000 in
theorem divided_true_up_false (a b c h l h1 l1 h2 l2 t v : Int) (w : World) (t0 : 0 ≤ t) (t1 : t < c) (c9 : c ≤ 9223372036854775807) (g : c - t ≤ t)
    (c1 : ∀ w', Calls Try.prog 110 #[.int .i64 a, .int .i64 b] w' fun e w'' => e = .returned (.agg #[.int .i64 h, .int .u64 l]) ∧ ∃ x : Later w', w'' = x.out)
    (c2 : ∀ w', Calls Try.prog 109 #[.agg #[.int .i64 h, .int .u64 l], .int .i64 c] w' fun e w'' => e = .returned (.tuple #[.agg #[.int .i64 h1, .int .u64 l1], .int .i64 t, .int .i64 0]) ∧ ∃ x : Later w', w'' = x.out)
    (c3 : ∀ w', Calls Try.prog 112 #[.int .i64 1] w' fun e w'' => e = .returned (.agg #[.int .i64 0, .int .u64 1]) ∧ ∃ x : Later w', w'' = x.out)
    (c4 : ∀ w', Calls Try.prog 111 #[.agg #[.int .i64 h1, .int .u64 l1], .agg #[.int .i64 0, .int .u64 1]] w' fun e w'' => e = .returned (.agg #[.int .i64 h2, .int .u64 l2]) ∧ ∃ x : Later w', w'' = x.out)
    (c5 : ∀ w', Calls Try.prog 113 #[.agg #[.int .i64 h2, .int .u64 l2]] w' fun e w'' => e = .returned (.tuple #[.int .i64 v, .bool false]) ∧ ∃ x : Later w', w'' = x.out) :
    Calls Try.prog 98 #[.int .i64 a, .int .i64 b, .int .i64 c, .bool true] w fun e w' => e = .returned (.tuple #[.int .i64 0, .int .i64 2]) ∧ ∃ x : Later w, w' = x.out := by
  have Hc1 := Lib.hid c1; clear c1
  have Hc2 := Lib.hid c2; clear c2
  have Hc3 := Lib.hid c3; clear c3
  have Hc4 := Lib.hid c4; clear c4
  have Hc5 := Lib.hid c5; clear c5
  go_enter Try.func98, Try.ntmps98
  go_wp2_with (first | (go_at_call 110; (with_reducible refine (Hc1.out _).mono ?_); rintro e _ ⟨rfl, x1, rfl⟩) | (go_at_call 109; (with_reducible refine (Hc2.out _).mono ?_); rintro e _ ⟨rfl, x2, rfl⟩))
  refine wp_region_later_tail 3 (by kernel_rfl) (by kernel_rfl) ?_
  simp only [List.take_succ_cons, List.take_zero, List.drop_succ_cons, List.drop_zero]
  repeat (go_big_quiet_step ((first | (go_at_call 112; with_reducible exact Later.call _ (Hc3.out _)) | (go_at_call 111; with_reducible exact Later.call _ (Hc4.out _)))))
  refine wpQuiet_nil ?_
  intro x
  have g8 : x2.out.heap.size < x.out.heap.size := Later.lt x _ (by simp [go_sem])
  go_wp2_with (first | (go_at_call 113; (with_reducible refine (Hc5.out _).mono ?_); rintro e _ ⟨rfl, y, rfl⟩))
  exact bodyPost_ret (v := .tuple #[.int .i64 0, .int .i64 2]) (by simp [results, Try.results98, go_sem, *]) rfl ⟨rfl, (Later.mk_of (by repeat (first | (with_reducible assumption) | (with_reducible exact Below.refl _ _) | (with_reducible refine Later.after ?_ _) | (with_reducible refine Later.newer ?_ _) | (with_reducible refine Below.drew ?_) | (with_reducible refine Below.setCell ?_ (by first | exact Nat.le_refl _ | exact Nat.le_add_right _ _ | omega | (simp [go_sem]; done) | (simp [go_sem]; omega)) _))))⟩


set_option maxHeartbeats 400000 in
theorem narrow3_true (h l v : Int) (w : World) (c : ∀ w', Calls Try.prog 116 #[.agg #[.int .i64 h, .int .u64 l]] w' fun e w'' => e = .returned (.tuple #[.int .i64 v, .bool true]) ∧ ∃ x : Later w', w'' = x.out) :
    Calls Try.prog 108 #[.agg #[.int .i64 h, .int .u64 l]] w fun e w' => e = .returned (.tuple #[.int .i64 v, .int .i64 0]) ∧ ∃ x : Later w, w' = x.out := by
  have Hc := Lib.hid c; clear c
  go_enter Try.func108, Try.ntmps108
  go_wp2_with (first | (go_at_call 116; (with_reducible refine (Hc.out _).mono ?_); rintro e _ ⟨rfl, x, rfl⟩))
  exact bodyPost_ret (v := .tuple #[.int .i64 v, .int .i64 0]) (by simp [results, Try.results108, go_sem, *]) rfl ⟨rfl, (Later.mk_of (by repeat (first | (with_reducible assumption) | (with_reducible exact Below.refl _ _) | (with_reducible refine Later.after ?_ _) | (with_reducible refine Later.newer ?_ _) | (with_reducible refine Below.drew ?_) | (with_reducible refine Below.setCell ?_ (by first | exact Nat.le_refl _ | exact Nat.le_add_right _ _ | omega | (simp [go_sem]; done) | (simp [go_sem]; omega)) _))))⟩


set_option maxHeartbeats 400000 in
theorem narrow3_false (h l v : Int) (w : World) (c : ∀ w', Calls Try.prog 116 #[.agg #[.int .i64 h, .int .u64 l]] w' fun e w'' => e = .returned (.tuple #[.int .i64 v, .bool false]) ∧ ∃ x : Later w', w'' = x.out) :
    Calls Try.prog 108 #[.agg #[.int .i64 h, .int .u64 l]] w fun e w' => e = .returned (.tuple #[.int .i64 0, .int .i64 2]) ∧ ∃ x : Later w, w' = x.out := by
  have Hc := Lib.hid c; clear c
  go_enter Try.func108, Try.ntmps108
  go_wp2_with (first | (go_at_call 116; (with_reducible refine (Hc.out _).mono ?_); rintro e _ ⟨rfl, x, rfl⟩))
  exact bodyPost_ret (v := .tuple #[.int .i64 0, .int .i64 2]) (by simp [results, Try.results108, go_sem, *]) rfl ⟨rfl, (Later.mk_of (by repeat (first | (with_reducible assumption) | (with_reducible exact Below.refl _ _) | (with_reducible refine Later.after ?_ _) | (with_reducible refine Later.newer ?_ _) | (with_reducible refine Below.drew ?_) | (with_reducible refine Below.setCell ?_ (by first | exact Nat.le_refl _ | exact Nat.le_add_right _ _ | omega | (simp [go_sem]; done) | (simp [go_sem]; omega)) _))))⟩


set_option maxRecDepth 100000 in
set_option maxHeartbeats 600000 in
theorem near3_dn (a b c h l h1 l1 h2 l2 t v er : Int) (w : World) (t0 : 0 ≤ t) (t1 : t < c) (c9 : c ≤ 9223372036854775807) (g : t < c - t)
    (c1 : ∀ w', Calls Try.prog 93 #[.int .i64 a, .int .i64 b] w' fun e w'' => e = .returned (.agg #[.int .i64 h, .int .u64 l]) ∧ ∃ x : Later w', w'' = x.out)
    (c2 : ∀ w', Calls Try.prog 106 #[.agg #[.int .i64 h, .int .u64 l], .int .i64 c] w' fun e w'' => e = .returned (.tuple #[.agg #[.int .i64 h1, .int .u64 l1], .int .i64 t, .int .i64 0]) ∧ ∃ x : Later w', w'' = x.out)
    
    (c5 : ∀ w', Calls Try.prog 108 #[.agg #[.int .i64 h1, .int .u64 l1]] w' fun e w'' => e = .returned (.tuple #[.int .i64 v, .int .i64 er]) ∧ ∃ x : Later w', w'' = x.out) :
    Calls Try.prog 96 #[.int .i64 a, .int .i64 b, .int .i64 c] w fun e w' => e = .returned (.tuple #[.int .i64 v, .int .i64 er]) ∧ ∃ x : Later w, w' = x.out := by
  have Hc1 := Lib.hid c1; clear c1
  have Hc2 := Lib.hid c2; clear c2
  have Hc5 := Lib.hid c5; clear c5
  go_enter Try.func96, Try.ntmps96
  go_wp2_with (first | (go_at_call 93; (with_reducible refine (Hc1.out _).mono ?_); rintro e _ ⟨rfl, x, rfl⟩) | (go_at_call 106; (with_reducible refine (Hc2.out _).mono ?_); rintro e _ ⟨rfl, x, rfl⟩) | (go_at_call 108; (with_reducible refine (Hc5.out _).mono ?_); rintro e _ ⟨rfl, x, rfl⟩))
  exact bodyPost_ret (v := .tuple #[.int .i64 v, .int .i64 er]) (by simp [results, Try.results96, go_sem, *]) rfl ⟨rfl, (Later.mk_of (by repeat (first | (with_reducible assumption) | (with_reducible exact Below.refl _ _) | (with_reducible refine Later.after ?_ _) | (with_reducible refine Later.newer ?_ _) | (with_reducible refine Below.drew ?_) | (with_reducible refine Below.setCell ?_ (by first | exact Nat.le_refl _ | exact Nat.le_add_right _ _ | omega | (simp [go_sem]; done) | (simp [go_sem]; omega)) _))))⟩


set_option maxRecDepth 100000 in
set_option maxHeartbeats 600000 in
theorem near3_up (a b c h l h1 l1 h2 l2 t v er : Int) (w : World) (t0 : 0 ≤ t) (t1 : t < c) (c9 : c ≤ 9223372036854775807) (g : c - t ≤ t)
    (c1 : ∀ w', Calls Try.prog 93 #[.int .i64 a, .int .i64 b] w' fun e w'' => e = .returned (.agg #[.int .i64 h, .int .u64 l]) ∧ ∃ x : Later w', w'' = x.out)
    (c2 : ∀ w', Calls Try.prog 106 #[.agg #[.int .i64 h, .int .u64 l], .int .i64 c] w' fun e w'' => e = .returned (.tuple #[.agg #[.int .i64 h1, .int .u64 l1], .int .i64 t, .int .i64 0]) ∧ ∃ x : Later w', w'' = x.out)
    (c3 : ∀ w', Calls Try.prog 107 #[.int .i64 1] w' fun e w'' => e = .returned (.agg #[.int .i64 0, .int .u64 1]) ∧ ∃ x : Later w', w'' = x.out)
    (c4 : ∀ w', Calls Try.prog 94 #[.agg #[.int .i64 h1, .int .u64 l1], .agg #[.int .i64 0, .int .u64 1]] w' fun e w'' => e = .returned (.agg #[.int .i64 h2, .int .u64 l2]) ∧ ∃ x : Later w', w'' = x.out)
    (c5 : ∀ w', Calls Try.prog 108 #[.agg #[.int .i64 h2, .int .u64 l2]] w' fun e w'' => e = .returned (.tuple #[.int .i64 v, .int .i64 er]) ∧ ∃ x : Later w', w'' = x.out) :
    Calls Try.prog 96 #[.int .i64 a, .int .i64 b, .int .i64 c] w fun e w' => e = .returned (.tuple #[.int .i64 v, .int .i64 er]) ∧ ∃ x : Later w, w' = x.out := by
  have Hc1 := Lib.hid c1; clear c1
  have Hc2 := Lib.hid c2; clear c2
  have Hc3 := Lib.hid c3; clear c3
  have Hc4 := Lib.hid c4; clear c4
  have Hc5 := Lib.hid c5; clear c5
  go_enter Try.func96, Try.ntmps96
  go_wp2_with (first | (go_at_call 93; (with_reducible refine (Hc1.out _).mono ?_); rintro e _ ⟨rfl, x1, rfl⟩) | (go_at_call 106; (with_reducible refine (Hc2.out _).mono ?_); rintro e _ ⟨rfl, x2, rfl⟩))
  refine wp_region_later_tail 3 (by kernel_rfl) (by kernel_rfl) ?_
  simp only [List.take_succ_cons, List.take_zero, List.drop_succ_cons, List.drop_zero]
  repeat (go_big_quiet_step ((first | (go_at_call 107; with_reducible exact Later.call _ (Hc3.out _)) | (go_at_call 94; with_reducible exact Later.call _ (Hc4.out _)))))
  refine wpQuiet_nil ?_
  intro x
  have g8 : x2.out.heap.size < x.out.heap.size := Later.lt x _ (by simp [go_sem])
  go_wp2_with (first | (go_at_call 108; (with_reducible refine (Hc5.out _).mono ?_); rintro e _ ⟨rfl, y, rfl⟩))
  exact bodyPost_ret (v := .tuple #[.int .i64 v, .int .i64 er]) (by simp [results, Try.results96, go_sem, *]) rfl ⟨rfl, (Later.mk_of (by repeat (first | (with_reducible assumption) | (with_reducible exact Below.refl _ _) | (with_reducible refine Later.after ?_ _) | (with_reducible refine Later.newer ?_ _) | (with_reducible refine Below.drew ?_) | (with_reducible refine Below.setCell ?_ (by first | exact Nat.le_refl _ | exact Nat.le_add_right _ _ | omega | (simp [go_sem]; done) | (simp [go_sem]; omega)) _))))⟩


theorem one_W : hiW 1 = 0 ∧ loW 1 = 1 := by unfold hiW loW; omega
theorem mul_R128 (a b : Int) (ra : R64 a) (rb : R64 b) : R128 (a * b) := by
  unfold R64 at ra rb
  have p1 := Int.mul_le_mul_of_natAbs_le (x := a) (y := b) (s := 9223372036854775808) (t := 9223372036854775808) (by omega) (by omega)
  have p2 := Int.mul_le_mul_of_natAbs_le (x := -a) (y := b) (s := 9223372036854775808) (t := 9223372036854775808) (by omega) (by omega)
  rw [Int.neg_mul] at p2
  unfold R128; omega

set_option maxHeartbeats 400000 in
theorem divided_near (a b c : Int) (w : World) (ra : R64 a) (rb : R64 b) (hc : 0 < c) (c9 : c ≤ 9223372036854775807) (hq : R64 (nrst (a * b) c)) :
    Calls Try.prog 98 #[.int .i64 a, .int .i64 b, .int .i64 c, .bool true] w fun e w' => e = .returned (.tuple #[.int .i64 (nrst (a * b) c), .int .i64 0]) ∧ ∃ x : Later w, w' = x.out := by
  have m0 := Int.emod_nonneg (a * b) (show c ≠ 0 by omega)
  have m1 := Int.emod_lt_of_pos (a * b) hc
  have rn := mul_R128 a b ra rb
  by_cases g : c - a * b % c ≤ a * b % c
  · have e : nrst (a * b) c = a * b / c + 1 := by unfold nrst; rw [if_pos g]
    rw [e] at hq ⊢
    have c3 := fun v => of_c 1 v (by unfold R64; omega)
    have c4 := fun v => add_c (a * b / c) 1 v
    rw [one_W.1, one_W.2] at c3 c4
    exact divided_true_up_true a b c _ _ _ _ _ _ (a * b % c) _ w m0 m1 c9 g (fun v => mul_c a b v ra rb) (fun v => div_c _ c v rn hc c9) c3 c4 (fun v => narrow_yes _ v hq)
  · have e : nrst (a * b) c = a * b / c := by unfold nrst; rw [if_neg g]
    rw [e] at hq ⊢
    exact divided_true_dn_true a b c _ _ _ _ 0 0 (a * b % c) _ w m0 m1 c9 (by omega) (fun v => mul_c a b v ra rb) (fun v => div_c _ c v rn hc c9) (fun v => narrow_yes _ v hq)

set_option maxHeartbeats 400000 in
theorem near_c (a b c : Int) (w : World) (ra : R64 a) (rb : R64 b) (hc : 0 < c) (c9 : c ≤ 9223372036854775807) (hq : R64 (nrst (a * b) c)) :
    Calls Try.prog 91 #[.int .i64 a, .int .i64 b, .int .i64 c] w fun e w' => e = .returned (.tuple #[.int .i64 (nrst (a * b) c), .int .i64 0]) ∧ ∃ x : Later w, w' = x.out := by
  have c1 := fun v => divided_near a b c v ra rb hc c9 hq
  have Hc1 := Lib.hid c1; clear c1
  clear hq
  generalize nrst (a * b) c = q at *
  go_enter Try.func91, Try.ntmps91
  go_wp2_with (first | (go_at_call 98; (with_reducible refine (Hc1.out _).mono ?_); rintro e _ ⟨rfl, x, rfl⟩))
  exact bodyPost_ret (v := .tuple #[.int .i64 q, .int .i64 0]) (by simp [results, Try.results91, go_sem, *]) rfl ⟨rfl, (Later.mk_of (by repeat (first | (with_reducible assumption) | (with_reducible exact Below.refl _ _) | (with_reducible refine Later.after ?_ _) | (with_reducible refine Later.newer ?_ _) | (with_reducible refine Below.drew ?_) | (with_reducible refine Below.setCell ?_ (by first | exact Nat.le_refl _ | exact Nat.le_add_right _ _ | omega | (simp [go_sem]; done) | (simp [go_sem]; omega)) _))))⟩

set_option maxHeartbeats 400000 in
theorem near_r (a b c : Int) (w : World) (ra : R64 a) (rb : R64 b) (hc : 0 < c) (c9 : c ≤ 9223372036854775807) (hq : R64 (nrst (a * b) c)) :
    Calls Try.prog 96 #[.int .i64 a, .int .i64 b, .int .i64 c] w fun e w' => e = .returned (.tuple #[.int .i64 (nrst (a * b) c), .int .i64 0]) ∧ ∃ x : Later w, w' = x.out := by
  have m0 := Int.emod_nonneg (a * b) (show c ≠ 0 by omega)
  have m1 := Int.emod_lt_of_pos (a * b) hc
  have rn := mul_R128 a b ra rb
  by_cases g : c - a * b % c ≤ a * b % c
  · have e : nrst (a * b) c = a * b / c + 1 := by unfold nrst; rw [if_pos g]
    rw [e] at hq ⊢
    have c3 := fun v => of_r 1 v (by unfold R64; omega)
    have c4 := fun v => add_r (a * b / c) 1 v
    rw [one_W.1, one_W.2] at c3 c4
    exact near3_up a b c _ _ _ _ _ _ (a * b % c) _ _ w m0 m1 c9 g (fun v => mul_r a b v ra rb) (fun v => div_r _ c v rn hc c9) c3 c4 (fun v => narrow3_true _ _ _ v (fun v => narrow_r_yes _ v hq))
  · have e : nrst (a * b) c = a * b / c := by unfold nrst; rw [if_neg g]
    rw [e] at hq ⊢
    exact near3_dn a b c _ _ _ _ 0 0 (a * b % c) _ _ w m0 m1 c9 (by omega) (fun v => mul_r a b v ra rb) (fun v => div_r _ c v rn hc c9) (fun v => narrow3_true _ _ _ v (fun v => narrow_r_yes _ v hq))

end Go.Proofs.Ytcdnekhpeghkiaa

/-
  The reference's root: the square of a number, by halves.
-/
namespace Go.Proofs.Ytcdnekhpeghkiaa
set_option linter.unusedVariables false
open Go.RowKit

set_option maxRecDepth 100000 in
set_option maxHeartbeats 1000000 in
theorem upTo_walk (x a p q T : Int) (r : Bool) (w : World) (ha : R128 a) (hT : (p * p * 2 ^ 32 + (p * q + p * q)) * 2 ^ 32 + q * q = T) (e1 : wrap64 (IntKind.u64.wrap (x.tdiv 4294967296)) = p) (e2 : wrap64 (x.tmod 4294967296) = q)
    (c1 : ∀ w', Calls Try.prog 93 #[.int .i64 p, .int .i64 q] w' fun e w'' => e = .returned (.agg #[.int .i64 (hiW (p * q)), .int .u64 (loW (p * q))]) ∧ ∃ x : Later w', w'' = x.out)
    (c2 : ∀ w', Calls Try.prog 93 #[.int .i64 p, .int .i64 p] w' fun e w'' => e = .returned (.agg #[.int .i64 (hiW (p * p)), .int .u64 (loW (p * p))]) ∧ ∃ x : Later w', w'' = x.out)
    (c3 : ∀ w', Calls Try.prog 93 #[.int .i64 q, .int .i64 q] w' fun e w'' => e = .returned (.agg #[.int .i64 (hiW (q * q)), .int .u64 (loW (q * q))]) ∧ ∃ x : Later w', w'' = x.out)
    (hr : hiW T < 0 ∧ r = false ∨ 0 ≤ hiW T ∧ Hid (∀ w', Calls Try.prog 95 #[.agg #[.int .i64 (hiW T), .int .u64 (loW T)], .agg #[.int .i64 (hiW a), .int .u64 (loW a)]] w' fun e w'' => e = .returned (.int .i64 (ordW T a)) ∧ ∃ x : Later w', w'' = x.out) ∧ r = decide (ordW T a ≤ 0)) :
    Calls Try.prog 82 #[.int .u64 x, .agg #[.int .i64 (hiW a), .int .u64 (loW a)]] w fun e w' => e = .returned (.bool r) ∧ ∃ x : Later w, w' = x.out := by
  have Hc1 := Lib.hid c1; clear c1
  have Hc2 := Lib.hid c2; clear c2
  have Hc3 := Lib.hid c3; clear c3
  have Hha := Lib.hid ha; clear ha
  have HhT := Lib.hid hT; clear hT
  go_enter Try.func82, Try.ntmps82
  go_wp2_with (first | (go_at_call 93; (with_reducible refine (Hc1.out _).mono ?_); rintro e _ ⟨rfl, x7, rfl⟩) | (go_at_call 93; (with_reducible refine (Hc2.out _).mono ?_); rintro e _ ⟨rfl, x8, rfl⟩))
  have k8 : x7.out.heap.size < x8.out.heap.size := by have := x8.below.size; simp only [World.size_alloc] at this; omega
  have k7 : w.heap.size < x7.out.heap.size := by have := x7.below.size; simp only [World.size_alloc] at this; omega
  go_loopw [9] (fun i wr => ∃ (k : Nat) (I S : Int), I = (k : Int) ∧ k ≤ 32 ∧ i = .int .i64 I ∧ Hid (S = (p * p) * 2 ^ k) ∧
      wr.cell? ⟨x8.out.heap.size, 0, none⟩ = some (.int .i64 (hiW S)) ∧ wr.cell? ⟨x8.out.heap.size, 1, none⟩ = some (.int .u64 (loW S)) ∧ wr.frozen? ⟨x8.out.heap.size, 0, none⟩ = false ∧ wr.frozen? ⟨x8.out.heap.size, 1, none⟩ = false ∧ wr.cell? ⟨w.heap.size, 0, none⟩ = some (.int .i64 (hiW a)) ∧ wr.cell? ⟨w.heap.size, 1, none⟩ = some (.int .u64 (loW a)) ∧ wr.cell? ⟨x7.out.heap.size, 0, none⟩ = some (.int .i64 (hiW (p * q))) ∧ wr.cell? ⟨x7.out.heap.size, 1, none⟩ = some (.int .u64 (loW (p * q))) ∧
      x8.out.heap.size < wr.heap.size ∧ Below w.heap.size w wr)
      (fun i _ => 32 - (intOf i).toNat)
  case atStart =>
    exact ⟨0, 0, p * p, rfl, by omega, rfl, Lib.hid (by simp), by (first | (simp [go_sem, *]; done) | (simp [go_sem, *]; omega)), by (first | (simp [go_sem, *]; done) | (simp [go_sem, *]; omega)), by (first | (simp [go_sem, *]; done) | (simp [go_sem, *]; omega)), by (first | (simp [go_sem, *]; done) | (simp [go_sem, *]; omega)), by (first | (simp [go_sem, *]; done) | (simp [go_sem, *]; omega)), by (first | (simp [go_sem, *]; done) | (simp [go_sem, *]; omega)), by (first | (simp [go_sem, *]; done) | (simp [go_sem, *]; omega)), by (first | (simp [go_sem, *]; done) | (simp [go_sem, *]; omega)), by (first | (simp [go_sem, *]; done) | (simp [go_sem, *]; omega)), (by repeat (first | (with_reducible assumption) | (with_reducible exact Below.refl _ _) | (with_reducible refine Later.after ?_ _) | (with_reducible refine Later.newer ?_ _) | (with_reducible refine Below.drew ?_) | (with_reducible refine Below.setCell ?_ (by first | exact Nat.le_refl _ | exact Nat.le_add_right _ _ | (dsimp only; omega)) _)))⟩
  case round =>
    obtain ⟨k, I, S, hI, hk, rfl, HS, c0, c1, fz0, fz1, a0, a1, m0, m1, hq, hB⟩ := hrel
    have h7 : x7.out.heap.size < wr.heap.size := by omega
    have h0 : w.heap.size < wr.heap.size := by omega
    by_cases hlt : k < 32
    · have G : Hid (S + S = (p * p) * 2 ^ (k + 1)) := Lib.hid (by rw [HS.out, Int.pow_succ, ← Int.mul_assoc]; omega)
      clear HS
      go_wp2_with (first | (go_at_call 94; (with_reducible refine (add_r _ _ _).mono ?_); rintro e _ ⟨rfl, y, rfl⟩))
      have g8 : x8.out.heap.size < y.out.heap.size := Later.lt y _ hq
      have g7 : x7.out.heap.size < y.out.heap.size := Later.lt y _ h7
      have g0 : w.heap.size < y.out.heap.size := Later.lt y _ h0
      go_roundw
      case rel => exact ⟨k + 1, I + 1, S + S, by omega, by omega, by go_num, G, by (first | (simp [go_sem, *]; done) | (simp [go_sem, *]; omega)), by (first | (simp [go_sem, *]; done) | (simp [go_sem, *]; omega)), by (first | (simp [go_sem, *]; done) | (simp [go_sem, *]; omega)), by (first | (simp [go_sem, *]; done) | (simp [go_sem, *]; omega)), by (first | (simp [go_sem, *]; done) | (simp [go_sem, *]; omega)), by (first | (simp [go_sem, *]; done) | (simp [go_sem, *]; omega)), by (first | (simp [go_sem, *]; done) | (simp [go_sem, *]; omega)), by (first | (simp [go_sem, *]; done) | (simp [go_sem, *]; omega)), by (first | (simp [go_sem, *]; done) | (simp [go_sem, *]; omega)), (by repeat (first | (with_reducible assumption) | (with_reducible exact Below.refl _ _) | (with_reducible refine Later.after ?_ _) | (with_reducible refine Later.newer ?_ _) | (with_reducible refine Below.drew ?_) | (with_reducible refine Below.setCell ?_ (by first | exact Nat.le_refl _ | exact Nat.le_add_right _ _ | (dsimp only; omega)) _)))⟩
      case measure => simp [intOf]; omega
    · obtain rfl : I = 32 := by omega
      obtain rfl : k = 32 := by omega
      clear hI
      have HB := Lib.hid hB
      clear hB
      go_wp2_with (fail)
      refine wp_region_later_tail 5 (by kernel_rfl) (by kernel_rfl) ?_
      simp only [List.take_succ_cons, List.take_zero, List.drop_succ_cons, List.drop_zero]
      repeat (go_big_quiet_step ((first | (go_at_call 94; with_reducible exact Later.call _ (add_r _ _ _)))))
      refine wpQuiet_nil ?_
      intro x
      have g8 : x8.out.heap.size < x.out.heap.size := Later.lt x _ hq
      have g7 : x7.out.heap.size < x.out.heap.size := Later.lt x _ h7
      have g0 : w.heap.size < x.out.heap.size := Later.lt x _ h0
      have hB := HB.out
      clear HB
      have HS1 := HS
      clear HS
      go_wp2_with (fail)
      go_loopw [10] (fun i wr => ∃ (k : Nat) (I S' : Int), I = (k : Int) ∧ k ≤ 32 ∧ i = .int .i64 I ∧ Hid (S' = (S + (p * q + p * q)) * 2 ^ k) ∧
          wr.cell? ⟨x8.out.heap.size, 0, none⟩ = some (.int .i64 (hiW S')) ∧ wr.cell? ⟨x8.out.heap.size, 1, none⟩ = some (.int .u64 (loW S')) ∧ wr.frozen? ⟨x8.out.heap.size, 0, none⟩ = false ∧ wr.frozen? ⟨x8.out.heap.size, 1, none⟩ = false ∧ wr.cell? ⟨w.heap.size, 0, none⟩ = some (.int .i64 (hiW a)) ∧ wr.cell? ⟨w.heap.size, 1, none⟩ = some (.int .u64 (loW a)) ∧ wr.cell? ⟨x7.out.heap.size, 0, none⟩ = some (.int .i64 (hiW (p * q))) ∧ wr.cell? ⟨x7.out.heap.size, 1, none⟩ = some (.int .u64 (loW (p * q))) ∧
          x8.out.heap.size < wr.heap.size ∧ Below w.heap.size w wr)
          (fun i _ => 32 - (intOf i).toNat)
      case atStart =>
        exact ⟨0, 0, S + (p * q + p * q), rfl, by omega, rfl, Lib.hid (by simp), by (first | (simp [go_sem, *]; done) | (simp [go_sem, *]; omega)), by (first | (simp [go_sem, *]; done) | (simp [go_sem, *]; omega)), by (first | (simp [go_sem, *]; done) | (simp [go_sem, *]; omega)), by (first | (simp [go_sem, *]; done) | (simp [go_sem, *]; omega)), by (first | (simp [go_sem, *]; done) | (simp [go_sem, *]; omega)), by (first | (simp [go_sem, *]; done) | (simp [go_sem, *]; omega)), by (first | (simp [go_sem, *]; done) | (simp [go_sem, *]; omega)), by (first | (simp [go_sem, *]; done) | (simp [go_sem, *]; omega)), by (first | (simp [go_sem, *]; done) | (simp [go_sem, *]; omega)), (by repeat (first | (with_reducible assumption) | (with_reducible exact Below.refl _ _) | (with_reducible refine Later.after ?_ _) | (with_reducible refine Later.newer ?_ _) | (with_reducible refine Below.drew ?_) | (with_reducible refine Below.setCell ?_ (by first | exact Nat.le_refl _ | exact Nat.le_add_right _ _ | (dsimp only; omega)) _)))⟩
      case round =>
        obtain ⟨k, I, S', hI, hk, rfl, HS, c0, c1, fz0, fz1, a0, a1, m0, m1, hq, hB⟩ := hrel
        have h7 : x7.out.heap.size < wr.heap.size := by omega
        have h0 : w.heap.size < wr.heap.size := by omega
        by_cases hlt : k < 32
        · have G : Hid (S' + S' = (S + (p * q + p * q)) * 2 ^ (k + 1)) := Lib.hid (by rw [HS.out, Int.pow_succ, ← Int.mul_assoc]; omega)
          clear HS
          go_wp2_with (first | (go_at_call 94; (with_reducible refine (add_r _ _ _).mono ?_); rintro e _ ⟨rfl, y, rfl⟩))
          have g8 : x8.out.heap.size < y.out.heap.size := Later.lt y _ hq
          have g7 : x7.out.heap.size < y.out.heap.size := Later.lt y _ h7
          have g0 : w.heap.size < y.out.heap.size := Later.lt y _ h0
          go_roundw
          case rel => exact ⟨k + 1, I + 1, S' + S', by omega, by omega, by go_num, G, by (first | (simp [go_sem, *]; done) | (simp [go_sem, *]; omega)), by (first | (simp [go_sem, *]; done) | (simp [go_sem, *]; omega)), by (first | (simp [go_sem, *]; done) | (simp [go_sem, *]; omega)), by (first | (simp [go_sem, *]; done) | (simp [go_sem, *]; omega)), by (first | (simp [go_sem, *]; done) | (simp [go_sem, *]; omega)), by (first | (simp [go_sem, *]; done) | (simp [go_sem, *]; omega)), by (first | (simp [go_sem, *]; done) | (simp [go_sem, *]; omega)), by (first | (simp [go_sem, *]; done) | (simp [go_sem, *]; omega)), by (first | (simp [go_sem, *]; done) | (simp [go_sem, *]; omega)), (by repeat (first | (with_reducible assumption) | (with_reducible exact Below.refl _ _) | (with_reducible refine Later.after ?_ _) | (with_reducible refine Later.newer ?_ _) | (with_reducible refine Below.drew ?_) | (with_reducible refine Below.setCell ?_ (by first | exact Nat.le_refl _ | exact Nat.le_add_right _ _ | (dsimp only; omega)) _)))⟩
          case measure => simp [intOf]; omega
        · obtain rfl : I = 32 := by omega
          obtain rfl : k = 32 := by omega
          clear hI
          have HB := Lib.hid hB
          have ET : Hid (S' + q * q = T) := Lib.hid (by rw [HS.out, HS1.out]; exact HhT.out)
          clear hB HS HS1
          go_wp2_with (fail)
          refine wp_region_later_tail 5 (by kernel_rfl) (by kernel_rfl) ?_
          simp only [List.take_succ_cons, List.take_zero, List.drop_succ_cons, List.drop_zero]
          repeat (go_big_quiet_step ((first | (go_at_call 93; with_reducible exact Later.call _ (Hc3.out _)) | (go_at_call 94; with_reducible exact Later.call _ (add_r _ _ _)))))
          refine wpQuiet_nil ?_
          intro x
          have g8 : x8.out.heap.size < x.out.heap.size := Later.lt x _ hq
          have g7 : x7.out.heap.size < x.out.heap.size := Later.lt x _ h7
          have g0 : w.heap.size < x.out.heap.size := Later.lt x _ h0
          rw [ET.out]
          clear ET
          have hB := HB.out
          clear HB
          rcases hr with ⟨hneg, rfl⟩ | ⟨hpos, hcm, rfl⟩
          · go_wp2_with (fail)
            exact bodyPost_ret (v := .bool false) (by simp [results, Try.results82, go_sem, *]) rfl ⟨rfl, (Later.mk_of (by repeat (first | (with_reducible assumption) | (with_reducible exact Below.refl _ _) | (with_reducible refine Later.after ?_ _) | (with_reducible refine Later.newer ?_ _) | (with_reducible refine Below.drew ?_) | (with_reducible refine Below.setCell ?_ (by first | exact Nat.le_refl _ | exact Nat.le_add_right _ _ | omega | (simp [go_sem]; done) | (simp [go_sem]; omega)) _))))⟩
          · go_wp2_with (first | (go_at_call 95; (with_reducible refine (hcm.out _).mono ?_); rintro e _ ⟨rfl, y, rfl⟩))
            exact bodyPost_ret (v := .bool (decide (ordW T a ≤ 0))) (by simp [results, Try.results82, go_sem, *]) rfl ⟨rfl, (Later.mk_of (by repeat (first | (with_reducible assumption) | (with_reducible exact Below.refl _ _) | (with_reducible refine Later.after ?_ _) | (with_reducible refine Later.newer ?_ _) | (with_reducible refine Below.drew ?_) | (with_reducible refine Below.setCell ?_ (by first | exact Nat.le_refl _ | exact Nat.le_add_right _ _ | omega | (simp [go_sem]; done) | (simp [go_sem]; omega)) _))))⟩

/-- is the square of x at most a? -/
theorem upTo_r (x a : Int) (w : World) (ha : R128 a) (a0 : 0 ≤ a) (x0 : 0 ≤ x) (x1 : x ≤ 18446744073709551615) :
    Calls Try.prog 82 #[.int .u64 x, .agg #[.int .i64 (hiW a), .int .u64 (loW a)]] w fun e w' => e = .returned (.bool (decide (x * x ≤ a))) ∧ ∃ x : Later w, w' = x.out := by
  obtain ⟨p, hp⟩ : ∃ p, p = x / 4294967296 := ⟨_, rfl⟩
  obtain ⟨q, hq⟩ : ∃ q, q = x % 4294967296 := ⟨_, rfl⟩
  have hx : x = p * 4294967296 + q := by omega
  have rp : R64 p := by unfold R64; omega
  have rq : R64 q := by unfold R64; omega
  have hT : (p * p * 2 ^ 32 + (p * q + p * q)) * 2 ^ 32 + q * q = x * x := by
    have e : (2 : Int) ^ 32 = 4294967296 := by decide
    rw [hx, sq_add, e]
    have e1 : p * 4294967296 * (p * 4294967296) = p * p * 4294967296 * 4294967296 := by rw [Int.mul_assoc, Int.mul_comm 4294967296, Int.mul_assoc, Int.mul_assoc, Int.mul_assoc]
    have e2 : p * 4294967296 * q = p * q * 4294967296 := by rw [Int.mul_assoc, Int.mul_comm 4294967296, Int.mul_assoc]
    rw [e1, e2]
    omega
  have s0 := Int.mul_nonneg x0 x0
  have s1 := Int.mul_le_mul x1 x1 x0 (by omega)
  refine upTo_walk x a p q (x * x) _ w ha hT ?_ ?_ (fun v => mul_r p q v rp rq) (fun v => mul_r p p v rp rp) (fun v => mul_r q q v rq rq) ?_
  · rw [Int.tdiv_eq_ediv_of_nonneg x0, IntWalk.u64_in _ (by omega)]
    unfold wrap64; omega
  · rw [Int.tmod_eq_emod_of_nonneg x0]
    unfold wrap64; omega
  · by_cases h : x * x < 170141183460469231731687303715884105728
    · refine .inr ⟨by unfold hiW; omega, Lib.hid (fun v => cmp_r _ _ v (by unfold R128; omega) ha), ?_⟩
      unfold ordW
      by_cases h1 : x * x = a
      · simp [h1]
      · by_cases h2 : x * x < a
        · rw [if_neg h1, if_pos h2]; simp; omega
        · rw [if_neg h1, if_neg h2]; simp; omega
    · refine .inl ⟨by unfold hiW; omega, ?_⟩
      unfold R128 at ha
      simp; omega
end Go.Proofs.Ytcdnekhpeghkiaa

/-
  The reference's root, bit by bit.
-/
namespace Go.Proofs.Ytcdnekhpeghkiaa
set_option linter.unusedVariables false
open Go.RowKit

/-- the weight of what is not yet known in round k -/
def tw (k : Nat) : Int := 18446744073709551616 / 2 ^ k
theorem tw_step : ∀ k : Fin 64, tw k.val = 2 * tw (k.val + 1) ∧ 0 < tw (k.val + 1) ∧ tw (k.val + 1) ≤ 9223372036854775808 ∧ tw (k.val + 1) / 2 = tw (k.val + 2) := by decide +kernel
theorem tw_zero : tw 0 = 18446744073709551616 := by decide +kernel
theorem tw_one : tw 1 = 9223372036854775808 := by decide +kernel
theorem tw_end : tw 64 = 1 ∧ tw 65 = 0 := by decide +kernel

set_option maxRecDepth 100000 in
set_option maxHeartbeats 1000000 in
theorem long_r (a r : Int) (w : World) (ha : R128 a) (a0 : 0 ≤ a) (HR : IsRoot a r) :
    Calls Try.prog 63 #[.agg #[.int .i64 (hiW a), .int .u64 (loW a)]] w fun e w' => e = .returned (.int .u64 r) ∧ ∃ x : Later w, w' = x.out := by
  have rl := root_lt HR 18446744073709551616 (by omega) (by unfold R128 at ha; omega)
  have h0 : 0 ≤ hiW a := by unfold R128 at ha; unfold hiW; omega
  have up : ∀ x, 0 ≤ x → x ≤ 18446744073709551615 → ∀ w', Calls Try.prog 82 #[.int .u64 x, .agg #[.int .i64 (hiW a), .int .u64 (loW a)]] w' fun e w'' => e = .returned (.bool (decide (x ≤ r))) ∧ ∃ x : Later w', w'' = x.out := by
    intro x x0 x1 w'
    have h := upTo_r x a w' ha a0 x0 x1
    have e : decide (x * x ≤ a) = decide (x ≤ r) := by
      by_cases k : x ≤ r
      · have := root_above HR x0 k
        simp [k, this]
      · have k2 : ¬ x * x ≤ a := fun h => k (root_mono HR x0 h)
        simp [k, k2]
    rwa [e] at h
  have r0 := HR.r0
  clear ha a0 HR
  have Hup := Lib.hid up; clear up
  go_enter Try.func63, Try.ntmps63
  go_wp2_with (fail)
  go_loopw [3, 4] (fun u b wr => ∃ (k : Nat) (X B : Int), k ≤ 64 ∧ u = .int .u64 X ∧ b = .int .u64 B ∧ B = tw (k + 1) ∧ 0 ≤ X ∧ X ≤ r ∧ r < X + tw k ∧ X + tw k ≤ 18446744073709551616 ∧
      wr.cell? ⟨w.heap.size, 0, none⟩ = some (.int .i64 (hiW a)) ∧ wr.cell? ⟨w.heap.size, 1, none⟩ = some (.int .u64 (loW a)) ∧
      w.heap.size < wr.heap.size ∧ Below w.heap.size w wr)
      (fun _ b _ => (intOf b).toNat)
  case atStart =>
    exact ⟨0, 0, 9223372036854775808, by omega, rfl, rfl, tw_one.symm, by omega, by omega, by rw [tw_zero]; omega, by rw [tw_zero]; omega, by (first | (simp [go_sem, *]; done) | (simp [go_sem, *]; omega)), by (first | (simp [go_sem, *]; done) | (simp [go_sem, *]; omega)), by (first | (simp [go_sem, *]; done) | (simp [go_sem, *]; omega)), (by repeat (first | (with_reducible assumption) | (with_reducible exact Below.refl _ _) | (with_reducible refine Later.after ?_ _) | (with_reducible refine Later.newer ?_ _) | (with_reducible refine Below.drew ?_) | (with_reducible refine Below.setCell ?_ (by first | exact Nat.le_refl _ | exact Nat.le_add_right _ _ | (dsimp only; omega)) _)))⟩
  case round =>
    obtain ⟨k, X, B, hk, rfl, rfl, hB, X0, X1, X2, X3, a0, a1, hq, hL⟩ := hrel
    by_cases hlt : k < 64
    · have hT : tw k = 2 * B ∧ 0 < B ∧ B ≤ 9223372036854775808 ∧ B / 2 = tw (k + 2) := by rw [hB]; exact tw_step ⟨k, hlt⟩
      obtain ⟨H, hH⟩ : ∃ H, H = tw (k + 2) := ⟨_, rfl⟩
      rw [hT.1] at X2 X3
      have hH1 : B / 2 = H := by rw [hH]; exact hT.2.2.2
      have hH2 : H = tw (k + 1 + 1) := hH
      have B0 := hT.2.1
      have B1 := hT.2.2.1
      obtain ⟨Z, hZ⟩ : ∃ Z, Z = X + B := ⟨_, rfl⟩
      have eZ : IntKind.u64.wrap (X + B) = Z := by rw [hZ]; exact IntWalk.u64_in _ (by omega)
      clear hH
      by_cases g : Z ≤ r
      · have c := fun w' => Hup.out Z (by omega) (by omega) w'
        rw [show decide (Z ≤ r) = true by simp; omega] at c
        have Hc := Lib.hid c
        clear c hT
        have n1 : 0 ≤ Z := by omega
        have n2 : r < Z + B := by omega
        have n3 : Z + B ≤ 18446744073709551616 := by omega
        have HBw := Lib.hid hB
        have HHw := Lib.hid hH2
        clear hB hH2 hZ
        go_wp2_with (first | (go_at_call 82; (with_reducible refine (Hc.out _).mono ?_); rintro e _ ⟨rfl, y, rfl⟩))
        have g0 : w.heap.size < y.out.heap.size := Later.lt y _ hq
        go_roundw
        case rel => exact ⟨k + 1, Z, H, by omega, by go_num, by go_num, HHw.out, by omega, by omega, by rw [← HBw.out]; exact n2, by rw [← HBw.out]; exact n3, by (first | (simp [go_sem, *]; done) | (simp [go_sem, *]; omega)), by (first | (simp [go_sem, *]; done) | (simp [go_sem, *]; omega)), by (first | (simp [go_sem, *]; done) | (simp [go_sem, *]; omega)), (by repeat (first | (with_reducible assumption) | (with_reducible exact Below.refl _ _) | (with_reducible refine Later.after ?_ _) | (with_reducible refine Later.newer ?_ _) | (with_reducible refine Below.drew ?_) | (with_reducible refine Below.setCell ?_ (by first | exact Nat.le_refl _ | exact Nat.le_add_right _ _ | (dsimp only; omega)) _)))⟩
        case measure => simp [intOf]; omega
      · have c := fun w' => Hup.out Z (by omega) (by omega) w'
        rw [show decide (Z ≤ r) = false by simp; omega] at c
        have Hc := Lib.hid c
        clear c hT
        have n2 : r < X + B := by omega
        have n3 : X + B ≤ 18446744073709551616 := by omega
        have HBw := Lib.hid hB
        have HHw := Lib.hid hH2
        clear hB hH2 hZ
        go_wp2_with (first | (go_at_call 82; (with_reducible refine (Hc.out _).mono ?_); rintro e _ ⟨rfl, y, rfl⟩))
        have g0 : w.heap.size < y.out.heap.size := Later.lt y _ hq
        go_roundw
        case rel => exact ⟨k + 1, X, H, by omega, by go_num, by go_num, HHw.out, by omega, by omega, by rw [← HBw.out]; exact n2, by rw [← HBw.out]; exact n3, by (first | (simp [go_sem, *]; done) | (simp [go_sem, *]; omega)), by (first | (simp [go_sem, *]; done) | (simp [go_sem, *]; omega)), by (first | (simp [go_sem, *]; done) | (simp [go_sem, *]; omega)), (by repeat (first | (with_reducible assumption) | (with_reducible exact Below.refl _ _) | (with_reducible refine Later.after ?_ _) | (with_reducible refine Later.newer ?_ _) | (with_reducible refine Below.drew ?_) | (with_reducible refine Below.setCell ?_ (by first | exact Nat.le_refl _ | exact Nat.le_add_right _ _ | (dsimp only; omega)) _)))⟩
        case measure => simp [intOf]; omega
    · obtain rfl : k = 64 := by omega
      have hT := tw_end
      rw [hT.1] at X2 X3
      have hB0 : B = 0 := by rw [hB]; exact hT.2
      subst hB0
      obtain rfl : X = r := by omega
      clear hB hT
      go_wp2_with (fail)
      exact bodyPost_ret (v := .int .u64 X) (by simp [results, Try.results63, go_sem, *]) rfl ⟨rfl, (Later.mk_of (by repeat (first | (with_reducible assumption) | (with_reducible exact Below.refl _ _) | (with_reducible refine Later.after ?_ _) | (with_reducible refine Later.newer ?_ _) | (with_reducible refine Below.drew ?_) | (with_reducible refine Below.setCell ?_ (by first | exact Nat.le_refl _ | exact Nat.le_add_right _ _ | omega | (simp [go_sem]; done) | (simp [go_sem]; omega)) _))))⟩

set_option maxHeartbeats 400000 in
theorem long_r_neg (a : Int) (w : World) (h : hiW a < 0) :
    Calls Try.prog 63 #[.agg #[.int .i64 (hiW a), .int .u64 (loW a)]] w fun e w' => e = .returned (.int .u64 0) ∧ ∃ x : Later w, w' = x.out := by
  go_enter Try.func63, Try.ntmps63
  go_wp2_with (fail)
  exact bodyPost_ret (v := .int .u64 0) (by simp [results, Try.results63, go_sem, *]) rfl ⟨rfl, (Later.mk_of (by repeat (first | (with_reducible assumption) | (with_reducible exact Below.refl _ _) | (with_reducible refine Later.after ?_ _) | (with_reducible refine Later.newer ?_ _) | (with_reducible refine Below.drew ?_) | (with_reducible refine Below.setCell ?_ (by first | exact Nat.le_refl _ | exact Nat.le_add_right _ _ | omega | (simp [go_sem]; done) | (simp [go_sem]; omega)) _))))⟩

set_option maxHeartbeats 400000 in
theorem sqrt_r (n r : Int) (w : World) (h0 : 0 ≤ n) (h1 : n ≤ 18446744073709551615) (HR : IsRoot n r) :
    Calls Try.prog 43 #[.int .u64 n] w fun e w' => e = .returned (.int .u64 r) ∧ ∃ x : Later w, w' = x.out := by
  have c := fun w' => long_r n r w' (by unfold R128; omega) h0 HR
  rw [show hiW n = 0 by unfold hiW; omega, show loW n = n by unfold loW; omega] at c
  have Hc := Lib.hid c; clear c
  go_enter Try.func43, Try.ntmps43
  go_wp2_with (first | (go_at_call 63; (with_reducible refine (Hc.out _).mono ?_); rintro e _ ⟨rfl, x, rfl⟩))
  exact bodyPost_ret (v := .int .u64 r) (by simp [results, Try.results43, go_sem, *]) rfl ⟨rfl, (Later.mk_of (by repeat (first | (with_reducible assumption) | (with_reducible exact Below.refl _ _) | (with_reducible refine Later.after ?_ _) | (with_reducible refine Later.newer ?_ _) | (with_reducible refine Below.drew ?_) | (with_reducible refine Below.setCell ?_ (by first | exact Nat.le_refl _ | exact Nat.le_add_right _ _ | omega | (simp [go_sem]; done) | (simp [go_sem]; omega)) _))))⟩

end Go.Proofs.Ytcdnekhpeghkiaa

/-
  The contracts of the vectors, and of the reference's.
-/
namespace Go.Proofs.Ytcdnekhpeghkiaa
set_option linter.unusedVariables false
open Go.RowKit

theorem w64_add (a b : Int) : wrap64 (wrap64 a + wrap64 b) = wrap64 (a + b) := by unfold wrap64; omega
theorem w64_sub (a b : Int) : wrap64 (wrap64 a - wrap64 b) = wrap64 (a - b) := by unfold wrap64; omega
theorem w64_addneg (a b : Int) : wrap64 (a + wrap64 (-b)) = wrap64 (a - b) := by unfold wrap64; omega
theorem w64_in (a : Int) (h : R64 a) : wrap64 a = a := by unfold R64 at h; unfold wrap64; omega


set_option maxRecDepth 100000 in
set_option maxHeartbeats 400000 in
theorem ptAdd_c (p q z u : Int) (w : World) :
    Calls Try.prog 61 #[.agg #[.int .i64 p, .int .i64 q], .agg #[.int .i64 z, .int .i64 u]] w fun e w' => e = .returned (.agg #[.int .i64 (wrap64 (p + z)), .int .i64 (wrap64 (q + u))]) ∧ ∃ x : Later w, w' = x.out := by
  go_enter Try.func61, Try.ntmps61
  go_wp2_with (fail)
  exact bodyPost_ret (v := .agg #[.int .i64 (wrap64 (p + z)), .int .i64 (wrap64 (q + u))]) (by simp [results, Try.results61, go_sem, *]) rfl ⟨rfl, (Later.mk_of (by repeat (first | (with_reducible assumption) | (with_reducible exact Below.refl _ _) | (with_reducible refine Later.after ?_ _) | (with_reducible refine Later.newer ?_ _) | (with_reducible refine Below.drew ?_) | (with_reducible refine Below.setCell ?_ (by first | exact Nat.le_refl _ | exact Nat.le_add_right _ _ | omega | (simp [go_sem]; done) | (simp [go_sem]; omega)) _))))⟩


set_option maxRecDepth 100000 in
set_option maxHeartbeats 400000 in
theorem ptNeg_c (p q : Int) (w : World) :
    Calls Try.prog 62 #[.agg #[.int .i64 p, .int .i64 q]] w fun e w' => e = .returned (.agg #[.int .i64 (wrap64 (-p)), .int .i64 (wrap64 (-q))]) ∧ ∃ x : Later w, w' = x.out := by
  go_enter Try.func62, Try.ntmps62
  go_wp2_with (fail)
  exact bodyPost_ret (v := .agg #[.int .i64 (wrap64 (-p)), .int .i64 (wrap64 (-q))]) (by simp [results, Try.results62, go_sem, *]) rfl ⟨rfl, (Later.mk_of (by repeat (first | (with_reducible assumption) | (with_reducible exact Below.refl _ _) | (with_reducible refine Later.after ?_ _) | (with_reducible refine Later.newer ?_ _) | (with_reducible refine Below.drew ?_) | (with_reducible refine Below.setCell ?_ (by first | exact Nat.le_refl _ | exact Nat.le_add_right _ _ | omega | (simp [go_sem]; done) | (simp [go_sem]; omega)) _))))⟩


set_option maxRecDepth 100000 in
set_option maxHeartbeats 400000 in
theorem ptSub_r (p q z u : Int) (w : World) :
    Calls Try.prog 23 #[.agg #[.int .i64 p, .int .i64 q], .agg #[.int .i64 z, .int .i64 u]] w fun e w' => e = .returned (.agg #[.int .i64 (wrap64 (p - z)), .int .i64 (wrap64 (q - u))]) ∧ ∃ x : Later w, w' = x.out := by
  go_enter Try.func23, Try.ntmps23
  go_wp2_with (fail)
  exact bodyPost_ret (v := .agg #[.int .i64 (wrap64 (p - z)), .int .i64 (wrap64 (q - u))]) (by simp [results, Try.results23, go_sem, *]) rfl ⟨rfl, (Later.mk_of (by repeat (first | (with_reducible assumption) | (with_reducible exact Below.refl _ _) | (with_reducible refine Later.after ?_ _) | (with_reducible refine Later.newer ?_ _) | (with_reducible refine Below.drew ?_) | (with_reducible refine Below.setCell ?_ (by first | exact Nat.le_refl _ | exact Nat.le_add_right _ _ | omega | (simp [go_sem]; done) | (simp [go_sem]; omega)) _))))⟩


set_option maxRecDepth 100000 in
set_option maxHeartbeats 400000 in
theorem ptSub_c0 (p q z u : Int) (w : World) :
    Calls Try.prog 42 #[.agg #[.int .i64 p, .int .i64 q], .agg #[.int .i64 z, .int .i64 u]] w fun e w' => e = .returned (.agg #[.int .i64 (wrap64 (p + wrap64 (-z))), .int .i64 (wrap64 (q + wrap64 (-u)))]) ∧ ∃ x : Later w, w' = x.out := by
  go_enter Try.func42, Try.ntmps42
  go_wp2_with (fail)
  refine wp_region_later_tail 4 (by kernel_rfl) (by kernel_rfl) ?_
  simp only [List.take_succ_cons, List.take_zero, List.drop_succ_cons, List.drop_zero]
  repeat (go_big_quiet_step ((first | (go_at_call 62; with_reducible exact Later.call _ (ptNeg_c _ _ _)) | (go_at_call 61; with_reducible exact Later.call _ (ptAdd_c _ _ _ _ _)))))
  refine wpQuiet_nil ?_
  intro x
  have g8 : w.heap.size + 1 + 1 < x.out.heap.size := Later.lt x _ (by simp [go_sem])
  go_wp2
  exact bodyPost_ret (v := .agg #[.int .i64 (wrap64 (p + wrap64 (-z))), .int .i64 (wrap64 (q + wrap64 (-u)))]) (by simp [results, Try.results42, go_sem, *]) rfl ⟨rfl, (Later.mk_of (by repeat (first | (with_reducible assumption) | (with_reducible exact Below.refl _ _) | (with_reducible refine Later.after ?_ _) | (with_reducible refine Later.newer ?_ _) | (with_reducible refine Below.drew ?_) | (with_reducible refine Below.setCell ?_ (by first | exact Nat.le_refl _ | exact Nat.le_add_right _ _ | omega | (simp [go_sem]; done) | (simp [go_sem]; omega)) _))))⟩


theorem ptSub_c (p q z u : Int) (w : World) :
    Calls Try.prog 42 #[.agg #[.int .i64 p, .int .i64 q], .agg #[.int .i64 z, .int .i64 u]] w fun e w' => e = .returned (.agg #[.int .i64 (wrap64 (p - z)), .int .i64 (wrap64 (q - u))]) ∧ ∃ x : Later w, w' = x.out := by
  rw [← w64_addneg p z, ← w64_addneg q u]
  exact ptSub_c0 p q z u w


set_option maxRecDepth 100000 in
set_option maxHeartbeats 400000 in
theorem ptDot_r0 (p q z u : Int) (w : World) :
    Calls Try.prog 44 #[.agg #[.int .i64 p, .int .i64 q], .agg #[.int .i64 z, .int .i64 u]] w fun e w' => e = .returned (.int .i64 (wrap64 (wrap64 (p * z) + wrap64 (q * u)))) ∧ ∃ x : Later w, w' = x.out := by
  go_enter Try.func44, Try.ntmps44
  go_wp2_with (fail)
  exact bodyPost_ret (v := .int .i64 (wrap64 (wrap64 (p * z) + wrap64 (q * u)))) (by simp [results, Try.results44, go_sem, *]) rfl ⟨rfl, (Later.mk_of (by repeat (first | (with_reducible assumption) | (with_reducible exact Below.refl _ _) | (with_reducible refine Later.after ?_ _) | (with_reducible refine Later.newer ?_ _) | (with_reducible refine Below.drew ?_) | (with_reducible refine Below.setCell ?_ (by first | exact Nat.le_refl _ | exact Nat.le_add_right _ _ | omega | (simp [go_sem]; done) | (simp [go_sem]; omega)) _))))⟩


set_option maxRecDepth 100000 in
set_option maxHeartbeats 400000 in
theorem ptDot_p (p q z u : Int) (w : World) :
    Calls Try.prog 84 #[.agg #[.int .i64 p, .int .i64 q, .int .i64 z, .int .i64 u]] w fun e w' => e = .returned (.int .i64 (wrap64 (wrap64 (p * z) + wrap64 (q * u)))) ∧ ∃ x : Later w, w' = x.out := by
  go_enter Try.func84, Try.ntmps84
  go_wp2_with (fail)
  exact bodyPost_ret (v := .int .i64 (wrap64 (wrap64 (p * z) + wrap64 (q * u)))) (by simp [results, Try.results84, go_sem, *]) rfl ⟨rfl, (Later.mk_of (by repeat (first | (with_reducible assumption) | (with_reducible exact Below.refl _ _) | (with_reducible refine Later.after ?_ _) | (with_reducible refine Later.newer ?_ _) | (with_reducible refine Below.drew ?_) | (with_reducible refine Below.setCell ?_ (by first | exact Nat.le_refl _ | exact Nat.le_add_right _ _ | omega | (simp [go_sem]; done) | (simp [go_sem]; omega)) _))))⟩


set_option maxRecDepth 100000 in
set_option maxHeartbeats 400000 in
theorem ptDot_c0 (p q z u : Int) (w : World) :
    Calls Try.prog 70 #[.agg #[.int .i64 p, .int .i64 q], .agg #[.int .i64 z, .int .i64 u]] w fun e w' => e = .returned (.int .i64 (wrap64 (wrap64 (p * z) + wrap64 (q * u)))) ∧ ∃ x : Later w, w' = x.out := by
  go_enter Try.func70, Try.ntmps70
  go_wp2_with (first | (go_at_call 84; (with_reducible refine (ptDot_p _ _ _ _ _).mono ?_); rintro e _ ⟨rfl, x, rfl⟩))
  exact bodyPost_ret (v := .int .i64 (wrap64 (wrap64 (p * z) + wrap64 (q * u)))) (by simp [results, Try.results70, go_sem, *]) rfl ⟨rfl, (Later.mk_of (by repeat (first | (with_reducible assumption) | (with_reducible exact Below.refl _ _) | (with_reducible refine Later.after ?_ _) | (with_reducible refine Later.newer ?_ _) | (with_reducible refine Below.drew ?_) | (with_reducible refine Below.setCell ?_ (by first | exact Nat.le_refl _ | exact Nat.le_add_right _ _ | omega | (simp [go_sem]; done) | (simp [go_sem]; omega)) _))))⟩


theorem ptDot_c (p q z u : Int) (w : World) :
    Calls Try.prog 70 #[.agg #[.int .i64 p, .int .i64 q], .agg #[.int .i64 z, .int .i64 u]] w fun e w' => e = .returned (.int .i64 (wrap64 (p * z + q * u))) ∧ ∃ x : Later w, w' = x.out := by
  rw [← w64_add]
  exact ptDot_c0 p q z u w


theorem ptDot_r (p q z u : Int) (w : World) :
    Calls Try.prog 44 #[.agg #[.int .i64 p, .int .i64 q], .agg #[.int .i64 z, .int .i64 u]] w fun e w' => e = .returned (.int .i64 (wrap64 (p * z + q * u))) ∧ ∃ x : Later w, w' = x.out := by
  rw [← w64_add]
  exact ptDot_r0 p q z u w


set_option maxRecDepth 100000 in
set_option maxHeartbeats 400000 in
theorem ptSq_0 (p q : Int) (w : World) :
    Calls Try.prog 60 #[.agg #[.int .i64 p, .int .i64 q]] w fun e w' => e = .returned (.int .i64 (wrap64 (wrap64 (p * p) + wrap64 (q * q)))) ∧ ∃ x : Later w, w' = x.out := by
  go_enter Try.func60, Try.ntmps60
  go_wp2_with (fail)
  exact bodyPost_ret (v := .int .i64 (wrap64 (wrap64 (p * p) + wrap64 (q * q)))) (by simp [results, Try.results60, go_sem, *]) rfl ⟨rfl, (Later.mk_of (by repeat (first | (with_reducible assumption) | (with_reducible exact Below.refl _ _) | (with_reducible refine Later.after ?_ _) | (with_reducible refine Later.newer ?_ _) | (with_reducible refine Below.drew ?_) | (with_reducible refine Below.setCell ?_ (by first | exact Nat.le_refl _ | exact Nat.le_add_right _ _ | omega | (simp [go_sem]; done) | (simp [go_sem]; omega)) _))))⟩

end Go.Proofs.Ytcdnekhpeghkiaa

/-
  The contracts of lengths, and of places on a way.
-/
namespace Go.Proofs.Ytcdnekhpeghkiaa
set_option linter.unusedVariables false
open Go.RowKit

/-- a number that is not too far away -/
def btw (n : Int) : Bool := decide (-1073741824 ≤ n) && decide (n ≤ 1073741824)
theorem btw_iff (n : Int) : btw n = true ↔ -1073741824 ≤ n ∧ n ≤ 1073741824 := by unfold btw; simp


set_option maxRecDepth 100000 in
set_option maxHeartbeats 400000 in
theorem ptLen_c0 (p q D r : Int) (w : World)
    (e1 : IntKind.u64.wrap (wrap64 (wrap64 (p * p) + wrap64 (q * q))) = D) (e2 : wrap64 r = r) (c1 : ∀ w', Calls Try.prog 59 #[.int .u64 D] w' fun e w'' => e = .returned (.int .u64 r) ∧ ∃ x : Later w', w'' = x.out) :
    Calls Try.prog 41 #[.agg #[.int .i64 p, .int .i64 q]] w fun e w' => e = .returned (.int .i64 r) ∧ ∃ x : Later w, w' = x.out := by
  have Hc1 := Lib.hid c1; clear c1
  go_enter Try.func41, Try.ntmps41
  go_wp2_with (first | (go_at_call 60; (with_reducible refine (ptSq_0 _ _ _).mono ?_); rintro e _ ⟨rfl, x, rfl⟩) | (go_at_call 59; (with_reducible refine (Hc1.out _).mono ?_); rintro e _ ⟨rfl, x, rfl⟩))
  exact bodyPost_ret (v := .int .i64 r) (by simp [results, Try.results41, go_sem, *]) rfl ⟨rfl, (Later.mk_of (by repeat (first | (with_reducible assumption) | (with_reducible exact Below.refl _ _) | (with_reducible refine Later.after ?_ _) | (with_reducible refine Later.newer ?_ _) | (with_reducible refine Below.drew ?_) | (with_reducible refine Below.setCell ?_ (by first | exact Nat.le_refl _ | exact Nat.le_add_right _ _ | omega | (simp [go_sem]; done) | (simp [go_sem]; omega)) _))))⟩


set_option maxRecDepth 100000 in
set_option maxHeartbeats 400000 in
theorem ptLen_r0 (p q D r : Int) (w : World)
    (e1 : IntKind.u64.wrap (wrap64 (p * p + q * q)) = D) (e2 : wrap64 r = r) (c1 : ∀ w', Calls Try.prog 43 #[.int .u64 D] w' fun e w'' => e = .returned (.int .u64 r) ∧ ∃ x : Later w', w'' = x.out) :
    Calls Try.prog 22 #[.agg #[.int .i64 p, .int .i64 q]] w fun e w' => e = .returned (.int .i64 r) ∧ ∃ x : Later w, w' = x.out := by
  have Hc1 := Lib.hid c1; clear c1
  go_enter Try.func22, Try.ntmps22
  go_wp2_with (first | (go_at_call 44; (with_reducible refine (ptDot_r _ _ _ _ _).mono ?_); rintro e _ ⟨rfl, x, rfl⟩) | (go_at_call 43; (with_reducible refine (Hc1.out _).mono ?_); rintro e _ ⟨rfl, x, rfl⟩))
  exact bodyPost_ret (v := .int .i64 r) (by simp [results, Try.results22, go_sem, *]) rfl ⟨rfl, (Later.mk_of (by repeat (first | (with_reducible assumption) | (with_reducible exact Below.refl _ _) | (with_reducible refine Later.after ?_ _) | (with_reducible refine Later.newer ?_ _) | (with_reducible refine Below.drew ?_) | (with_reducible refine Below.setCell ?_ (by first | exact Nat.le_refl _ | exact Nat.le_add_right _ _ | omega | (simp [go_sem]; done) | (simp [go_sem]; omega)) _))))⟩


set_option maxRecDepth 100000 in
set_option maxHeartbeats 400000 in
theorem scaled_c (p q k n X Y : Int) (w : World)
    (c1 : ∀ w', Calls Try.prog 91 #[.int .i64 p, .int .i64 k, .int .i64 n] w' fun e w'' => e = .returned (.tuple #[.int .i64 X, .int .i64 0]) ∧ ∃ x : Later w', w'' = x.out)(c2 : ∀ w', Calls Try.prog 91 #[.int .i64 q, .int .i64 k, .int .i64 n] w' fun e w'' => e = .returned (.tuple #[.int .i64 Y, .int .i64 0]) ∧ ∃ x : Later w', w'' = x.out) :
    Calls Try.prog 80 #[.agg #[.int .i64 p, .int .i64 q], .int .i64 k, .int .i64 n] w fun e w' => e = .returned (.agg #[.int .i64 X, .int .i64 Y]) ∧ ∃ x : Later w, w' = x.out := by
  have Hc1 := Lib.hid c1; clear c1
  have Hc2 := Lib.hid c2; clear c2
  go_enter Try.func80, Try.ntmps80
  go_wp2_with (first | (go_at_call 91; (with_reducible refine (Hc1.out _).mono ?_); rintro e _ ⟨rfl, x, rfl⟩) | (go_at_call 91; (with_reducible refine (Hc2.out _).mono ?_); rintro e _ ⟨rfl, x, rfl⟩))
  exact bodyPost_ret (v := .agg #[.int .i64 X, .int .i64 Y]) (by simp [results, Try.results80, go_sem, *]) rfl ⟨rfl, (Later.mk_of (by repeat (first | (with_reducible assumption) | (with_reducible exact Below.refl _ _) | (with_reducible refine Later.after ?_ _) | (with_reducible refine Later.newer ?_ _) | (with_reducible refine Below.drew ?_) | (with_reducible refine Below.setCell ?_ (by first | exact Nat.le_refl _ | exact Nat.le_add_right _ _ | omega | (simp [go_sem]; done) | (simp [go_sem]; omega)) _))))⟩


set_option maxRecDepth 100000 in
set_option maxHeartbeats 400000 in
theorem ptAlong_c0 (p q z u k n : Int) (w : World)
    (h : n < 1) :
    Calls Try.prog 57 #[.agg #[.int .i64 p, .int .i64 q], .agg #[.int .i64 z, .int .i64 u], .int .i64 k, .int .i64 n] w fun e w' => e = .returned (.agg #[.int .i64 p, .int .i64 q]) ∧ ∃ x : Later w, w' = x.out := by
  skip
  go_enter Try.func57, Try.ntmps57
  go_wp2_with (fail)
  exact bodyPost_ret (v := .agg #[.int .i64 p, .int .i64 q]) (by simp [results, Try.results57, go_sem, *]) rfl ⟨rfl, (Later.mk_of (by repeat (first | (with_reducible assumption) | (with_reducible exact Below.refl _ _) | (with_reducible refine Later.after ?_ _) | (with_reducible refine Later.newer ?_ _) | (with_reducible refine Below.drew ?_) | (with_reducible refine Below.setCell ?_ (by first | exact Nat.le_refl _ | exact Nat.le_add_right _ _ | omega | (simp [go_sem]; done) | (simp [go_sem]; omega)) _))))⟩


set_option maxRecDepth 100000 in
set_option maxHeartbeats 400000 in
theorem ptAlong_r0 (p q z u k n : Int) (w : World)
    (h : n < 1) :
    Calls Try.prog 86 #[.agg #[.int .i64 p, .int .i64 q], .agg #[.int .i64 z, .int .i64 u], .int .i64 k, .int .i64 n] w fun e w' => e = .returned (.agg #[.int .i64 p, .int .i64 q]) ∧ ∃ x : Later w, w' = x.out := by
  skip
  go_enter Try.func86, Try.ntmps86
  go_wp2_with (fail)
  exact bodyPost_ret (v := .agg #[.int .i64 p, .int .i64 q]) (by simp [results, Try.results86, go_sem, *]) rfl ⟨rfl, (Later.mk_of (by repeat (first | (with_reducible assumption) | (with_reducible exact Below.refl _ _) | (with_reducible refine Later.after ?_ _) | (with_reducible refine Later.newer ?_ _) | (with_reducible refine Below.drew ?_) | (with_reducible refine Below.setCell ?_ (by first | exact Nat.le_refl _ | exact Nat.le_add_right _ _ | omega | (simp [go_sem]; done) | (simp [go_sem]; omega)) _))))⟩

end Go.Proofs.Ytcdnekhpeghkiaa

/-
  The contracts of places on a way.
-/
namespace Go.Proofs.Ytcdnekhpeghkiaa
set_option linter.unusedVariables false
open Go.RowKit


set_option maxRecDepth 100000 in
set_option maxHeartbeats 400000 in
theorem ptAlong_c1 (p q z u k n d f X Y P Q : Int) (w : World)
    (h : 1 ≤ n) (e1 : wrap64 (p + X) = P) (e2 : wrap64 (q + Y) = Q) (c1 : ∀ w', Calls Try.prog 42 #[.agg #[.int .i64 z, .int .i64 u], .agg #[.int .i64 p, .int .i64 q]] w' fun e w'' => e = .returned (.agg #[.int .i64 d, .int .i64 f]) ∧ ∃ x : Later w', w'' = x.out)(c2 : ∀ w', Calls Try.prog 80 #[.agg #[.int .i64 d, .int .i64 f], .int .i64 k, .int .i64 n] w' fun e w'' => e = .returned (.agg #[.int .i64 X, .int .i64 Y]) ∧ ∃ x : Later w', w'' = x.out) :
    Calls Try.prog 57 #[.agg #[.int .i64 p, .int .i64 q], .agg #[.int .i64 z, .int .i64 u], .int .i64 k, .int .i64 n] w fun e w' => e = .returned (.agg #[.int .i64 P, .int .i64 Q]) ∧ ∃ x : Later w, w' = x.out := by
  have Hc1 := Lib.hid c1; clear c1
  have Hc2 := Lib.hid c2; clear c2
  go_enter Try.func57, Try.ntmps57
  go_wp2_with (fail)
  refine wp_region_later_tail 8 (by kernel_rfl) (by kernel_rfl) ?_
  simp only [List.take_succ_cons, List.take_zero, List.drop_succ_cons, List.drop_zero]
  repeat (go_big_quiet_step ((first | (go_at_call 42; with_reducible exact Later.call _ (Hc1.out _)) | (go_at_call 80; with_reducible exact Later.call _ (Hc2.out _)) | (go_at_call 61; with_reducible exact Later.call _ (ptAdd_c _ _ _ _ _)))))
  refine wpQuiet_nil ?_
  intro x
  have g8 : w.heap.size + 1 + 1 < x.out.heap.size := Later.lt x _ (by simp [go_sem])
  go_wp2
  exact bodyPost_ret (v := .agg #[.int .i64 P, .int .i64 Q]) (by simp [results, Try.results57, go_sem, *]) rfl ⟨rfl, (Later.mk_of (by repeat (first | (with_reducible assumption) | (with_reducible exact Below.refl _ _) | (with_reducible refine Later.after ?_ _) | (with_reducible refine Later.newer ?_ _) | (with_reducible refine Below.drew ?_) | (with_reducible refine Below.setCell ?_ (by first | exact Nat.le_refl _ | exact Nat.le_add_right _ _ | omega | (simp [go_sem]; done) | (simp [go_sem]; omega)) _))))⟩


set_option maxRecDepth 100000 in
set_option maxHeartbeats 400000 in
theorem ptAlong_r1 (p q z u k n d f X Y P Q : Int) (w : World)
    (h : 1 ≤ n) (e1 : wrap64 (p + X) = P) (e2 : wrap64 (q + Y) = Q) (e3 : wrap64 (z - p) = d) (e4 : wrap64 (u - q) = f) (c2 : ∀ w', Calls Try.prog 96 #[.int .i64 d, .int .i64 k, .int .i64 n] w' fun e w'' => e = .returned (.tuple #[.int .i64 X, .int .i64 0]) ∧ ∃ x : Later w', w'' = x.out)(c3 : ∀ w', Calls Try.prog 96 #[.int .i64 f, .int .i64 k, .int .i64 n] w' fun e w'' => e = .returned (.tuple #[.int .i64 Y, .int .i64 0]) ∧ ∃ x : Later w', w'' = x.out) :
    Calls Try.prog 86 #[.agg #[.int .i64 p, .int .i64 q], .agg #[.int .i64 z, .int .i64 u], .int .i64 k, .int .i64 n] w fun e w' => e = .returned (.agg #[.int .i64 P, .int .i64 Q]) ∧ ∃ x : Later w, w' = x.out := by
  have Hc2 := Lib.hid c2; clear c2
  have Hc3 := Lib.hid c3; clear c3
  go_enter Try.func86, Try.ntmps86
  go_wp2_with (first | (go_at_call 96; (with_reducible refine (Hc2.out _).mono ?_); rintro e _ ⟨rfl, x, rfl⟩) | (go_at_call 96; (with_reducible refine (Hc3.out _).mono ?_); rintro e _ ⟨rfl, x, rfl⟩))
  exact bodyPost_ret (v := .agg #[.int .i64 P, .int .i64 Q]) (by simp [results, Try.results86, go_sem, *]) rfl ⟨rfl, (Later.mk_of (by repeat (first | (with_reducible assumption) | (with_reducible exact Below.refl _ _) | (with_reducible refine Later.after ?_ _) | (with_reducible refine Later.newer ?_ _) | (with_reducible refine Below.drew ?_) | (with_reducible refine Below.setCell ?_ (by first | exact Nat.le_refl _ | exact Nat.le_add_right _ _ | omega | (simp [go_sem]; done) | (simp [go_sem]; omega)) _))))⟩

end Go.Proofs.Ytcdnekhpeghkiaa

/-
  Lengths of what is near; what the layer shows of itself.
-/
namespace Go.Proofs.Ytcdnekhpeghkiaa
set_option linter.unusedVariables false
open Go.RowKit

/-- squares of what is near -/
theorem near_sq (p : Int) (h1 : -1073741824 ≤ p) (h2 : p ≤ 1073741824) : 0 ≤ p * p ∧ p * p ≤ 1152921504606846976 := by
  have := Int.mul_le_mul_of_natAbs_le (x := p) (y := p) (s := 1073741824) (t := 1073741824) (by omega) (by omega)
  have h0 : 0 ≤ p * p := by
    rcases Int.lt_or_le p 0 with h | h
    · exact Int.mul_nonneg_of_nonpos_of_nonpos (by omega) (by omega)
    · exact Int.mul_nonneg h h
  omega
theorem root_near {D r : Int} (h : IsRoot D r) (hD : D ≤ 2305843009213693952) : r < 1518500250 := root_lt h _ (by omega) (by omega)

theorem ptLen_c (p q r : Int) (w : World) (h1 : -1073741824 ≤ p) (h2 : p ≤ 1073741824) (h3 : -1073741824 ≤ q) (h4 : q ≤ 1073741824) (HR : IsRoot (p * p + q * q) r) : Calls Try.prog 41 #[.agg #[.int .i64 p, .int .i64 q]] w fun e w' => e = .returned (.int .i64 r) ∧ ∃ x : Later w, w' = x.out := by
  have s1 := near_sq p h1 h2
  have s2 := near_sq q h3 h4
  have lt := root_near HR (by omega)
  have r0 := HR.r0
  exact ptLen_c0 p q _ r w (by rw [w64_add, w64_in _ (by unfold R64; omega), IntWalk.u64_in _ (by omega)]) (w64_in _ (by unfold R64; omega)) (fun v => sqrt_c _ r v (by omega) (by omega) HR)
theorem ptLen_r (p q r : Int) (w : World) (h1 : -1073741824 ≤ p) (h2 : p ≤ 1073741824) (h3 : -1073741824 ≤ q) (h4 : q ≤ 1073741824) (HR : IsRoot (p * p + q * q) r) : Calls Try.prog 22 #[.agg #[.int .i64 p, .int .i64 q]] w fun e w' => e = .returned (.int .i64 r) ∧ ∃ x : Later w, w' = x.out := by
  have s1 := near_sq p h1 h2
  have s2 := near_sq q h3 h4
  have lt := root_near HR (by omega)
  have r0 := HR.r0
  exact ptLen_r0 p q _ r w (by rw [w64_in _ (by unfold R64; omega), IntWalk.u64_in _ (by omega)]) (w64_in _ (by unfold R64; omega)) (fun v => sqrt_r _ r v (by omega) (by omega) HR)

end Go.Proofs.Ytcdnekhpeghkiaa

/-
  From a walk that keeps what lay in memory to the row of a law: the last step, and how an argument that is a struct of two numbers is opened and shut.
-/
namespace Go.Proofs.Ytcdnekhpeghkiaa
set_option linter.unusedVariables false
open Go.ChangeShapes Go.WideShapes Go.ChangeAt Go.RowKit Go.Joins Go.Deep

theorem own : ownKnob Try.prog.godebug = none := by kernel_rfl

section
variable {H : Type} {enc : TypeId × Value → H} {P : Program}
/-- the row's last step: nothing that lay in memory has turned -/
theorem post_later {f : Func} {s : ChangeSpec} {apart fresh handsOn again : Bool} {W W' : World} {args : Array Value} {v : Value} {ds gs : List (DataW H)} {before pa : List MemPlace}
    (hW : DataW.Whole enc P f.params.toList s.vars apart W args.toList ds gs before)
    (hres : ∀ (b : Nat) (sp : Nat → Bool) (hd : Bool), DataW.TrodAll enc P W' b sp hd f.resultTypes.toList (v.resultList f.resultTypes.size) (s.fn H (ds ++ gs)).results [])
    (hargs : ∀ sp : Nat → Bool, (∀ p ∈ before, sp p.block = true) → DataW.TrodAll enc P W' 0 sp true f.params.toList args.toList (s.fn H (ds ++ gs)).args pa)
    (hvars : ∀ sp : Nat → Bool, (∀ p ∈ before, sp p.block = true) → DataW.TrodVars enc P W' sp s.vars (s.fn H (ds ++ gs)).vars [])
    (hps : before = pa) (hb : ∃ x : Later W, W' = x.out)
    (hok : ∀ (j : Nat) (t : TypeId) (r : Value), f.resultTypes[j]? = some t → (v.resultList f.resultTypes.size)[j]? = some r → Value.okWide P W' .any 0 t r) :
    s.post enc P f apart fresh handsOn again W args v W' := by
  obtain ⟨x, rfl⟩ := hb
  subst hps
  have old : ∀ p ∈ before, p.block < W.heap.size := fun p hp => hW.lt p hp
  have kept : W.keptBut x.out (fun p => p ∈ before ∧ (p ∈ ([] : List MemPlace) ∨ p ∈ before ++ [])) :=
    World.keptBut_mono (fun p hp => ⟨hp, .inr (by simpa using hp)⟩) (x.below.frame (· ∈ before))
  refine ⟨ds, gs, before, [], before, [], hW, hres _ _ _, hargs (fun b => decide (b < W.heap.size)) (fun p hp => by simpa using old p hp), hvars _ (fun p hp => by simpa using old p hp), World.keptBut_mono (fun p hp => ⟨hp.1, by simpa using hp.1⟩) kept, fun _ => ?_⟩
  obtain ⟨_, _, _, _, _, hz, hn⟩ := hW
  refine ⟨hok, _, _, ([] ++ before) ++ [], ⟨[] ++ before, [], trodAll_append (hargs _ (fun _ _ => rfl)) (hres _ _ _), hvars _ (fun _ _ => rfl), rfl, ?_, ?_⟩, ?_⟩
  · intro b off hp
    have hin : MemPlace.cell b off ∈ before := by simpa using hp
    rw [x.below.frozen (old _ hin)]
    exact hz b off hin
  · intro ha
    have := hn ha
    simpa using this
  · intro p hp _
    simpa using hp

/-- a struct of two numbers, by value: opened -/
theorem open_two {W : World} {r : Reach} {b0 base : Nat} {sp : Nat → Bool} {hd : Bool} {t : TypeId} {f0 f1 : Field} {k0 k1 : IntKind} {v : Value} {d : DataW H} {p : List MemPlace} (hs : P.underlying t = some (.struct #[f0, f1])) (hone : oneCellFields P #[f0, f1] = true) (hC : P.cellsOf t = 2)
    (h0 : P.underlying f0.type = some (.int k0)) (h1 : P.underlying f1.type = some (.int k1))
    (hv : Value.okWide P W r b0 t v) (h : DataW.Trod enc P W base sp hd t v d p) :
    ∃ a b : Int, v = .agg #[.int k0 a, .int k1 b] ∧ d = .agg [.lit (.int k0 a), .lit (.int k1 b)] ∧ p = [] ∧ (Lit.int k0 a).wf = true ∧ (Lit.int k1 b).wf = true := by
  obtain ⟨c0, c1, y0, y1, m, rfl, rfl, rfl, hy0, hy1⟩ := open_agg2 hs hone hC hv h
  obtain ⟨a, e0, rfl, wa⟩ := DataW.trod_int h0 hy0
  obtain ⟨b, e1, rfl, wb⟩ := DataW.trod_int h1 hy1
  simp at e0 e1
  subst e0 e1
  exact ⟨a, b, rfl, rfl, rfl, wa, wb⟩

theorem R64_of {n : Int} (h : (Lit.int .i64 n).wf = true) : R64 n := by have := bounds_i64 h; unfold R64; omega

/-- and shut -/
theorem shut_two {W : World} {base : Nat} {sp : Nat → Bool} {hd : Bool} {t : TypeId} {f0 f1 : Field} {k0 k1 : IntKind} {a b : Int} (hs : P.underlying t = some (.struct #[f0, f1])) (hone : oneCellFields P #[f0, f1] = true) (hC : P.cellsOf t = 2)
    (h0 : P.underlying f0.type = some (.int k0)) (h1 : P.underlying f1.type = some (.int k1)) (wa : (Lit.int k0 a).wf = true) (wb : (Lit.int k1 b).wf = true) :
    DataW.Trod enc P W base sp hd t (.agg #[.int k0 a, .int k1 b]) (.agg [.lit (.int k0 a), .lit (.int k1 b)]) [] :=
  shut_agg2 (y0 := (.lit (.int k0 a), [])) (y1 := (.lit (.int k1 b), [])) hs hone hC ⟨1, by simp [DataW.trod, h0, wa]⟩ ⟨1, by simp [DataW.trod, h1, wb]⟩
end
end Go.Proofs.Ytcdnekhpeghkiaa

/-
  The nearest quotient, in plain words; the place on a way between near points.
-/
namespace Go.Proofs.Ytcdnekhpeghkiaa
set_option linter.unusedVariables false
open Go.RowKit

theorem nrst_eq (n c : Int) (hc : 0 < c) : nrst n c = (2 * n + c) / (2 * c) := by
  have e := Int.mul_ediv_add_emod n c
  have m0 := Int.emod_nonneg n (show c ≠ 0 by omega)
  have m1 := Int.emod_lt_of_pos n hc
  unfold nrst
  generalize n % c = t at *
  generalize n / c = q at *
  have k : 2 * n + c = (2 * t + c) + 2 * c * q := by rw [Int.mul_assoc]; omega
  rw [k, Int.add_mul_ediv_left _ _ (by omega)]
  split
  · have : (2 * t + c) / (2 * c) = 1 := by
      rw [show 2 * t + c = (2 * t - c) + 2 * c * 1 by omega, Int.add_mul_ediv_left _ _ (by omega), Int.ediv_eq_zero_of_lt (by omega) (by omega)]; rfl
    omega
  · rw [Int.ediv_eq_zero_of_lt (by omega) (by omega)]; omega
theorem nrst_mono (m n c : Int) (hc : 0 < c) (h : m ≤ n) : nrst m c ≤ nrst n c := by
  rw [nrst_eq m c hc, nrst_eq n c hc]
  exact Int.ediv_le_ediv (by omega) (by omega)
theorem nrst_mul (d c : Int) (hc : 0 < c) : nrst (d * c) c = d := by
  unfold nrst
  rw [Int.mul_emod_left, Int.mul_ediv_cancel _ (by omega), if_neg (by omega)]
theorem nrst_zero (c : Int) (hc : 0 < c) : nrst 0 c = 0 := by have := nrst_mul 0 c hc; simpa using this
theorem nrst_shift (n d c : Int) (hc : 0 < c) : nrst (n + d * c) c = nrst n c + d := by
  unfold nrst
  rw [Int.add_mul_emod_self_right, Int.add_mul_ediv_right _ _ (by omega)]
  split <;> omega
theorem nrst_pos (n c : Int) (hc : 0 < c) (h : 0 ≤ n) : 0 ≤ nrst n c ∧ nrst n c ≤ n := by
  have a := nrst_mono 0 n c hc h
  rw [nrst_zero c hc] at a
  have b := nrst_mono n (n * c) c hc (by have := Int.mul_le_mul_of_nonneg_left (show 1 ≤ c by omega) h; omega)
  rw [nrst_mul n c hc] at b
  exact ⟨a, b⟩
theorem nrst_neg (n c : Int) (hc : 0 < c) (h : n ≤ 0) : n ≤ nrst n c ∧ nrst n c ≤ 0 := by
  have a := nrst_mono n 0 c hc h
  rw [nrst_zero c hc] at a
  have b := nrst_mono (n * c) n c hc (by have := Int.mul_le_mul_of_nonpos_left h (show 1 ≤ c by omega); omega)
  rw [nrst_mul n c hc] at b
  exact ⟨b, a⟩
/-- the products of a way -/
theorem way_bd (d k : Int) (d0 : -2147483648 ≤ d) (d1 : d ≤ 2147483648) (k0 : -1073741824 ≤ k) (k1 : k ≤ 1073741824) : -2305843009213693952 ≤ d * k ∧ d * k ≤ 2305843009213693952 := by
  have := Int.mul_le_mul_of_natAbs_le (x := d) (y := k) (s := 2147483648) (t := 1073741824) (by omega) (by omega)
  have := Int.mul_le_mul_of_natAbs_le (x := -d) (y := k) (s := 2147483648) (t := 1073741824) (by omega) (by omega)
  rw [Int.neg_mul] at this
  omega
theorem way_nrst (d k n : Int) (hn : 0 < n) (d0 : -2147483648 ≤ d) (d1 : d ≤ 2147483648) (k0 : -1073741824 ≤ k) (k1 : k ≤ 1073741824) : -2305843009213693952 ≤ nrst (d * k) n ∧ nrst (d * k) n ≤ 2305843009213693952 := by
  have w := way_bd d k d0 d1 k0 k1
  rcases Int.le_total 0 (d * k) with h | h
  · have := nrst_pos (d * k) n hn h; omega
  · have := nrst_neg (d * k) n hn h; omega


theorem along_c (p q z u k n : Int) (w : World) (h1 : -1073741824 ≤ p) (h2 : p ≤ 1073741824) (h3 : -1073741824 ≤ q) (h4 : q ≤ 1073741824) (k1 : -1073741824 ≤ z) (k2 : z ≤ 1073741824) (k3 : -1073741824 ≤ u) (k4 : u ≤ 1073741824) (hn : 1 ≤ n) (n9 : n ≤ 9223372036854775807) (k0 : -1073741824 ≤ k) (k9 : k ≤ 1073741824) :
    Calls Try.prog 57 #[.agg #[.int .i64 p, .int .i64 q], .agg #[.int .i64 z, .int .i64 u], .int .i64 k, .int .i64 n] w fun e w' => e = .returned (.agg #[.int .i64 (p + nrst ((z - p) * k) n), .int .i64 (q + nrst ((u - q) * k) n)]) ∧ ∃ x : Later w, w' = x.out := by
  have y1 := way_nrst (z - p) k n (by omega) (by omega) (by omega) k0 k9
  have y2 := way_nrst (u - q) k n (by omega) (by omega) (by omega) k0 k9
  have c1 := fun v => near_c (z - p) k n v (by unfold R64; omega) (by unfold R64; omega) (by omega) n9 (by unfold R64; omega)
  have c2 := fun v => near_c (u - q) k n v (by unfold R64; omega) (by unfold R64; omega) (by omega) n9 (by unfold R64; omega)
  have cs := fun v => ptSub_c z u p q v
  rw [w64_in (z - p) (by unfold R64; omega), w64_in (u - q) (by unfold R64; omega)] at cs
  exact ptAlong_c1 p q z u k n _ _ _ _ _ _ w hn (w64_in _ (by unfold R64; omega)) (w64_in _ (by unfold R64; omega)) cs (fun v => scaled_c _ _ k n _ _ v c1 c2)


theorem along_r (p q z u k n : Int) (w : World) (h1 : -1073741824 ≤ p) (h2 : p ≤ 1073741824) (h3 : -1073741824 ≤ q) (h4 : q ≤ 1073741824) (k1 : -1073741824 ≤ z) (k2 : z ≤ 1073741824) (k3 : -1073741824 ≤ u) (k4 : u ≤ 1073741824) (hn : 1 ≤ n) (n9 : n ≤ 9223372036854775807) (k0 : -1073741824 ≤ k) (k9 : k ≤ 1073741824) :
    Calls Try.prog 86 #[.agg #[.int .i64 p, .int .i64 q], .agg #[.int .i64 z, .int .i64 u], .int .i64 k, .int .i64 n] w fun e w' => e = .returned (.agg #[.int .i64 (p + nrst ((z - p) * k) n), .int .i64 (q + nrst ((u - q) * k) n)]) ∧ ∃ x : Later w, w' = x.out := by
  have y1 := way_nrst (z - p) k n (by omega) (by omega) (by omega) k0 k9
  have y2 := way_nrst (u - q) k n (by omega) (by omega) (by omega) k0 k9
  have c1 := fun v => near_r (z - p) k n v (by unfold R64; omega) (by unfold R64; omega) (by omega) n9 (by unfold R64; omega)
  have c2 := fun v => near_r (u - q) k n v (by unfold R64; omega) (by unfold R64; omega) (by omega) n9 (by unfold R64; omega)
  skip
  skip
  exact ptAlong_r1 p q z u k n _ _ _ _ _ _ w hn (w64_in _ (by unfold R64; omega)) (w64_in _ (by unfold R64; omega)) (w64_in _ (by unfold R64; omega)) (w64_in _ (by unfold R64; omega)) c1 c2

end Go.Proofs.Ytcdnekhpeghkiaa
