/-
  Where a segment is at so much of its way, its chord and its legs, by plain words.
-/
import Derived.Test.YtdlemjecocmbgaaKE
import Derived.Test.YtdlemjecocmbgaaB8
namespace Go.Proofs.Ytdlemjecocmbgaa
set_option linter.unusedVariables false
open Go.RowKit

def wy (k n : Int) (f : Nat → Int) : Nat → Int := fun i => f i + nrst ((f (i + 1) - f i) * k) n
def wyn (k n : Int) : Nat → (Nat → Int) → Nat → Int
  | 0, f => f
  | j + 1, f => wyn k n j (wy k n f)
theorem wyn_succ (k n : Int) : ∀ (j : Nat) (f : Nat → Int), wyn k n (j + 1) f = wy k n (wyn k n j f)
  | 0, f => rfl
  | j + 1, f => by show wyn k n (j + 1) (wy k n f) = _; rw [wyn_succ k n j (wy k n f)]; rfl
theorem wyn_at (k n : Int) (j : Nat) (f : Nat → Int) (i : Nat) : wyn k n (j + 1) f i = wyn k n j f i + nrst ((wyn k n j f (i + 1) - wyn k n j f i) * k) n := by rw [wyn_succ]; rfl
theorem way_in (p z k n a b : Int) (hn : 1 ≤ n) (k0 : 0 ≤ k) (k1 : k ≤ n) (p0 : a ≤ p) (p1 : p ≤ b) (z0 : a ≤ z) (z1 : z ≤ b) : a ≤ p + nrst ((z - p) * k) n ∧ p + nrst ((z - p) * k) n ≤ b := by
  have e := nrst_mul (z - p) n (by omega)
  have e0 := nrst_zero n (by omega)
  rcases Int.le_total p z with h | h
  · have a := nrst_mono 0 ((z - p) * k) n (by omega) (Int.mul_nonneg (by omega) k0)
    have b := nrst_mono ((z - p) * k) ((z - p) * n) n (by omega) (Int.mul_le_mul_of_nonneg_left k1 (by omega))
    omega
  · have a := nrst_mono ((z - p) * k) 0 n (by omega) (Int.mul_nonpos_of_nonpos_of_nonneg (by omega) k0)
    have b := nrst_mono ((z - p) * n) ((z - p) * k) n (by omega) (Int.mul_le_mul_of_nonpos_left (by omega) k1)
    omega
theorem wy_bd {k n a b : Int} {f : Nat → Int} {m : Nat} (hn : 1 ≤ n) (k0 : 0 ≤ k) (k1 : k ≤ n) (h : ∀ i, i < m + 1 → a ≤ f i ∧ f i ≤ b) : ∀ i, i < m → a ≤ wy k n f i ∧ wy k n f i ≤ b := fun i hi => by
  have h1 := h i (by omega)
  have h2 := h (i + 1) (by omega)
  exact way_in _ _ k n a b hn k0 k1 h1.1 h1.2 h2.1 h2.2
theorem wyn_bd {k n a b : Int} (hn : 1 ≤ n) (k0 : 0 ≤ k) (k1 : k ≤ n) : ∀ (j m : Nat) (f : Nat → Int), (∀ i, i < m + j → a ≤ f i ∧ f i ≤ b) → ∀ i, i < m → a ≤ wyn k n j f i ∧ wyn k n j f i ≤ b
  | 0, m, f, h, i, hi => h i (by omega)
  | j + 1, m, f, h, i, hi => wyn_bd hn k0 k1 j m (wy k n f) (fun q hq => wy_bd (m := m + j) hn k0 k1 (fun q' hq' => h q' (by omega)) q hq) i hi
theorem wyn_shf {k n d : Int} : ∀ (j m : Nat) (f f' : Nat → Int), (∀ i, i < m + j → f' i = f i + d) → ∀ i, i < m → wyn k n j f' i = wyn k n j f i + d
  | 0, m, f, f', h, i, hi => h i (by omega)
  | j + 1, m, f, f', h, i, hi => wyn_shf j m (wy k n f) (wy k n f') (fun q hq => by
      have h1 := h q (by omega)
      have h2 := h (q + 1) (by omega)
      unfold wy
      rw [h1, h2, show f (q + 1) + d - (f q + d) = f (q + 1) - f q by omega]
      omega) i hi
/-- where it is -/
def atE (k n : Int) (s : En) (c : Nat) : Int := wyn k n (nn s - 1) (cx s c) 0
theorem atE_bd (k n : Int) (s : En) (g : GoodE s) (hn : 1 ≤ n) (k0 : 0 ≤ k) (k1 : k ≤ n) (c : Nat) (hc : c < 2) : -268435456 ≤ atE k n s c ∧ atE k n s c ≤ 268435456 := by
  have n4 : nn s ≤ 4 ∧ 2 ≤ nn s := by rcases nn_of g with k | k | k <;> omega
  exact wyn_bd hn k0 k1 (nn s - 1) 1 (cx s c) (fun i hi => cx_bd g c hc i (by omega)) 0 (by omega)
theorem atE_shf (k n a b : Int) (s : En) (g : GoodE s) (c : Nat) (hc : c < 2) : atE k n (shf a b s) c = atE k n s c + (if c = 0 then a else b) := by
  have n4 : nn s ≤ 4 ∧ 2 ≤ nn s := by rcases nn_of g with k | k | k <;> omega
  unfold atE
  rw [nn_shf]
  exact wyn_shf (nn s - 1) 1 (cx s c) (cx (shf a b s) c) (fun i hi => cx_shf a b s n4.1 c hc i (by omega)) 0 (by omega)


theorem at_E2 (s : En) (g : GoodE s) (h : nn s = 2) (h8 : s 8 = 2) (kk nn0 : Int) (hn : 1 ≤ nn0) (n9 : nn0 ≤ 268435456) (k0 : 0 ≤ kk) (k1 : kk ≤ nn0) (w : World) : Calls Try.prog 36 #[.agg #[.int .i64 (s 0), .int .i64 (s 1), .int .i64 (s 2), .int .i64 (s 3), .int .i64 (s 4), .int .i64 (s 5), .int .i64 (s 6), .int .i64 (s 7), .int .i64 (s 8)], .int .i64 kk, .int .i64 nn0] w fun e w' => e = .returned (.agg #[.int .i64 ((atE kk nn0 s 0)), .int .i64 ((atE kk nn0 s 1))]) ∧ ∃ x : Later w, w' = x.out := by
  have c := at_2 (wyn kk nn0 0 (cx s 0) 0) (wyn kk nn0 0 (cx s 0) 1) (wyn kk nn0 0 (cx s 0) 2) (wyn kk nn0 0 (cx s 0) 3) (wyn kk nn0 1 (cx s 0) 0) (wyn kk nn0 0 (cx s 1) 0) (wyn kk nn0 0 (cx s 1) 1) (wyn kk nn0 0 (cx s 1) 2) (wyn kk nn0 0 (cx s 1) 3) (wyn kk nn0 1 (cx s 1) 0) kk nn0 w (by simp; omega)
    (fun v => by
      have b0 := wyn_bd (a := -268435456) (b := 268435456) hn k0 k1 0 2 (cx s 0) (fun j hj => cx_bd g 0 (by omega) j (by omega))
      have b1 := wyn_bd (a := -268435456) (b := 268435456) hn k0 k1 0 2 (cx s 1) (fun j hj => cx_bd g 1 (by omega) j (by omega))
      have p0 := b0 0 (by omega)
      have p1 := b0 1 (by omega)
      have q0 := b1 0 (by omega)
      have q1 := b1 1 (by omega)
      have c := along_c (wyn kk nn0 0 (cx s 0) 0) (wyn kk nn0 0 (cx s 1) 0) (wyn kk nn0 0 (cx s 0) 1) (wyn kk nn0 0 (cx s 1) 1) kk nn0 v (by omega) (by omega) (by omega) (by omega) (by omega) (by omega) (by omega) (by omega) (by omega) (by omega) (by omega) (by omega)
      rw [← wyn_at kk nn0 0 (cx s 0) 0, ← wyn_at kk nn0 0 (cx s 1) 0] at c
      exact c)
  simp only [atE, h, h8] at *
  exact c


theorem at_E3 (s : En) (g : GoodE s) (h : nn s = 3) (h8 : s 8 = 3) (kk nn0 : Int) (hn : 1 ≤ nn0) (n9 : nn0 ≤ 268435456) (k0 : 0 ≤ kk) (k1 : kk ≤ nn0) (w : World) : Calls Try.prog 36 #[.agg #[.int .i64 (s 0), .int .i64 (s 1), .int .i64 (s 2), .int .i64 (s 3), .int .i64 (s 4), .int .i64 (s 5), .int .i64 (s 6), .int .i64 (s 7), .int .i64 (s 8)], .int .i64 kk, .int .i64 nn0] w fun e w' => e = .returned (.agg #[.int .i64 ((atE kk nn0 s 0)), .int .i64 ((atE kk nn0 s 1))]) ∧ ∃ x : Later w, w' = x.out := by
  have c := at_3 (wyn kk nn0 0 (cx s 0) 0) (wyn kk nn0 0 (cx s 0) 1) (wyn kk nn0 0 (cx s 0) 2) (wyn kk nn0 0 (cx s 0) 3) (wyn kk nn0 1 (cx s 0) 0) (wyn kk nn0 1 (cx s 0) 1) (wyn kk nn0 2 (cx s 0) 0) (wyn kk nn0 0 (cx s 1) 0) (wyn kk nn0 0 (cx s 1) 1) (wyn kk nn0 0 (cx s 1) 2) (wyn kk nn0 0 (cx s 1) 3) (wyn kk nn0 1 (cx s 1) 0) (wyn kk nn0 1 (cx s 1) 1) (wyn kk nn0 2 (cx s 1) 0) kk nn0 w (by simp; omega)
    (fun v => by
      have b0 := wyn_bd (a := -268435456) (b := 268435456) hn k0 k1 0 2 (cx s 0) (fun j hj => cx_bd g 0 (by omega) j (by omega))
      have b1 := wyn_bd (a := -268435456) (b := 268435456) hn k0 k1 0 2 (cx s 1) (fun j hj => cx_bd g 1 (by omega) j (by omega))
      have p0 := b0 0 (by omega)
      have p1 := b0 1 (by omega)
      have q0 := b1 0 (by omega)
      have q1 := b1 1 (by omega)
      have c := along_c (wyn kk nn0 0 (cx s 0) 0) (wyn kk nn0 0 (cx s 1) 0) (wyn kk nn0 0 (cx s 0) 1) (wyn kk nn0 0 (cx s 1) 1) kk nn0 v (by omega) (by omega) (by omega) (by omega) (by omega) (by omega) (by omega) (by omega) (by omega) (by omega) (by omega) (by omega)
      rw [← wyn_at kk nn0 0 (cx s 0) 0, ← wyn_at kk nn0 0 (cx s 1) 0] at c
      exact c)
    (fun v => by
      have b0 := wyn_bd (a := -268435456) (b := 268435456) hn k0 k1 0 3 (cx s 0) (fun j hj => cx_bd g 0 (by omega) j (by omega))
      have b1 := wyn_bd (a := -268435456) (b := 268435456) hn k0 k1 0 3 (cx s 1) (fun j hj => cx_bd g 1 (by omega) j (by omega))
      have p0 := b0 1 (by omega)
      have p1 := b0 2 (by omega)
      have q0 := b1 1 (by omega)
      have q1 := b1 2 (by omega)
      have c := along_c (wyn kk nn0 0 (cx s 0) 1) (wyn kk nn0 0 (cx s 1) 1) (wyn kk nn0 0 (cx s 0) 2) (wyn kk nn0 0 (cx s 1) 2) kk nn0 v (by omega) (by omega) (by omega) (by omega) (by omega) (by omega) (by omega) (by omega) (by omega) (by omega) (by omega) (by omega)
      rw [← wyn_at kk nn0 0 (cx s 0) 1, ← wyn_at kk nn0 0 (cx s 1) 1] at c
      exact c)
    (fun v => by
      have b0 := wyn_bd (a := -268435456) (b := 268435456) hn k0 k1 1 2 (cx s 0) (fun j hj => cx_bd g 0 (by omega) j (by omega))
      have b1 := wyn_bd (a := -268435456) (b := 268435456) hn k0 k1 1 2 (cx s 1) (fun j hj => cx_bd g 1 (by omega) j (by omega))
      have p0 := b0 0 (by omega)
      have p1 := b0 1 (by omega)
      have q0 := b1 0 (by omega)
      have q1 := b1 1 (by omega)
      have c := along_c (wyn kk nn0 1 (cx s 0) 0) (wyn kk nn0 1 (cx s 1) 0) (wyn kk nn0 1 (cx s 0) 1) (wyn kk nn0 1 (cx s 1) 1) kk nn0 v (by omega) (by omega) (by omega) (by omega) (by omega) (by omega) (by omega) (by omega) (by omega) (by omega) (by omega) (by omega)
      rw [← wyn_at kk nn0 1 (cx s 0) 0, ← wyn_at kk nn0 1 (cx s 1) 0] at c
      exact c)
  simp only [atE, h, h8] at *
  exact c


theorem at_E4 (s : En) (g : GoodE s) (h : nn s = 4) (h8 : s 8 = 4) (kk nn0 : Int) (hn : 1 ≤ nn0) (n9 : nn0 ≤ 268435456) (k0 : 0 ≤ kk) (k1 : kk ≤ nn0) (w : World) : Calls Try.prog 36 #[.agg #[.int .i64 (s 0), .int .i64 (s 1), .int .i64 (s 2), .int .i64 (s 3), .int .i64 (s 4), .int .i64 (s 5), .int .i64 (s 6), .int .i64 (s 7), .int .i64 (s 8)], .int .i64 kk, .int .i64 nn0] w fun e w' => e = .returned (.agg #[.int .i64 ((atE kk nn0 s 0)), .int .i64 ((atE kk nn0 s 1))]) ∧ ∃ x : Later w, w' = x.out := by
  have c := at_4 (wyn kk nn0 0 (cx s 0) 0) (wyn kk nn0 0 (cx s 0) 1) (wyn kk nn0 0 (cx s 0) 2) (wyn kk nn0 0 (cx s 0) 3) (wyn kk nn0 1 (cx s 0) 0) (wyn kk nn0 1 (cx s 0) 1) (wyn kk nn0 1 (cx s 0) 2) (wyn kk nn0 2 (cx s 0) 0) (wyn kk nn0 2 (cx s 0) 1) (wyn kk nn0 3 (cx s 0) 0) (wyn kk nn0 0 (cx s 1) 0) (wyn kk nn0 0 (cx s 1) 1) (wyn kk nn0 0 (cx s 1) 2) (wyn kk nn0 0 (cx s 1) 3) (wyn kk nn0 1 (cx s 1) 0) (wyn kk nn0 1 (cx s 1) 1) (wyn kk nn0 1 (cx s 1) 2) (wyn kk nn0 2 (cx s 1) 0) (wyn kk nn0 2 (cx s 1) 1) (wyn kk nn0 3 (cx s 1) 0) kk nn0 w (by simp; omega)
    (fun v => by
      have b0 := wyn_bd (a := -268435456) (b := 268435456) hn k0 k1 0 2 (cx s 0) (fun j hj => cx_bd g 0 (by omega) j (by omega))
      have b1 := wyn_bd (a := -268435456) (b := 268435456) hn k0 k1 0 2 (cx s 1) (fun j hj => cx_bd g 1 (by omega) j (by omega))
      have p0 := b0 0 (by omega)
      have p1 := b0 1 (by omega)
      have q0 := b1 0 (by omega)
      have q1 := b1 1 (by omega)
      have c := along_c (wyn kk nn0 0 (cx s 0) 0) (wyn kk nn0 0 (cx s 1) 0) (wyn kk nn0 0 (cx s 0) 1) (wyn kk nn0 0 (cx s 1) 1) kk nn0 v (by omega) (by omega) (by omega) (by omega) (by omega) (by omega) (by omega) (by omega) (by omega) (by omega) (by omega) (by omega)
      rw [← wyn_at kk nn0 0 (cx s 0) 0, ← wyn_at kk nn0 0 (cx s 1) 0] at c
      exact c)
    (fun v => by
      have b0 := wyn_bd (a := -268435456) (b := 268435456) hn k0 k1 0 3 (cx s 0) (fun j hj => cx_bd g 0 (by omega) j (by omega))
      have b1 := wyn_bd (a := -268435456) (b := 268435456) hn k0 k1 0 3 (cx s 1) (fun j hj => cx_bd g 1 (by omega) j (by omega))
      have p0 := b0 1 (by omega)
      have p1 := b0 2 (by omega)
      have q0 := b1 1 (by omega)
      have q1 := b1 2 (by omega)
      have c := along_c (wyn kk nn0 0 (cx s 0) 1) (wyn kk nn0 0 (cx s 1) 1) (wyn kk nn0 0 (cx s 0) 2) (wyn kk nn0 0 (cx s 1) 2) kk nn0 v (by omega) (by omega) (by omega) (by omega) (by omega) (by omega) (by omega) (by omega) (by omega) (by omega) (by omega) (by omega)
      rw [← wyn_at kk nn0 0 (cx s 0) 1, ← wyn_at kk nn0 0 (cx s 1) 1] at c
      exact c)
    (fun v => by
      have b0 := wyn_bd (a := -268435456) (b := 268435456) hn k0 k1 0 4 (cx s 0) (fun j hj => cx_bd g 0 (by omega) j (by omega))
      have b1 := wyn_bd (a := -268435456) (b := 268435456) hn k0 k1 0 4 (cx s 1) (fun j hj => cx_bd g 1 (by omega) j (by omega))
      have p0 := b0 2 (by omega)
      have p1 := b0 3 (by omega)
      have q0 := b1 2 (by omega)
      have q1 := b1 3 (by omega)
      have c := along_c (wyn kk nn0 0 (cx s 0) 2) (wyn kk nn0 0 (cx s 1) 2) (wyn kk nn0 0 (cx s 0) 3) (wyn kk nn0 0 (cx s 1) 3) kk nn0 v (by omega) (by omega) (by omega) (by omega) (by omega) (by omega) (by omega) (by omega) (by omega) (by omega) (by omega) (by omega)
      rw [← wyn_at kk nn0 0 (cx s 0) 2, ← wyn_at kk nn0 0 (cx s 1) 2] at c
      exact c)
    (fun v => by
      have b0 := wyn_bd (a := -268435456) (b := 268435456) hn k0 k1 1 2 (cx s 0) (fun j hj => cx_bd g 0 (by omega) j (by omega))
      have b1 := wyn_bd (a := -268435456) (b := 268435456) hn k0 k1 1 2 (cx s 1) (fun j hj => cx_bd g 1 (by omega) j (by omega))
      have p0 := b0 0 (by omega)
      have p1 := b0 1 (by omega)
      have q0 := b1 0 (by omega)
      have q1 := b1 1 (by omega)
      have c := along_c (wyn kk nn0 1 (cx s 0) 0) (wyn kk nn0 1 (cx s 1) 0) (wyn kk nn0 1 (cx s 0) 1) (wyn kk nn0 1 (cx s 1) 1) kk nn0 v (by omega) (by omega) (by omega) (by omega) (by omega) (by omega) (by omega) (by omega) (by omega) (by omega) (by omega) (by omega)
      rw [← wyn_at kk nn0 1 (cx s 0) 0, ← wyn_at kk nn0 1 (cx s 1) 0] at c
      exact c)
    (fun v => by
      have b0 := wyn_bd (a := -268435456) (b := 268435456) hn k0 k1 1 3 (cx s 0) (fun j hj => cx_bd g 0 (by omega) j (by omega))
      have b1 := wyn_bd (a := -268435456) (b := 268435456) hn k0 k1 1 3 (cx s 1) (fun j hj => cx_bd g 1 (by omega) j (by omega))
      have p0 := b0 1 (by omega)
      have p1 := b0 2 (by omega)
      have q0 := b1 1 (by omega)
      have q1 := b1 2 (by omega)
      have c := along_c (wyn kk nn0 1 (cx s 0) 1) (wyn kk nn0 1 (cx s 1) 1) (wyn kk nn0 1 (cx s 0) 2) (wyn kk nn0 1 (cx s 1) 2) kk nn0 v (by omega) (by omega) (by omega) (by omega) (by omega) (by omega) (by omega) (by omega) (by omega) (by omega) (by omega) (by omega)
      rw [← wyn_at kk nn0 1 (cx s 0) 1, ← wyn_at kk nn0 1 (cx s 1) 1] at c
      exact c)
    (fun v => by
      have b0 := wyn_bd (a := -268435456) (b := 268435456) hn k0 k1 2 2 (cx s 0) (fun j hj => cx_bd g 0 (by omega) j (by omega))
      have b1 := wyn_bd (a := -268435456) (b := 268435456) hn k0 k1 2 2 (cx s 1) (fun j hj => cx_bd g 1 (by omega) j (by omega))
      have p0 := b0 0 (by omega)
      have p1 := b0 1 (by omega)
      have q0 := b1 0 (by omega)
      have q1 := b1 1 (by omega)
      have c := along_c (wyn kk nn0 2 (cx s 0) 0) (wyn kk nn0 2 (cx s 1) 0) (wyn kk nn0 2 (cx s 0) 1) (wyn kk nn0 2 (cx s 1) 1) kk nn0 v (by omega) (by omega) (by omega) (by omega) (by omega) (by omega) (by omega) (by omega) (by omega) (by omega) (by omega) (by omega)
      rw [← wyn_at kk nn0 2 (cx s 0) 0, ← wyn_at kk nn0 2 (cx s 1) 0] at c
      exact c)
  simp only [atE, h, h8] at *
  exact c


theorem at_E (s : En) (g : GoodE s) (kk nn0 : Int) (hn : 1 ≤ nn0) (n9 : nn0 ≤ 268435456) (k0 : 0 ≤ kk) (k1 : kk ≤ nn0) (w : World) : Calls Try.prog 36 #[.agg #[.int .i64 (s 0), .int .i64 (s 1), .int .i64 (s 2), .int .i64 (s 3), .int .i64 (s 4), .int .i64 (s 5), .int .i64 (s 6), .int .i64 (s 7), .int .i64 (s 8)], .int .i64 kk, .int .i64 nn0] w fun e w' => e = .returned (.agg #[.int .i64 ((atE kk nn0 s 0)), .int .i64 ((atE kk nn0 s 1))]) ∧ ∃ x : Later w, w' = x.out := by
  rcases nn_of g with ⟨h, h8⟩ | ⟨h, h8⟩ | ⟨h, h8⟩
  · exact at_E2 s g h h8 kk nn0 hn n9 k0 k1 w
  · exact at_E3 s g h h8 kk nn0 hn n9 k0 k1 w
  · exact at_E4 s g h h8 kk nn0 hn n9 k0 k1 w


set_option maxRecDepth 100000 in
set_option maxHeartbeats 400000 in
theorem apart_c0 (p q z u x y r : Int) (w : World)
    (c1 : ∀ w', Calls Try.prog 17 #[.agg #[.int .i64 z, .int .i64 u], .agg #[.int .i64 p, .int .i64 q]] w' fun e w'' => e = .returned (.agg #[.int .i64 x, .int .i64 y]) ∧ ∃ x : Later w', w'' = x.out) (c2 : ∀ w', Calls Try.prog 12 #[.agg #[.int .i64 x, .int .i64 y]] w' fun e w'' => e = .returned (.int .i64 r) ∧ ∃ x : Later w', w'' = x.out) :
    Calls Try.prog 54 #[.agg #[.int .i64 p, .int .i64 q], .agg #[.int .i64 z, .int .i64 u]] w fun e w' => e = .returned (.int .i64 r) ∧ ∃ x : Later w, w' = x.out := by
  have Hc1 := Lib.hid c1; clear c1
  have Hc2 := Lib.hid c2; clear c2
  go_enter Try.func54, Try.ntmps54
  go_wp2_with (first | (go_at_call 17; (with_reducible refine (Hc1.out _).mono ?_); rintro e _ ⟨rfl, x, rfl⟩) | (go_at_call 12; (with_reducible refine (Hc2.out _).mono ?_); rintro e _ ⟨rfl, x, rfl⟩))
  exact bodyPost_ret (v := .int .i64 r) (by simp [results, Try.results54, go_sem, *]) rfl ⟨rfl, (Later.mk_of (by repeat (first | (with_reducible assumption) | (with_reducible exact Below.refl _ _) | (with_reducible refine Later.after ?_ _) | (with_reducible refine Later.newer ?_ _) | (with_reducible refine Below.drew ?_) | (with_reducible refine Below.setCell ?_ (by first | exact Nat.le_refl _ | exact Nat.le_add_right _ _ | omega | (simp [go_sem]; done) | (simp [go_sem]; omega)) _))))⟩


theorem sq_nn' (x : Int) : 0 ≤ x * x := by
  rcases Int.le_total 0 x with h | h
  · exact Int.mul_nonneg h h
  · exact Int.mul_nonneg_of_nonpos_of_nonpos h h
theorem mul_bd29' (p q : Int) (h1 : -536870912 ≤ p) (h2 : p ≤ 536870912) (h3 : -536870912 ≤ q) (h4 : q ≤ 536870912) : -288230376151711744 ≤ p * q ∧ p * q ≤ 288230376151711744 := by
  have := Int.mul_le_mul_of_natAbs_le (x := p) (y := q) (s := 536870912) (t := 536870912) (by omega) (by omega)
  have := Int.mul_le_mul_of_natAbs_le (x := -p) (y := q) (s := 536870912) (t := 536870912) (by omega) (by omega)
  rw [Int.neg_mul] at this
  omega
theorem enP_bd' (s : En) (g : GoodE s) : (-268435456 ≤ (enP s).1 ∧ (enP s).1 ≤ 268435456) ∧ (-268435456 ≤ (enP s).2 ∧ (enP s).2 ≤ 268435456) := by
  have n4 : nn s ≤ 4 ∧ 2 ≤ nn s := by rcases nn_of g with k | k | k <;> omega
  exact ⟨g.bd _ (by omega), g.bd _ (by omega)⟩
/-- how far it is -/
noncomputable def apt (p q z u : Int) : Int := isq ((z - p) * (z - p) + (u - q) * (u - q))
theorem apt_shf (p q z u a b : Int) : apt (p + a) (q + b) (z + a) (u + b) = apt p q z u := by
  unfold apt
  rw [show z + a - (p + a) = z - p by omega, show u + b - (q + b) = u - q by omega]
theorem apt_bd (p q z u : Int) (h1 : -536870912 ≤ z - p) (h2 : z - p ≤ 536870912) (h3 : -536870912 ≤ u - q) (h4 : u - q ≤ 536870912) : 0 ≤ apt p q z u ∧ apt p q z u ≤ 2147483648 := by
  have m1 := mul_bd29' (z - p) (z - p) h1 h2 h1 h2
  have m2 := mul_bd29' (u - q) (u - q) h3 h4 h3 h4
  have n1 := sq_nn' (z - p)
  have n2 := sq_nn' (u - q)
  have R := isq_is ((z - p) * (z - p) + (u - q) * (u - q)) (by omega)
  refine ⟨R.r0, ?_⟩
  unfold apt
  by_cases h : isq ((z - p) * (z - p) + (u - q) * (u - q)) ≤ 2147483648
  · exact h
  · have lo := R.le
    have := Int.mul_le_mul (show (2147483648 : Int) ≤ isq ((z - p) * (z - p) + (u - q) * (u - q)) by omega) (show (2147483648 : Int) ≤ isq ((z - p) * (z - p) + (u - q) * (u - q)) by omega) (by omega) (by omega)
    omega
theorem apart_c (p q z u : Int) (w : World) (h1 : -536870912 ≤ z - p) (h2 : z - p ≤ 536870912) (h3 : -536870912 ≤ u - q) (h4 : u - q ≤ 536870912) : Calls Try.prog 54 #[.agg #[.int .i64 p, .int .i64 q], .agg #[.int .i64 z, .int .i64 u]] w fun e w' => e = .returned (.int .i64 (apt p q z u)) ∧ ∃ x : Later w, w' = x.out := by
  have n1 := sq_nn' (z - p)
  have n2 := sq_nn' (u - q)
  have c1 := fun v => ptSub_c z u p q v
  rw [w64_in (z - p) (by unfold R64; omega), w64_in (u - q) (by unfold R64; omega)] at c1
  exact apart_c0 p q z u _ _ _ w c1 (fun v => ptLen_c (z - p) (u - q) _ v (by omega) (by omega) (by omega) (by omega) (isq_is _ (by omega)))


set_option maxRecDepth 100000 in
set_option maxHeartbeats 400000 in
theorem chord_2 (x0 y0 x1 y1 x2 y2 x3 y3 z u r : Int) (w : World)
    (c1 : ∀ w', Calls Try.prog 35 #[.agg #[.int .i64 x0, .int .i64 y0, .int .i64 x1, .int .i64 y1, .int .i64 x2, .int .i64 y2, .int .i64 x3, .int .i64 y3, .int .i64 2]] w' fun e w'' => e = .returned (.agg #[.int .i64 z, .int .i64 u]) ∧ ∃ x : Later w', w'' = x.out) (c2 : ∀ w', Calls Try.prog 54 #[.agg #[.int .i64 x0, .int .i64 y0], .agg #[.int .i64 z, .int .i64 u]] w' fun e w'' => e = .returned (.int .i64 r) ∧ ∃ x : Later w', w'' = x.out) :
    Calls Try.prog 39 #[.agg #[.int .i64 x0, .int .i64 y0, .int .i64 x1, .int .i64 y1, .int .i64 x2, .int .i64 y2, .int .i64 x3, .int .i64 y3, .int .i64 2]] w fun e w' => e = .returned (.int .i64 r) ∧ ∃ x : Later w, w' = x.out := by
  have Hc1 := Lib.hid c1; clear c1
  have Hc2 := Lib.hid c2; clear c2
  go_enter Try.func39, Try.ntmps39
  go_wp2
  refine wp_region_later (by kernel_rfl) (by kernel_rfl) ?_
  repeat (go_big_quiet_step ((first | (go_at_call 35; with_reducible exact Later.call _ (Hc1.out _)) | (go_at_call 54; with_reducible exact Later.call _ (Hc2.out _)))))
  refine wpQuiet_nil ?_
  intro x
  go_wp2_with (fail)
  exact bodyPost_ret (v := .int .i64 r) (by simp [results, Try.results39, go_sem, *]) rfl ⟨rfl, (Later.mk_of (by repeat (first | (with_reducible assumption) | (with_reducible exact Below.refl _ _) | (with_reducible refine Later.after ?_ _) | (with_reducible refine Later.newer ?_ _) | (with_reducible refine Below.drew ?_) | (with_reducible refine Below.setCell ?_ (by first | exact Nat.le_refl _ | exact Nat.le_add_right _ _ | omega | (simp [go_sem]; done) | (simp [go_sem]; omega)) _))))⟩


set_option maxRecDepth 100000 in
set_option maxHeartbeats 2000000 in
theorem legs_2 (x0 y0 x1 y1 x2 y2 x3 y3 d1 : Int) (d10 : 0 ≤ d1) (d19 : d1 ≤ 2147483648) (w : World)
    (c1 : ∀ w', Calls Try.prog 54 #[.agg #[.int .i64 x0, .int .i64 y0], .agg #[.int .i64 x1, .int .i64 y1]] w' fun e w'' => e = .returned (.int .i64 d1) ∧ ∃ x : Later w', w'' = x.out) :
    Calls Try.prog 38 #[.agg #[.int .i64 x0, .int .i64 y0, .int .i64 x1, .int .i64 y1, .int .i64 x2, .int .i64 y2, .int .i64 x3, .int .i64 y3, .int .i64 2]] w fun e w' => e = .returned (.int .i64 (d1)) ∧ ∃ x : Later w, w' = x.out := by
  have Hc1 := Lib.hid c1; clear c1
  go_enter Try.func38, Try.ntmps38
  go_wp2
  refine wp_loop_rounds 2 ?_
  rw [rounds_succ]
  go_wp2
  refine wp_region_later (by kernel_rfl) (by kernel_rfl) ?_
  repeat (go_big_quiet_step ((first | (go_at_call 54; with_reducible exact Later.call _ (Hc1.out _)))))
  refine wpQuiet_nil ?_
  intro x
  go_wp2
  rw [rounds_succ]
  go_wp2
  exact bodyPost_ret (v := .int .i64 (d1)) (by simp [results, Try.results38, go_sem, *]) rfl ⟨rfl, (Later.mk_of (by repeat (first | (with_reducible assumption) | (with_reducible exact Below.refl _ _) | (with_reducible refine Later.after ?_ _) | (with_reducible refine Later.newer ?_ _) | (with_reducible refine Below.drew ?_) | (with_reducible refine Below.setCell ?_ (by first | exact Nat.le_refl _ | exact Nat.le_add_right _ _ | omega | (simp [go_sem]; done) | (simp [go_sem]; omega)) _))))⟩


set_option maxRecDepth 100000 in
set_option maxHeartbeats 400000 in
theorem chord_3 (x0 y0 x1 y1 x2 y2 x3 y3 z u r : Int) (w : World)
    (c1 : ∀ w', Calls Try.prog 35 #[.agg #[.int .i64 x0, .int .i64 y0, .int .i64 x1, .int .i64 y1, .int .i64 x2, .int .i64 y2, .int .i64 x3, .int .i64 y3, .int .i64 3]] w' fun e w'' => e = .returned (.agg #[.int .i64 z, .int .i64 u]) ∧ ∃ x : Later w', w'' = x.out) (c2 : ∀ w', Calls Try.prog 54 #[.agg #[.int .i64 x0, .int .i64 y0], .agg #[.int .i64 z, .int .i64 u]] w' fun e w'' => e = .returned (.int .i64 r) ∧ ∃ x : Later w', w'' = x.out) :
    Calls Try.prog 39 #[.agg #[.int .i64 x0, .int .i64 y0, .int .i64 x1, .int .i64 y1, .int .i64 x2, .int .i64 y2, .int .i64 x3, .int .i64 y3, .int .i64 3]] w fun e w' => e = .returned (.int .i64 r) ∧ ∃ x : Later w, w' = x.out := by
  have Hc1 := Lib.hid c1; clear c1
  have Hc2 := Lib.hid c2; clear c2
  go_enter Try.func39, Try.ntmps39
  go_wp2
  refine wp_region_later (by kernel_rfl) (by kernel_rfl) ?_
  repeat (go_big_quiet_step ((first | (go_at_call 35; with_reducible exact Later.call _ (Hc1.out _)) | (go_at_call 54; with_reducible exact Later.call _ (Hc2.out _)))))
  refine wpQuiet_nil ?_
  intro x
  go_wp2_with (fail)
  exact bodyPost_ret (v := .int .i64 r) (by simp [results, Try.results39, go_sem, *]) rfl ⟨rfl, (Later.mk_of (by repeat (first | (with_reducible assumption) | (with_reducible exact Below.refl _ _) | (with_reducible refine Later.after ?_ _) | (with_reducible refine Later.newer ?_ _) | (with_reducible refine Below.drew ?_) | (with_reducible refine Below.setCell ?_ (by first | exact Nat.le_refl _ | exact Nat.le_add_right _ _ | omega | (simp [go_sem]; done) | (simp [go_sem]; omega)) _))))⟩


set_option maxRecDepth 100000 in
set_option maxHeartbeats 2000000 in
theorem legs_3 (x0 y0 x1 y1 x2 y2 x3 y3 d1 d2 : Int) (d10 : 0 ≤ d1) (d19 : d1 ≤ 2147483648) (d20 : 0 ≤ d2) (d29 : d2 ≤ 2147483648) (w : World)
    (c1 : ∀ w', Calls Try.prog 54 #[.agg #[.int .i64 x0, .int .i64 y0], .agg #[.int .i64 x1, .int .i64 y1]] w' fun e w'' => e = .returned (.int .i64 d1) ∧ ∃ x : Later w', w'' = x.out) (c2 : ∀ w', Calls Try.prog 54 #[.agg #[.int .i64 x1, .int .i64 y1], .agg #[.int .i64 x2, .int .i64 y2]] w' fun e w'' => e = .returned (.int .i64 d2) ∧ ∃ x : Later w', w'' = x.out) :
    Calls Try.prog 38 #[.agg #[.int .i64 x0, .int .i64 y0, .int .i64 x1, .int .i64 y1, .int .i64 x2, .int .i64 y2, .int .i64 x3, .int .i64 y3, .int .i64 3]] w fun e w' => e = .returned (.int .i64 (d1 + d2)) ∧ ∃ x : Later w, w' = x.out := by
  have Hc1 := Lib.hid c1; clear c1
  have Hc2 := Lib.hid c2; clear c2
  go_enter Try.func38, Try.ntmps38
  go_wp2
  refine wp_loop_rounds 3 ?_
  rw [rounds_succ]
  go_wp2
  refine wp_region_later (by kernel_rfl) (by kernel_rfl) ?_
  repeat (go_big_quiet_step ((first | (go_at_call 54; with_reducible exact Later.call _ (Hc1.out _)))))
  refine wpQuiet_nil ?_
  intro x
  go_wp2
  rw [rounds_succ]
  go_wp2
  refine wp_region_later (by kernel_rfl) (by kernel_rfl) ?_
  repeat (go_big_quiet_step ((first | (go_at_call 54; with_reducible exact Later.call _ (Hc2.out _)))))
  refine wpQuiet_nil ?_
  intro x
  go_wp2
  rw [rounds_succ]
  go_wp2
  exact bodyPost_ret (v := .int .i64 (d1 + d2)) (by simp [results, Try.results38, go_sem, *]) rfl ⟨rfl, (Later.mk_of (by repeat (first | (with_reducible assumption) | (with_reducible exact Below.refl _ _) | (with_reducible refine Later.after ?_ _) | (with_reducible refine Later.newer ?_ _) | (with_reducible refine Below.drew ?_) | (with_reducible refine Below.setCell ?_ (by first | exact Nat.le_refl _ | exact Nat.le_add_right _ _ | omega | (simp [go_sem]; done) | (simp [go_sem]; omega)) _))))⟩


set_option maxRecDepth 100000 in
set_option maxHeartbeats 400000 in
theorem chord_4 (x0 y0 x1 y1 x2 y2 x3 y3 z u r : Int) (w : World)
    (c1 : ∀ w', Calls Try.prog 35 #[.agg #[.int .i64 x0, .int .i64 y0, .int .i64 x1, .int .i64 y1, .int .i64 x2, .int .i64 y2, .int .i64 x3, .int .i64 y3, .int .i64 4]] w' fun e w'' => e = .returned (.agg #[.int .i64 z, .int .i64 u]) ∧ ∃ x : Later w', w'' = x.out) (c2 : ∀ w', Calls Try.prog 54 #[.agg #[.int .i64 x0, .int .i64 y0], .agg #[.int .i64 z, .int .i64 u]] w' fun e w'' => e = .returned (.int .i64 r) ∧ ∃ x : Later w', w'' = x.out) :
    Calls Try.prog 39 #[.agg #[.int .i64 x0, .int .i64 y0, .int .i64 x1, .int .i64 y1, .int .i64 x2, .int .i64 y2, .int .i64 x3, .int .i64 y3, .int .i64 4]] w fun e w' => e = .returned (.int .i64 r) ∧ ∃ x : Later w, w' = x.out := by
  have Hc1 := Lib.hid c1; clear c1
  have Hc2 := Lib.hid c2; clear c2
  go_enter Try.func39, Try.ntmps39
  go_wp2
  refine wp_region_later (by kernel_rfl) (by kernel_rfl) ?_
  repeat (go_big_quiet_step ((first | (go_at_call 35; with_reducible exact Later.call _ (Hc1.out _)) | (go_at_call 54; with_reducible exact Later.call _ (Hc2.out _)))))
  refine wpQuiet_nil ?_
  intro x
  go_wp2_with (fail)
  exact bodyPost_ret (v := .int .i64 r) (by simp [results, Try.results39, go_sem, *]) rfl ⟨rfl, (Later.mk_of (by repeat (first | (with_reducible assumption) | (with_reducible exact Below.refl _ _) | (with_reducible refine Later.after ?_ _) | (with_reducible refine Later.newer ?_ _) | (with_reducible refine Below.drew ?_) | (with_reducible refine Below.setCell ?_ (by first | exact Nat.le_refl _ | exact Nat.le_add_right _ _ | omega | (simp [go_sem]; done) | (simp [go_sem]; omega)) _))))⟩


set_option maxRecDepth 100000 in
set_option maxHeartbeats 2000000 in
theorem legs_4 (x0 y0 x1 y1 x2 y2 x3 y3 d1 d2 d3 : Int) (d10 : 0 ≤ d1) (d19 : d1 ≤ 2147483648) (d20 : 0 ≤ d2) (d29 : d2 ≤ 2147483648) (d30 : 0 ≤ d3) (d39 : d3 ≤ 2147483648) (w : World)
    (c1 : ∀ w', Calls Try.prog 54 #[.agg #[.int .i64 x0, .int .i64 y0], .agg #[.int .i64 x1, .int .i64 y1]] w' fun e w'' => e = .returned (.int .i64 d1) ∧ ∃ x : Later w', w'' = x.out) (c2 : ∀ w', Calls Try.prog 54 #[.agg #[.int .i64 x1, .int .i64 y1], .agg #[.int .i64 x2, .int .i64 y2]] w' fun e w'' => e = .returned (.int .i64 d2) ∧ ∃ x : Later w', w'' = x.out) (c3 : ∀ w', Calls Try.prog 54 #[.agg #[.int .i64 x2, .int .i64 y2], .agg #[.int .i64 x3, .int .i64 y3]] w' fun e w'' => e = .returned (.int .i64 d3) ∧ ∃ x : Later w', w'' = x.out) :
    Calls Try.prog 38 #[.agg #[.int .i64 x0, .int .i64 y0, .int .i64 x1, .int .i64 y1, .int .i64 x2, .int .i64 y2, .int .i64 x3, .int .i64 y3, .int .i64 4]] w fun e w' => e = .returned (.int .i64 (d1 + d2 + d3)) ∧ ∃ x : Later w, w' = x.out := by
  have Hc1 := Lib.hid c1; clear c1
  have Hc2 := Lib.hid c2; clear c2
  have Hc3 := Lib.hid c3; clear c3
  go_enter Try.func38, Try.ntmps38
  go_wp2
  refine wp_loop_rounds 4 ?_
  rw [rounds_succ]
  go_wp2
  refine wp_region_later (by kernel_rfl) (by kernel_rfl) ?_
  repeat (go_big_quiet_step ((first | (go_at_call 54; with_reducible exact Later.call _ (Hc1.out _)))))
  refine wpQuiet_nil ?_
  intro x
  go_wp2
  rw [rounds_succ]
  go_wp2
  refine wp_region_later (by kernel_rfl) (by kernel_rfl) ?_
  repeat (go_big_quiet_step ((first | (go_at_call 54; with_reducible exact Later.call _ (Hc2.out _)))))
  refine wpQuiet_nil ?_
  intro x
  go_wp2
  rw [rounds_succ]
  go_wp2
  refine wp_region_later (by kernel_rfl) (by kernel_rfl) ?_
  repeat (go_big_quiet_step ((first | (go_at_call 54; with_reducible exact Later.call _ (Hc3.out _)))))
  refine wpQuiet_nil ?_
  intro x
  go_wp2
  rw [rounds_succ]
  go_wp2
  exact bodyPost_ret (v := .int .i64 (d1 + d2 + d3)) (by simp [results, Try.results38, go_sem, *]) rfl ⟨rfl, (Later.mk_of (by repeat (first | (with_reducible assumption) | (with_reducible exact Below.refl _ _) | (with_reducible refine Later.after ?_ _) | (with_reducible refine Later.newer ?_ _) | (with_reducible refine Below.drew ?_) | (with_reducible refine Below.setCell ?_ (by first | exact Nat.le_refl _ | exact Nat.le_add_right _ _ | omega | (simp [go_sem]; done) | (simp [go_sem]; omega)) _))))⟩


noncomputable def chdE (s : En) : Int := apt (s 0) (s 1) (enP s).1 (enP s).2
noncomputable def lgsE (s : En) : Int :=
  if nn s = 2 then apt (s 0) (s 1) (s 2) (s 3) else if nn s = 3 then apt (s 0) (s 1) (s 2) (s 3) + apt (s 2) (s 3) (s 4) (s 5)
  else apt (s 0) (s 1) (s 2) (s 3) + apt (s 2) (s 3) (s 4) (s 5) + apt (s 4) (s 5) (s 6) (s 7)
theorem chord_E (s : En) (g : GoodE s) (w : World) : Calls Try.prog 39 #[.agg #[.int .i64 (s 0), .int .i64 (s 1), .int .i64 (s 2), .int .i64 (s 3), .int .i64 (s 4), .int .i64 (s 5), .int .i64 (s 6), .int .i64 (s 7), .int .i64 (s 8)]] w fun e w' => e = .returned (.int .i64 (chdE s)) ∧ ∃ x : Later w, w' = x.out := by
  have b0 := g.bd 0 (by omega)
  have b1 := g.bd 1 (by omega)
  have b := enP_bd' s g
  have c1 := fun v => end_E s g v
  have c2 := fun v => apart_c (s 0) (s 1) (enP s).1 (enP s).2 v (by omega) (by omega) (by omega) (by omega)
  unfold chdE
  rcases nn_of g with ⟨h, h8⟩ | ⟨h, h8⟩ | ⟨h, h8⟩ <;> rw [h8] at c1 ⊢
  · exact chord_2 (s 0) (s 1) (s 2) (s 3) (s 4) (s 5) (s 6) (s 7) _ _ _ w c1 c2
  · exact chord_3 (s 0) (s 1) (s 2) (s 3) (s 4) (s 5) (s 6) (s 7) _ _ _ w c1 c2
  · exact chord_4 (s 0) (s 1) (s 2) (s 3) (s 4) (s 5) (s 6) (s 7) _ _ _ w c1 c2
theorem legs_E (s : En) (g : GoodE s) (w : World) : Calls Try.prog 38 #[.agg #[.int .i64 (s 0), .int .i64 (s 1), .int .i64 (s 2), .int .i64 (s 3), .int .i64 (s 4), .int .i64 (s 5), .int .i64 (s 6), .int .i64 (s 7), .int .i64 (s 8)]] w fun e w' => e = .returned (.int .i64 (lgsE s)) ∧ ∃ x : Later w, w' = x.out := by
  have g0 := g.bd 0 (by omega)
  have g1 := g.bd 1 (by omega)
  have g2 := g.bd 2 (by omega)
  have g3 := g.bd 3 (by omega)
  have g4 := g.bd 4 (by omega)
  have g5 := g.bd 5 (by omega)
  have g6 := g.bd 6 (by omega)
  have g7 := g.bd 7 (by omega)
  have c1 := fun v => apart_c (s 0) (s 1) (s 2) (s 3) v (by omega) (by omega) (by omega) (by omega)
  have a1 := apt_bd (s 0) (s 1) (s 2) (s 3) (by omega) (by omega) (by omega) (by omega)
  have c2 := fun v => apart_c (s 2) (s 3) (s 4) (s 5) v (by omega) (by omega) (by omega) (by omega)
  have a2 := apt_bd (s 2) (s 3) (s 4) (s 5) (by omega) (by omega) (by omega) (by omega)
  have c3 := fun v => apart_c (s 4) (s 5) (s 6) (s 7) v (by omega) (by omega) (by omega) (by omega)
  have a3 := apt_bd (s 4) (s 5) (s 6) (s 7) (by omega) (by omega) (by omega) (by omega)
  unfold lgsE
  rcases nn_of g with ⟨h, h8⟩ | ⟨h, h8⟩ | ⟨h, h8⟩ <;> rw [h, h8]
  · exact legs_2 (s 0) (s 1) (s 2) (s 3) (s 4) (s 5) (s 6) (s 7) _ a1.1 a1.2 w c1
  · exact legs_3 (s 0) (s 1) (s 2) (s 3) (s 4) (s 5) (s 6) (s 7) _ _ a1.1 a1.2 a2.1 a2.2 w c1 c2
  · exact legs_4 (s 0) (s 1) (s 2) (s 3) (s 4) (s 5) (s 6) (s 7) _ _ _ a1.1 a1.2 a2.1 a2.2 a3.1 a3.2 w c1 c2 c3
theorem chdE_shf (a b : Int) (s : En) (g : GoodE s) : chdE (shf a b s) = chdE s := by
  have n4 : nn s ≤ 4 ∧ 2 ≤ nn s := by rcases nn_of g with k | k | k <;> omega
  have p0 := shf_pt a b s n4.1 0 (by omega)
  simp only [Nat.mul_zero, Nat.zero_add] at p0
  unfold chdE
  rw [enP_shf a b s g, p0.1, p0.2]
  exact apt_shf _ _ _ _ a b
theorem lgsE_shf (a b : Int) (s : En) (g : GoodE s) : lgsE (shf a b s) = lgsE s := by
  have p := fun j hj => shf_pt a b s (by rcases nn_of g with k | k | k <;> omega) j hj
  unfold lgsE
  rw [nn_shf]
  rcases nn_of g with ⟨h, h8⟩ | ⟨h, h8⟩ | ⟨h, h8⟩
  all_goals
    rw [h] at p ⊢
    have p0 := p 0 (by omega)
    have p1 := p 1 (by omega)
    simp only [Nat.mul_zero, Nat.zero_add, Nat.mul_one, Nat.reduceAdd, Nat.reduceMul] at p0 p1
  · simp only [if_true]
    rw [p0.1, p0.2, p1.1, p1.2, apt_shf]
  · have p2 := p 2 (by omega)
    simp only [Nat.reduceAdd, Nat.reduceMul] at p2
    simp only [Nat.reduceEqDiff, if_true, if_false]
    rw [p0.1, p0.2, p1.1, p1.2, p2.1, p2.2, apt_shf, apt_shf]
  · have p2 := p 2 (by omega)
    have p3 := p 3 (by omega)
    simp only [Nat.reduceAdd, Nat.reduceMul] at p2 p3
    simp only [Nat.reduceEqDiff, if_false]
    rw [p0.1, p0.2, p1.1, p1.2, p2.1, p2.2, p3.1, p3.2, apt_shf, apt_shf, apt_shf]
end Go.Proofs.Ytdlemjecocmbgaa
