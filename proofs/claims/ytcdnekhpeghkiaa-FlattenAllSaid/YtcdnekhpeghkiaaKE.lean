/-
  Texts that stand as one.
-/
import Derived.Test.YtcdnekhpeghkiaaTQ
import Derived.Test.YtcdnekhpeghkiaaT2
import Derived.Test.YtcdnekhpeghkiaaB3
import Derived.Test.YtcdnekhpeghkiaaB4
import Derived.Test.YtcdnekhpeghkiaaB5
import Derived.Test.YtcdnekhpeghkiaaT1
import Derived.Test.YtcdnekhpeghkiaaT3
/-
  A segment's end and halves, by the plain words.
-/
namespace Go.Proofs.Ytcdnekhpeghkiaa
set_option linter.unusedVariables false
open Go.RowKit

theorem mdn_succ : ∀ (k : Nat) (f : Nat → Int), mdn (k + 1) f = md (mdn k f)
  | 0, f => rfl
  | k + 1, f => by show mdn (k + 1) (md f) = _; rw [mdn_succ k (md f)]; rfl
theorem mdn_at (k : Nat) (f : Nat → Int) (i : Nat) : mdn (k + 1) f i = (mdn k f i + mdn k f (i + 1)) / 2 := by rw [mdn_succ]; rfl


theorem end_E (s : En) (g : GoodE s) (w : World) : Calls Try.prog 26 #[.agg #[.int .i64 (s 0), .int .i64 (s 1), .int .i64 (s 2), .int .i64 (s 3), .int .i64 (s 4), .int .i64 (s 5), .int .i64 (s 6), .int .i64 (s 7), .int .i64 (s 8)]] w fun e w' => e = .returned (.agg #[.int .i64 (enP s).1, .int .i64 (enP s).2]) ∧ ∃ x : Later w, w' = x.out := by
  rcases nn_of g with ⟨h, h8⟩ | ⟨h, h8⟩ | ⟨h, h8⟩
  · have c := end_2 (s 0) (s 1) (s 2) (s 3) (s 4) (s 5) (s 6) (s 7) w
    rw [h8]
    simpa [enP, h] using c
  · have c := end_3 (s 0) (s 1) (s 2) (s 3) (s 4) (s 5) (s 6) (s 7) w
    rw [h8]
    simpa [enP, h] using c
  · have c := end_4 (s 0) (s 1) (s 2) (s 3) (s 4) (s 5) (s 6) (s 7) w
    rw [h8]
    simpa [enP, h] using c


theorem halves_E2 (s : En) (g : GoodE s) (h : nn s = 2) (h8 : s 8 = 2) (w : World) : Calls Try.prog 52 #[.agg #[.int .i64 (s 0), .int .i64 (s 1), .int .i64 (s 2), .int .i64 (s 3), .int .i64 (s 4), .int .i64 (s 5), .int .i64 (s 6), .int .i64 (s 7), .int .i64 (s 8)]] w fun e w' => e = .returned (.tuple #[.agg #[.int .i64 (hlfA s 0), .int .i64 (hlfA s 1), .int .i64 (hlfA s 2), .int .i64 (hlfA s 3), .int .i64 (hlfA s 4), .int .i64 (hlfA s 5), .int .i64 (hlfA s 6), .int .i64 (hlfA s 7), .int .i64 (hlfA s 8)], .agg #[.int .i64 (hlfB s 0), .int .i64 (hlfB s 1), .int .i64 (hlfB s 2), .int .i64 (hlfB s 3), .int .i64 (hlfB s 4), .int .i64 (hlfB s 5), .int .i64 (hlfB s 6), .int .i64 (hlfB s 7), .int .i64 (hlfB s 8)]]) ∧ ∃ x : Later w, w' = x.out := by
  have c := halves_2 (mdn 0 (cx s 0) 0) (mdn 0 (cx s 0) 1) (mdn 0 (cx s 0) 2) (mdn 0 (cx s 0) 3) (mdn 1 (cx s 0) 0) (mdn 0 (cx s 1) 0) (mdn 0 (cx s 1) 1) (mdn 0 (cx s 1) 2) (mdn 0 (cx s 1) 3) (mdn 1 (cx s 1) 0) w
    (fun v => by
      have b0 := mdn_bd (a := -268435456) (b := 268435456) 0 2 (cx s 0) (fun j hj => cx_bd g 0 (by omega) j (by omega))
      have b1 := mdn_bd (a := -268435456) (b := 268435456) 0 2 (cx s 1) (fun j hj => cx_bd g 1 (by omega) j (by omega))
      have p0 := b0 0 (by omega)
      have p1 := b0 1 (by omega)
      have q0 := b1 0 (by omega)
      have q1 := b1 1 (by omega)
      have c := mid_c (mdn 0 (cx s 0) 0) (mdn 0 (cx s 1) 0) (mdn 0 (cx s 0) 1) (mdn 0 (cx s 1) 1) v (by omega) (by omega) (by omega) (by omega) (by omega) (by omega) (by omega) (by omega)
      rw [mdn_at 0 (cx s 0) 0, mdn_at 0 (cx s 1) 0]
      exact c)
  simp only [hlfA, hlfB, h, h8] at *
  simpa [mdn, cx] using c


theorem halves_E3 (s : En) (g : GoodE s) (h : nn s = 3) (h8 : s 8 = 3) (w : World) : Calls Try.prog 52 #[.agg #[.int .i64 (s 0), .int .i64 (s 1), .int .i64 (s 2), .int .i64 (s 3), .int .i64 (s 4), .int .i64 (s 5), .int .i64 (s 6), .int .i64 (s 7), .int .i64 (s 8)]] w fun e w' => e = .returned (.tuple #[.agg #[.int .i64 (hlfA s 0), .int .i64 (hlfA s 1), .int .i64 (hlfA s 2), .int .i64 (hlfA s 3), .int .i64 (hlfA s 4), .int .i64 (hlfA s 5), .int .i64 (hlfA s 6), .int .i64 (hlfA s 7), .int .i64 (hlfA s 8)], .agg #[.int .i64 (hlfB s 0), .int .i64 (hlfB s 1), .int .i64 (hlfB s 2), .int .i64 (hlfB s 3), .int .i64 (hlfB s 4), .int .i64 (hlfB s 5), .int .i64 (hlfB s 6), .int .i64 (hlfB s 7), .int .i64 (hlfB s 8)]]) ∧ ∃ x : Later w, w' = x.out := by
  have c := halves_3 (mdn 0 (cx s 0) 0) (mdn 0 (cx s 0) 1) (mdn 0 (cx s 0) 2) (mdn 0 (cx s 0) 3) (mdn 1 (cx s 0) 0) (mdn 1 (cx s 0) 1) (mdn 2 (cx s 0) 0) (mdn 0 (cx s 1) 0) (mdn 0 (cx s 1) 1) (mdn 0 (cx s 1) 2) (mdn 0 (cx s 1) 3) (mdn 1 (cx s 1) 0) (mdn 1 (cx s 1) 1) (mdn 2 (cx s 1) 0) w
    (fun v => by
      have b0 := mdn_bd (a := -268435456) (b := 268435456) 0 2 (cx s 0) (fun j hj => cx_bd g 0 (by omega) j (by omega))
      have b1 := mdn_bd (a := -268435456) (b := 268435456) 0 2 (cx s 1) (fun j hj => cx_bd g 1 (by omega) j (by omega))
      have p0 := b0 0 (by omega)
      have p1 := b0 1 (by omega)
      have q0 := b1 0 (by omega)
      have q1 := b1 1 (by omega)
      have c := mid_c (mdn 0 (cx s 0) 0) (mdn 0 (cx s 1) 0) (mdn 0 (cx s 0) 1) (mdn 0 (cx s 1) 1) v (by omega) (by omega) (by omega) (by omega) (by omega) (by omega) (by omega) (by omega)
      rw [mdn_at 0 (cx s 0) 0, mdn_at 0 (cx s 1) 0]
      exact c)
    (fun v => by
      have b0 := mdn_bd (a := -268435456) (b := 268435456) 0 3 (cx s 0) (fun j hj => cx_bd g 0 (by omega) j (by omega))
      have b1 := mdn_bd (a := -268435456) (b := 268435456) 0 3 (cx s 1) (fun j hj => cx_bd g 1 (by omega) j (by omega))
      have p0 := b0 1 (by omega)
      have p1 := b0 2 (by omega)
      have q0 := b1 1 (by omega)
      have q1 := b1 2 (by omega)
      have c := mid_c (mdn 0 (cx s 0) 1) (mdn 0 (cx s 1) 1) (mdn 0 (cx s 0) 2) (mdn 0 (cx s 1) 2) v (by omega) (by omega) (by omega) (by omega) (by omega) (by omega) (by omega) (by omega)
      rw [mdn_at 0 (cx s 0) 1, mdn_at 0 (cx s 1) 1]
      exact c)
    (fun v => by
      have b0 := mdn_bd (a := -268435456) (b := 268435456) 1 2 (cx s 0) (fun j hj => cx_bd g 0 (by omega) j (by omega))
      have b1 := mdn_bd (a := -268435456) (b := 268435456) 1 2 (cx s 1) (fun j hj => cx_bd g 1 (by omega) j (by omega))
      have p0 := b0 0 (by omega)
      have p1 := b0 1 (by omega)
      have q0 := b1 0 (by omega)
      have q1 := b1 1 (by omega)
      have c := mid_c (mdn 1 (cx s 0) 0) (mdn 1 (cx s 1) 0) (mdn 1 (cx s 0) 1) (mdn 1 (cx s 1) 1) v (by omega) (by omega) (by omega) (by omega) (by omega) (by omega) (by omega) (by omega)
      rw [mdn_at 1 (cx s 0) 0, mdn_at 1 (cx s 1) 0]
      exact c)
  simp only [hlfA, hlfB, h, h8] at *
  simpa [mdn, cx] using c


theorem halves_E4 (s : En) (g : GoodE s) (h : nn s = 4) (h8 : s 8 = 4) (w : World) : Calls Try.prog 52 #[.agg #[.int .i64 (s 0), .int .i64 (s 1), .int .i64 (s 2), .int .i64 (s 3), .int .i64 (s 4), .int .i64 (s 5), .int .i64 (s 6), .int .i64 (s 7), .int .i64 (s 8)]] w fun e w' => e = .returned (.tuple #[.agg #[.int .i64 (hlfA s 0), .int .i64 (hlfA s 1), .int .i64 (hlfA s 2), .int .i64 (hlfA s 3), .int .i64 (hlfA s 4), .int .i64 (hlfA s 5), .int .i64 (hlfA s 6), .int .i64 (hlfA s 7), .int .i64 (hlfA s 8)], .agg #[.int .i64 (hlfB s 0), .int .i64 (hlfB s 1), .int .i64 (hlfB s 2), .int .i64 (hlfB s 3), .int .i64 (hlfB s 4), .int .i64 (hlfB s 5), .int .i64 (hlfB s 6), .int .i64 (hlfB s 7), .int .i64 (hlfB s 8)]]) ∧ ∃ x : Later w, w' = x.out := by
  have c := halves_4 (mdn 0 (cx s 0) 0) (mdn 0 (cx s 0) 1) (mdn 0 (cx s 0) 2) (mdn 0 (cx s 0) 3) (mdn 1 (cx s 0) 0) (mdn 1 (cx s 0) 1) (mdn 1 (cx s 0) 2) (mdn 2 (cx s 0) 0) (mdn 2 (cx s 0) 1) (mdn 3 (cx s 0) 0) (mdn 0 (cx s 1) 0) (mdn 0 (cx s 1) 1) (mdn 0 (cx s 1) 2) (mdn 0 (cx s 1) 3) (mdn 1 (cx s 1) 0) (mdn 1 (cx s 1) 1) (mdn 1 (cx s 1) 2) (mdn 2 (cx s 1) 0) (mdn 2 (cx s 1) 1) (mdn 3 (cx s 1) 0) w
    (fun v => by
      have b0 := mdn_bd (a := -268435456) (b := 268435456) 0 2 (cx s 0) (fun j hj => cx_bd g 0 (by omega) j (by omega))
      have b1 := mdn_bd (a := -268435456) (b := 268435456) 0 2 (cx s 1) (fun j hj => cx_bd g 1 (by omega) j (by omega))
      have p0 := b0 0 (by omega)
      have p1 := b0 1 (by omega)
      have q0 := b1 0 (by omega)
      have q1 := b1 1 (by omega)
      have c := mid_c (mdn 0 (cx s 0) 0) (mdn 0 (cx s 1) 0) (mdn 0 (cx s 0) 1) (mdn 0 (cx s 1) 1) v (by omega) (by omega) (by omega) (by omega) (by omega) (by omega) (by omega) (by omega)
      rw [mdn_at 0 (cx s 0) 0, mdn_at 0 (cx s 1) 0]
      exact c)
    (fun v => by
      have b0 := mdn_bd (a := -268435456) (b := 268435456) 0 3 (cx s 0) (fun j hj => cx_bd g 0 (by omega) j (by omega))
      have b1 := mdn_bd (a := -268435456) (b := 268435456) 0 3 (cx s 1) (fun j hj => cx_bd g 1 (by omega) j (by omega))
      have p0 := b0 1 (by omega)
      have p1 := b0 2 (by omega)
      have q0 := b1 1 (by omega)
      have q1 := b1 2 (by omega)
      have c := mid_c (mdn 0 (cx s 0) 1) (mdn 0 (cx s 1) 1) (mdn 0 (cx s 0) 2) (mdn 0 (cx s 1) 2) v (by omega) (by omega) (by omega) (by omega) (by omega) (by omega) (by omega) (by omega)
      rw [mdn_at 0 (cx s 0) 1, mdn_at 0 (cx s 1) 1]
      exact c)
    (fun v => by
      have b0 := mdn_bd (a := -268435456) (b := 268435456) 0 4 (cx s 0) (fun j hj => cx_bd g 0 (by omega) j (by omega))
      have b1 := mdn_bd (a := -268435456) (b := 268435456) 0 4 (cx s 1) (fun j hj => cx_bd g 1 (by omega) j (by omega))
      have p0 := b0 2 (by omega)
      have p1 := b0 3 (by omega)
      have q0 := b1 2 (by omega)
      have q1 := b1 3 (by omega)
      have c := mid_c (mdn 0 (cx s 0) 2) (mdn 0 (cx s 1) 2) (mdn 0 (cx s 0) 3) (mdn 0 (cx s 1) 3) v (by omega) (by omega) (by omega) (by omega) (by omega) (by omega) (by omega) (by omega)
      rw [mdn_at 0 (cx s 0) 2, mdn_at 0 (cx s 1) 2]
      exact c)
    (fun v => by
      have b0 := mdn_bd (a := -268435456) (b := 268435456) 1 2 (cx s 0) (fun j hj => cx_bd g 0 (by omega) j (by omega))
      have b1 := mdn_bd (a := -268435456) (b := 268435456) 1 2 (cx s 1) (fun j hj => cx_bd g 1 (by omega) j (by omega))
      have p0 := b0 0 (by omega)
      have p1 := b0 1 (by omega)
      have q0 := b1 0 (by omega)
      have q1 := b1 1 (by omega)
      have c := mid_c (mdn 1 (cx s 0) 0) (mdn 1 (cx s 1) 0) (mdn 1 (cx s 0) 1) (mdn 1 (cx s 1) 1) v (by omega) (by omega) (by omega) (by omega) (by omega) (by omega) (by omega) (by omega)
      rw [mdn_at 1 (cx s 0) 0, mdn_at 1 (cx s 1) 0]
      exact c)
    (fun v => by
      have b0 := mdn_bd (a := -268435456) (b := 268435456) 1 3 (cx s 0) (fun j hj => cx_bd g 0 (by omega) j (by omega))
      have b1 := mdn_bd (a := -268435456) (b := 268435456) 1 3 (cx s 1) (fun j hj => cx_bd g 1 (by omega) j (by omega))
      have p0 := b0 1 (by omega)
      have p1 := b0 2 (by omega)
      have q0 := b1 1 (by omega)
      have q1 := b1 2 (by omega)
      have c := mid_c (mdn 1 (cx s 0) 1) (mdn 1 (cx s 1) 1) (mdn 1 (cx s 0) 2) (mdn 1 (cx s 1) 2) v (by omega) (by omega) (by omega) (by omega) (by omega) (by omega) (by omega) (by omega)
      rw [mdn_at 1 (cx s 0) 1, mdn_at 1 (cx s 1) 1]
      exact c)
    (fun v => by
      have b0 := mdn_bd (a := -268435456) (b := 268435456) 2 2 (cx s 0) (fun j hj => cx_bd g 0 (by omega) j (by omega))
      have b1 := mdn_bd (a := -268435456) (b := 268435456) 2 2 (cx s 1) (fun j hj => cx_bd g 1 (by omega) j (by omega))
      have p0 := b0 0 (by omega)
      have p1 := b0 1 (by omega)
      have q0 := b1 0 (by omega)
      have q1 := b1 1 (by omega)
      have c := mid_c (mdn 2 (cx s 0) 0) (mdn 2 (cx s 1) 0) (mdn 2 (cx s 0) 1) (mdn 2 (cx s 1) 1) v (by omega) (by omega) (by omega) (by omega) (by omega) (by omega) (by omega) (by omega)
      rw [mdn_at 2 (cx s 0) 0, mdn_at 2 (cx s 1) 0]
      exact c)
  simp only [hlfA, hlfB, h, h8] at *
  simpa [mdn, cx] using c

end Go.Proofs.Ytcdnekhpeghkiaa

/-
  The halves that wait, and whether a segment is flat, by the plain words.
-/
namespace Go.Proofs.Ytcdnekhpeghkiaa
set_option linter.unusedVariables false
open Go.RowKit


theorem halves_E (s : En) (g : GoodE s) (w : World) : Calls Try.prog 52 #[.agg #[.int .i64 (s 0), .int .i64 (s 1), .int .i64 (s 2), .int .i64 (s 3), .int .i64 (s 4), .int .i64 (s 5), .int .i64 (s 6), .int .i64 (s 7), .int .i64 (s 8)]] w fun e w' => e = .returned (.tuple #[.agg #[.int .i64 (hlfA s 0), .int .i64 (hlfA s 1), .int .i64 (hlfA s 2), .int .i64 (hlfA s 3), .int .i64 (hlfA s 4), .int .i64 (hlfA s 5), .int .i64 (hlfA s 6), .int .i64 (hlfA s 7), .int .i64 (hlfA s 8)], .agg #[.int .i64 (hlfB s 0), .int .i64 (hlfB s 1), .int .i64 (hlfB s 2), .int .i64 (hlfB s 3), .int .i64 (hlfB s 4), .int .i64 (hlfB s 5), .int .i64 (hlfB s 6), .int .i64 (hlfB s 7), .int .i64 (hlfB s 8)]]) ∧ ∃ x : Later w, w' = x.out := by
  rcases nn_of g with ⟨h, h8⟩ | ⟨h, h8⟩ | ⟨h, h8⟩
  · exact halves_E2 s g h h8 w
  · exact halves_E3 s g h h8 w
  · exact halves_E4 s g h h8 w


theorem whalves_E (s : En) (g : GoodE s) (h : s 9 < 10) (w : World) : Calls Try.prog 34 #[.agg #[.int .i64 (s 0), .int .i64 (s 1), .int .i64 (s 2), .int .i64 (s 3), .int .i64 (s 4), .int .i64 (s 5), .int .i64 (s 6), .int .i64 (s 7), .int .i64 (s 8), .int .i64 (s 9)]] w fun e w' => e = .returned (.tuple #[.agg #[.int .i64 (hlfB s 0), .int .i64 (hlfB s 1), .int .i64 (hlfB s 2), .int .i64 (hlfB s 3), .int .i64 (hlfB s 4), .int .i64 (hlfB s 5), .int .i64 (hlfB s 6), .int .i64 (hlfB s 7), .int .i64 (hlfB s 8), .int .i64 (hlfB s 9)], .agg #[.int .i64 (hlfA s 0), .int .i64 (hlfA s 1), .int .i64 (hlfA s 2), .int .i64 (hlfA s 3), .int .i64 (hlfA s 4), .int .i64 (hlfA s 5), .int .i64 (hlfA s 6), .int .i64 (hlfA s 7), .int .i64 (hlfA s 8), .int .i64 (hlfA s 9)]]) ∧ ∃ x : Later w, w' = x.out := by
  have c := fun v => halves_E s g v
  exact whalves_c (s 0) (s 1) (s 2) (s 3) (s 4) (s 5) (s 6) (s 7) (s 8) (hlfA s 0) (hlfA s 1) (hlfA s 2) (hlfA s 3) (hlfA s 4) (hlfA s 5) (hlfA s 6) (hlfA s 7) (hlfA s 8) (hlfB s 0) (hlfB s 1) (hlfB s 2) (hlfB s 3) (hlfB s 4) (hlfB s 5) (hlfB s 6) (hlfB s 7) (hlfB s 8) (s 9) w g.k0 (by omega) c
theorem off_bd (s : En) (g : GoodE s) (c i : Nat) (hc : c < 2) (hi : i < 3) : -4294967296 ≤ offX s c i ∧ offX s c i ≤ 4294967296 ∧ -2147483648 ≤ s c + nrst ((s (2 * (nn s - 1) + c) - s c) * i) (s 8 - 1) ∧ s c + nrst ((s (2 * (nn s - 1) + c) - s c) * i) (s 8 - 1) ≤ 2147483648 := by
  have n4 : nn s ≤ 4 ∧ 2 ≤ nn s := by rcases nn_of g with k | k | k <;> omega
  have h8 : 2 ≤ s 8 ∧ s 8 ≤ 4 := by rcases g.n with k | k | k <;> omega
  have b0 := g.bd c (by omega)
  have b1 := g.bd (2 * (nn s - 1) + c) (by omega)
  have b2 := g.bd (2 * i + c) (by omega)
  have w1 : (s (2 * (nn s - 1) + c) - s c) * i ≤ 1073741824 ∧ -1073741824 ≤ (s (2 * (nn s - 1) + c) - s c) * i := by
    have : i = 0 ∨ i = 1 ∨ i = 2 := by omega
    rcases this with rfl | rfl | rfl <;> omega
  unfold offX
  rcases Int.le_total 0 ((s (2 * (nn s - 1) + c) - s c) * i) with k | k
  · have := nrst_pos _ (s 8 - 1) (by omega) k; omega
  · have := nrst_neg _ (s 8 - 1) (by omega) k; omega


theorem flat_E3 (s : En) (g : GoodE s) (h : nn s = 3) (h8 : s 8 = 3) (t : Int) (t0 : 0 ≤ t) (t9 : t ≤ 4611686018427387904) (w : World) : Calls Try.prog 51 #[.agg #[.int .i64 (s 0), .int .i64 (s 1), .int .i64 (s 2), .int .i64 (s 3), .int .i64 (s 4), .int .i64 (s 5), .int .i64 (s 6), .int .i64 (s 7), .int .i64 (s 8)], .int .i64 t] w fun e w' => e = .returned (.bool (fltB s t)) ∧ ∃ x : Later w, w' = x.out := by
  have g0 := g.bd 0 (by omega)
  have g1 := g.bd 1 (by omega)
  have g2 := g.bd 2 (by omega)
  have g3 := g.bd 3 (by omega)
  have g4 := g.bd 4 (by omega)
  have g5 := g.bd 5 (by omega)
  have g6 := g.bd 6 (by omega)
  have g7 := g.bd 7 (by omega)
  have o1 : (-4294967296 ≤ (s 0 + nrst ((s 4 - s 0) * 1) 2) - s 2 ∧ (s 0 + nrst ((s 4 - s 0) * 1) 2) - s 2 ≤ 4294967296 ∧ -2147483648 ≤ (s 0 + nrst ((s 4 - s 0) * 1) 2) ∧ (s 0 + nrst ((s 4 - s 0) * 1) 2) ≤ 2147483648) := by simpa [offX, h, h8] using off_bd s g 0 1 (by omega) (by omega)
  have q1 : (-4294967296 ≤ (s 1 + nrst ((s 5 - s 1) * 1) 2) - s 3 ∧ (s 1 + nrst ((s 5 - s 1) * 1) 2) - s 3 ≤ 4294967296 ∧ -2147483648 ≤ (s 1 + nrst ((s 5 - s 1) * 1) 2) ∧ (s 1 + nrst ((s 5 - s 1) * 1) 2) ≤ 2147483648) := by simpa [offX, h, h8] using off_bd s g 1 1 (by omega) (by omega)
  have a1 := fun v => along_c (s 0) (s 1) (s 4) (s 5) 1 2 v (by omega) (by omega) (by omega) (by omega) (by omega) (by omega) (by omega) (by omega) (by omega) (by omega) (by omega) (by omega)
  have u1 := fun v => ptSub_c (s 0 + nrst ((s 4 - s 0) * 1) 2) (s 1 + nrst ((s 5 - s 1) * 1) 2) (s 2) (s 3) v
  rw [w64_in ((s 0 + nrst ((s 4 - s 0) * 1) 2) - s 2) (by unfold R64; omega), w64_in ((s 1 + nrst ((s 5 - s 1) * 1) 2) - s 3) (by unfold R64; omega)] at u1
  have d1 := fun v => wi_c ((s 0 + nrst ((s 4 - s 0) * 1) 2) - s 2) t v t0 t9
  have e1 := fun v => wi_c ((s 1 + nrst ((s 5 - s 1) * 1) 2) - s 3) t v t0 t9
  have ef : fltB s t = (wB ((s 0 + nrst ((s 4 - s 0) * 1) 2) - s 2) t && wB ((s 1 + nrst ((s 5 - s 1) * 1) 2) - s 3) t) := by simp [fltB, offX, h, h8]
  rw [ef, h8]
  cases k10 : wB ((s 0 + nrst ((s 4 - s 0) * 1) 2) - s 2) t
  · rw [k10] at d1
    simpa using flat_3n10 (s 0) (s 1) (s 2) (s 3) (s 4) (s 5) (s 6) (s 7) t (s 0 + nrst ((s 4 - s 0) * 1) 2) (s 1 + nrst ((s 5 - s 1) * 1) 2) ((s 0 + nrst ((s 4 - s 0) * 1) 2) - s 2) ((s 1 + nrst ((s 5 - s 1) * 1) 2) - s 3) w a1 u1 d1
  rw [k10] at d1
  cases k11 : wB ((s 1 + nrst ((s 5 - s 1) * 1) 2) - s 3) t
  · rw [k11] at e1
    simpa using flat_3n11 (s 0) (s 1) (s 2) (s 3) (s 4) (s 5) (s 6) (s 7) t (s 0 + nrst ((s 4 - s 0) * 1) 2) (s 1 + nrst ((s 5 - s 1) * 1) 2) ((s 0 + nrst ((s 4 - s 0) * 1) 2) - s 2) ((s 1 + nrst ((s 5 - s 1) * 1) 2) - s 3) w a1 u1 d1 e1
  rw [k11] at e1
  simpa using flat_3y (s 0) (s 1) (s 2) (s 3) (s 4) (s 5) (s 6) (s 7) t (s 0 + nrst ((s 4 - s 0) * 1) 2) (s 1 + nrst ((s 5 - s 1) * 1) 2) ((s 0 + nrst ((s 4 - s 0) * 1) 2) - s 2) ((s 1 + nrst ((s 5 - s 1) * 1) 2) - s 3) w a1 u1 d1 e1


theorem flat_E4 (s : En) (g : GoodE s) (h : nn s = 4) (h8 : s 8 = 4) (t : Int) (t0 : 0 ≤ t) (t9 : t ≤ 4611686018427387904) (w : World) : Calls Try.prog 51 #[.agg #[.int .i64 (s 0), .int .i64 (s 1), .int .i64 (s 2), .int .i64 (s 3), .int .i64 (s 4), .int .i64 (s 5), .int .i64 (s 6), .int .i64 (s 7), .int .i64 (s 8)], .int .i64 t] w fun e w' => e = .returned (.bool (fltB s t)) ∧ ∃ x : Later w, w' = x.out := by
  have g0 := g.bd 0 (by omega)
  have g1 := g.bd 1 (by omega)
  have g2 := g.bd 2 (by omega)
  have g3 := g.bd 3 (by omega)
  have g4 := g.bd 4 (by omega)
  have g5 := g.bd 5 (by omega)
  have g6 := g.bd 6 (by omega)
  have g7 := g.bd 7 (by omega)
  have o1 : (-4294967296 ≤ (s 0 + nrst ((s 6 - s 0) * 1) 3) - s 2 ∧ (s 0 + nrst ((s 6 - s 0) * 1) 3) - s 2 ≤ 4294967296 ∧ -2147483648 ≤ (s 0 + nrst ((s 6 - s 0) * 1) 3) ∧ (s 0 + nrst ((s 6 - s 0) * 1) 3) ≤ 2147483648) := by simpa [offX, h, h8] using off_bd s g 0 1 (by omega) (by omega)
  have q1 : (-4294967296 ≤ (s 1 + nrst ((s 7 - s 1) * 1) 3) - s 3 ∧ (s 1 + nrst ((s 7 - s 1) * 1) 3) - s 3 ≤ 4294967296 ∧ -2147483648 ≤ (s 1 + nrst ((s 7 - s 1) * 1) 3) ∧ (s 1 + nrst ((s 7 - s 1) * 1) 3) ≤ 2147483648) := by simpa [offX, h, h8] using off_bd s g 1 1 (by omega) (by omega)
  have a1 := fun v => along_c (s 0) (s 1) (s 6) (s 7) 1 3 v (by omega) (by omega) (by omega) (by omega) (by omega) (by omega) (by omega) (by omega) (by omega) (by omega) (by omega) (by omega)
  have u1 := fun v => ptSub_c (s 0 + nrst ((s 6 - s 0) * 1) 3) (s 1 + nrst ((s 7 - s 1) * 1) 3) (s 2) (s 3) v
  rw [w64_in ((s 0 + nrst ((s 6 - s 0) * 1) 3) - s 2) (by unfold R64; omega), w64_in ((s 1 + nrst ((s 7 - s 1) * 1) 3) - s 3) (by unfold R64; omega)] at u1
  have d1 := fun v => wi_c ((s 0 + nrst ((s 6 - s 0) * 1) 3) - s 2) t v t0 t9
  have e1 := fun v => wi_c ((s 1 + nrst ((s 7 - s 1) * 1) 3) - s 3) t v t0 t9
  have o2 : (-4294967296 ≤ (s 0 + nrst ((s 6 - s 0) * 2) 3) - s 4 ∧ (s 0 + nrst ((s 6 - s 0) * 2) 3) - s 4 ≤ 4294967296 ∧ -2147483648 ≤ (s 0 + nrst ((s 6 - s 0) * 2) 3) ∧ (s 0 + nrst ((s 6 - s 0) * 2) 3) ≤ 2147483648) := by simpa [offX, h, h8] using off_bd s g 0 2 (by omega) (by omega)
  have q2 : (-4294967296 ≤ (s 1 + nrst ((s 7 - s 1) * 2) 3) - s 5 ∧ (s 1 + nrst ((s 7 - s 1) * 2) 3) - s 5 ≤ 4294967296 ∧ -2147483648 ≤ (s 1 + nrst ((s 7 - s 1) * 2) 3) ∧ (s 1 + nrst ((s 7 - s 1) * 2) 3) ≤ 2147483648) := by simpa [offX, h, h8] using off_bd s g 1 2 (by omega) (by omega)
  have a2 := fun v => along_c (s 0) (s 1) (s 6) (s 7) 2 3 v (by omega) (by omega) (by omega) (by omega) (by omega) (by omega) (by omega) (by omega) (by omega) (by omega) (by omega) (by omega)
  have u2 := fun v => ptSub_c (s 0 + nrst ((s 6 - s 0) * 2) 3) (s 1 + nrst ((s 7 - s 1) * 2) 3) (s 4) (s 5) v
  rw [w64_in ((s 0 + nrst ((s 6 - s 0) * 2) 3) - s 4) (by unfold R64; omega), w64_in ((s 1 + nrst ((s 7 - s 1) * 2) 3) - s 5) (by unfold R64; omega)] at u2
  have d2 := fun v => wi_c ((s 0 + nrst ((s 6 - s 0) * 2) 3) - s 4) t v t0 t9
  have e2 := fun v => wi_c ((s 1 + nrst ((s 7 - s 1) * 2) 3) - s 5) t v t0 t9
  have ef : fltB s t = (wB ((s 0 + nrst ((s 6 - s 0) * 1) 3) - s 2) t && wB ((s 1 + nrst ((s 7 - s 1) * 1) 3) - s 3) t && wB ((s 0 + nrst ((s 6 - s 0) * 2) 3) - s 4) t && wB ((s 1 + nrst ((s 7 - s 1) * 2) 3) - s 5) t) := by simp [fltB, offX, h, h8]
  rw [ef, h8]
  cases k10 : wB ((s 0 + nrst ((s 6 - s 0) * 1) 3) - s 2) t
  · rw [k10] at d1
    simpa using flat_4n10 (s 0) (s 1) (s 2) (s 3) (s 4) (s 5) (s 6) (s 7) t (s 0 + nrst ((s 6 - s 0) * 1) 3) (s 1 + nrst ((s 7 - s 1) * 1) 3) ((s 0 + nrst ((s 6 - s 0) * 1) 3) - s 2) ((s 1 + nrst ((s 7 - s 1) * 1) 3) - s 3) w a1 u1 d1
  rw [k10] at d1
  cases k11 : wB ((s 1 + nrst ((s 7 - s 1) * 1) 3) - s 3) t
  · rw [k11] at e1
    simpa using flat_4n11 (s 0) (s 1) (s 2) (s 3) (s 4) (s 5) (s 6) (s 7) t (s 0 + nrst ((s 6 - s 0) * 1) 3) (s 1 + nrst ((s 7 - s 1) * 1) 3) ((s 0 + nrst ((s 6 - s 0) * 1) 3) - s 2) ((s 1 + nrst ((s 7 - s 1) * 1) 3) - s 3) w a1 u1 d1 e1
  rw [k11] at e1
  cases k20 : wB ((s 0 + nrst ((s 6 - s 0) * 2) 3) - s 4) t
  · rw [k20] at d2
    simpa using flat_4n20 (s 0) (s 1) (s 2) (s 3) (s 4) (s 5) (s 6) (s 7) t (s 0 + nrst ((s 6 - s 0) * 1) 3) (s 1 + nrst ((s 7 - s 1) * 1) 3) ((s 0 + nrst ((s 6 - s 0) * 1) 3) - s 2) ((s 1 + nrst ((s 7 - s 1) * 1) 3) - s 3) (s 0 + nrst ((s 6 - s 0) * 2) 3) (s 1 + nrst ((s 7 - s 1) * 2) 3) ((s 0 + nrst ((s 6 - s 0) * 2) 3) - s 4) ((s 1 + nrst ((s 7 - s 1) * 2) 3) - s 5) w a1 u1 d1 e1 a2 u2 d2
  rw [k20] at d2
  cases k21 : wB ((s 1 + nrst ((s 7 - s 1) * 2) 3) - s 5) t
  · rw [k21] at e2
    simpa using flat_4n21 (s 0) (s 1) (s 2) (s 3) (s 4) (s 5) (s 6) (s 7) t (s 0 + nrst ((s 6 - s 0) * 1) 3) (s 1 + nrst ((s 7 - s 1) * 1) 3) ((s 0 + nrst ((s 6 - s 0) * 1) 3) - s 2) ((s 1 + nrst ((s 7 - s 1) * 1) 3) - s 3) (s 0 + nrst ((s 6 - s 0) * 2) 3) (s 1 + nrst ((s 7 - s 1) * 2) 3) ((s 0 + nrst ((s 6 - s 0) * 2) 3) - s 4) ((s 1 + nrst ((s 7 - s 1) * 2) 3) - s 5) w a1 u1 d1 e1 a2 u2 d2 e2
  rw [k21] at e2
  simpa using flat_4y (s 0) (s 1) (s 2) (s 3) (s 4) (s 5) (s 6) (s 7) t (s 0 + nrst ((s 6 - s 0) * 1) 3) (s 1 + nrst ((s 7 - s 1) * 1) 3) ((s 0 + nrst ((s 6 - s 0) * 1) 3) - s 2) ((s 1 + nrst ((s 7 - s 1) * 1) 3) - s 3) (s 0 + nrst ((s 6 - s 0) * 2) 3) (s 1 + nrst ((s 7 - s 1) * 2) 3) ((s 0 + nrst ((s 6 - s 0) * 2) 3) - s 4) ((s 1 + nrst ((s 7 - s 1) * 2) 3) - s 5) w a1 u1 d1 e1 a2 u2 d2 e2

end Go.Proofs.Ytcdnekhpeghkiaa

/-
  Simple, by the plain words; Points.
-/
namespace Go.Proofs.Ytcdnekhpeghkiaa
set_option linter.unusedVariables false
open Go.RowKit

theorem mul_bd29 (p q : Int) (h1 : -536870912 ≤ p) (h2 : p ≤ 536870912) (h3 : -536870912 ≤ q) (h4 : q ≤ 536870912) : -288230376151711744 ≤ p * q ∧ p * q ≤ 288230376151711744 := by
  have := Int.mul_le_mul_of_natAbs_le (x := p) (y := q) (s := 536870912) (t := 536870912) (by omega) (by omega)
  have := Int.mul_le_mul_of_natAbs_le (x := -p) (y := q) (s := 536870912) (t := 536870912) (by omega) (by omega)
  rw [Int.neg_mul] at this
  omega
theorem sharp_E (p q z u : Int) (w : World) (h1 : -536870912 ≤ p) (h2 : p ≤ 536870912) (h3 : -536870912 ≤ q) (h4 : q ≤ 536870912) (h5 : -536870912 ≤ z) (h6 : z ≤ 536870912) (h7 : -536870912 ≤ u) (h8 : u ≤ 536870912) :
    Calls Try.prog 50 #[.agg #[.int .i64 p, .int .i64 q], .agg #[.int .i64 z, .int .i64 u]] w fun e w' => e = .returned (.bool (decide (p * z + q * u < 0))) ∧ ∃ x : Later w, w' = x.out := by
  have m1 := mul_bd29 p z h1 h2 h5 h6
  have m2 := mul_bd29 q u h3 h4 h7 h8
  have c := fun v => ptDot_c p q z u v
  rw [w64_in (p * z + q * u) (by unfold R64; omega)] at c
  exact sharp_c p q z u _ w c
theorem simple_E (s : En) (g : GoodE s) (t : Int) (t0 : 0 ≤ t) (t9 : t ≤ 4611686018427387904) (w : World) : Calls Try.prog 33 #[.agg #[.int .i64 (s 0), .int .i64 (s 1), .int .i64 (s 2), .int .i64 (s 3), .int .i64 (s 4), .int .i64 (s 5), .int .i64 (s 6), .int .i64 (s 7), .int .i64 (s 8), .int .i64 (s 9)], .int .i64 t] w fun e w' => e = .returned (.bool (smpB t s)) ∧ ∃ x : Later w, w' = x.out := by
  rcases nn_of g with ⟨h, h8⟩ | ⟨h, h8⟩ | ⟨h, h8⟩
  · have es : smpB t s = true := by simp [smpB, h8]
    rw [es, h8]
    exact simple_2 (s 0) (s 1) (s 2) (s 3) (s 4) (s 5) (s 6) (s 7) (s 9) t w
  · by_cases hk : 10 ≤ s 9
    · have es : smpB t s = true := by simp [smpB, hk]
      rw [es, h8]
      exact simple_d3 (s 0) (s 1) (s 2) (s 3) (s 4) (s 5) (s 6) (s 7) (s 9) t w (by simp [hk])
    have g0 := g.bd 0 (by omega)
    have g1 := g.bd 1 (by omega)
    have g2 := g.bd 2 (by omega)
    have g3 := g.bd 3 (by omega)
    have g4 := g.bd 4 (by omega)
    have g5 := g.bd 5 (by omega)
    have g6 := g.bd 6 (by omega)
    have g7 := g.bd 7 (by omega)
    have c1 := fun v => ptSub_c (s 2) (s 3) (s 0) (s 1) v
    have c2 := fun v => ptSub_c (s 4) (s 5) (s 2) (s 3) v
    rw [w64_in (s 2 - s 0) (by unfold R64; omega), w64_in (s 3 - s 1) (by unfold R64; omega)] at c1
    rw [w64_in (s 4 - s 2) (by unfold R64; omega), w64_in (s 5 - s 3) (by unfold R64; omega)] at c2
    have c3 := fun v => sharp_E (s 2 - s 0) (s 3 - s 1) (s 4 - s 2) (s 5 - s 3) v (by omega) (by omega) (by omega) (by omega) (by omega) (by omega) (by omega) (by omega)
    have c4 := fun v => flat_E3 s g h h8 t t0 t9 v
    have eb : shpB s = decide ((s 2 - s 0) * (s 4 - s 2) + (s 3 - s 1) * (s 5 - s 3) < 0) := by simp [shpB, h]
    rw [← eb] at c3
    have hk' : decide (10 ≤ s 9) = false := by simp; omega
    have es : smpB t s = (!shpB s && fltB s t) := by simp [smpB, h8, hk']
    rw [es, h8]
    rw [h8] at c4
    cases hs : shpB s
    · rw [hs] at c3
      simpa using simple_f3 (s 0) (s 1) (s 2) (s 3) (s 4) (s 5) (s 6) (s 7) (s 9) t _ _ _ _ (fltB s t) w hk' c1 c2 c3 c4
    · rw [hs] at c3
      simpa using simple_s3 (s 0) (s 1) (s 2) (s 3) (s 4) (s 5) (s 6) (s 7) (s 9) t _ _ _ _ w hk' c1 c2 c3
  · by_cases hk : 10 ≤ s 9
    · have es : smpB t s = true := by simp [smpB, hk]
      rw [es, h8]
      exact simple_d4 (s 0) (s 1) (s 2) (s 3) (s 4) (s 5) (s 6) (s 7) (s 9) t w (by simp [hk])
    have g0 := g.bd 0 (by omega)
    have g1 := g.bd 1 (by omega)
    have g2 := g.bd 2 (by omega)
    have g3 := g.bd 3 (by omega)
    have g4 := g.bd 4 (by omega)
    have g5 := g.bd 5 (by omega)
    have g6 := g.bd 6 (by omega)
    have g7 := g.bd 7 (by omega)
    have c1 := fun v => ptSub_c (s 2) (s 3) (s 0) (s 1) v
    have c2 := fun v => ptSub_c (s 6) (s 7) (s 4) (s 5) v
    rw [w64_in (s 2 - s 0) (by unfold R64; omega), w64_in (s 3 - s 1) (by unfold R64; omega)] at c1
    rw [w64_in (s 6 - s 4) (by unfold R64; omega), w64_in (s 7 - s 5) (by unfold R64; omega)] at c2
    have c3 := fun v => sharp_E (s 2 - s 0) (s 3 - s 1) (s 6 - s 4) (s 7 - s 5) v (by omega) (by omega) (by omega) (by omega) (by omega) (by omega) (by omega) (by omega)
    have c4 := fun v => flat_E4 s g h h8 t t0 t9 v
    have eb : shpB s = decide ((s 2 - s 0) * (s 6 - s 4) + (s 3 - s 1) * (s 7 - s 5) < 0) := by simp [shpB, h]
    rw [← eb] at c3
    have hk' : decide (10 ≤ s 9) = false := by simp; omega
    have es : smpB t s = (!shpB s && fltB s t) := by simp [smpB, h8, hk']
    rw [es, h8]
    rw [h8] at c4
    cases hs : shpB s
    · rw [hs] at c3
      simpa using simple_f4 (s 0) (s 1) (s 2) (s 3) (s 4) (s 5) (s 6) (s 7) (s 9) t _ _ _ _ (fltB s t) w hk' c1 c2 c3 c4
    · rw [hs] at c3
      simpa using simple_s4 (s 0) (s 1) (s 2) (s 3) (s 4) (s 5) (s 6) (s 7) (s 9) t _ _ _ _ w hk' c1 c2 c3

/-- Points gives the ends of the chords -/
theorem points_E (s : En) (g : GoodE s) (h9 : s 9 = 0) (t : Int) (t0 : 0 ≤ t) (t9 : t ≤ 4611686018427387904) (w : World) :
    Calls Try.prog 14 #[.agg #[.int .i64 (s 0), .int .i64 (s 1), .int .i64 (s 2), .int .i64 (s 3), .int .i64 (s 4), .int .i64 (s 5), .int .i64 (s 6), .int .i64 (s 7), .int .i64 (s 8)], .int .i64 t] w (SliceRet w 23 2 ((flat t).all s).length (fl ((flat t).all s))) :=
  points_c (flat t) t w s g h9 _ rfl (fun e b ge hb w' => by subst hb; exact simple_E e ge t t0 t9 w')
    (fun e ge hs w' => whalves_E e ge (by
      have hs' : smpB t e = false := hs
      unfold smpB at hs'
      simp only [Bool.or_eq_false_iff, decide_eq_false_iff_not] at hs'
      omega) w') (fun e ge w' => end_E e ge w')
end Go.Proofs.Ytcdnekhpeghkiaa

/-
  Flattening, plain laws: how many chords, where the last one ends, and what a shift does.
-/
namespace Go.Proofs.Ytcdnekhpeghkiaa
set_option linter.unusedVariables false

theorem Fl.pts_len (F : Fl) : ∀ (k : Nat) (e : En), 1 ≤ (F.pts k e).length ∧ (F.pts k e).length ≤ lvs k
  | 0, e => by simp [Fl.pts, lvs]
  | k + 1, e => by
    have a := F.pts_len k (F.A e)
    have b := F.pts_len k (F.B e)
    unfold Fl.pts lvs
    split
    · have := lvs_pos k; simp; omega
    · simp; omega
theorem Fl.pts_last (F : Fl) (hB : ∀ e, F.G e → F.smp e = false → F.en (F.B e) = F.en e) : ∀ (k : Nat) (e : En), F.G e → lft e = k → (F.pts k e).getLast? = some (F.en e)
  | 0, e, g, h => by simp [Fl.pts]
  | k + 1, e, g, h => by
    unfold Fl.pts
    split
    · simp
    · rename_i hs
      simp only [Bool.not_eq_true] at hs
      obtain ⟨k', h1, h2, h3, _⟩ := F.lft_no g hs
      have := F.pts_last hB k (F.B e) (F.gB e g hs).1 (by omega)
      rw [List.getLast?_append, this, hB e g hs]
      rfl
theorem enP_B (s : En) (g : GoodE s) : enP (hlfB s) = enP s := by
  rcases nn_of g with ⟨h, h8⟩ | ⟨h, h8⟩ | ⟨h, h8⟩ <;> simp [enP, hlfB, nn, h8, mdn, cx]

/-- a shifted segment -/
def shf (a b : Int) (s : En) : En := fun i => if i < 8 ∧ i / 2 < nn s then s i + (if i % 2 = 0 then a else b) else s i
theorem nn_shf (a b : Int) (s : En) : nn (shf a b s) = nn s := by simp [nn, shf]
theorem mdn_shf {d : Int} : ∀ (k m : Nat) (f f' : Nat → Int), (∀ i, i < m + k → f' i = f i + d) → ∀ i, i < m → mdn k f' i = mdn k f i + d
  | 0, m, f, f', h, i, hi => h i (by omega)
  | k + 1, m, f, f', h, i, hi => mdn_shf k m (md f) (md f') (fun j hj => by
      have h1 := h j (by omega)
      have h2 := h (j + 1) (by omega)
      unfold md
      rw [h1, h2]
      omega) i hi
theorem cx_shf (a b : Int) (s : En) (n4 : nn s ≤ 4) (c : Nat) (hc : c < 2) : ∀ i, i < nn s → cx (shf a b s) c i = cx s c i + (if c = 0 then a else b) := fun i hi => by
  unfold cx shf
  have e1 : (2 * i + c) / 2 = i := by omega
  have e2 : (2 * i + c) % 2 = c := by omega
  rw [if_pos ⟨by omega, by omega⟩, e2]
theorem hlfA_shf (a b : Int) (s : En) (n4 : nn s ≤ 4) : hlfA (shf a b s) = shf a b (hlfA s) := by
  have hn : nn (hlfA s) = nn s := by simp [nn, hlfA]
  funext i
  have s8 : shf a b s 8 = s 8 := by simp [shf]
  have s9 : shf a b s 9 = s 9 := by simp [shf]
  have R : shf a b (hlfA s) i = if i < 8 ∧ i / 2 < nn s then hlfA s i + (if i % 2 = 0 then a else b) else hlfA s i := by unfold shf; rw [hn]
  have L : hlfA (shf a b s) i = if i < 8 then (if i / 2 < nn s then mdn (i / 2) (cx (shf a b s) (i % 2)) (0) else 0) else if i = 8 then s 8 else s 9 + 1 := by unfold hlfA; rw [nn_shf, s8, s9]
  have M : hlfA s i = if i < 8 then (if i / 2 < nn s then mdn (i / 2) (cx s (i % 2)) (0) else 0) else if i = 8 then s 8 else s 9 + 1 := rfl
  rw [R, L, M]
  by_cases h : i < 8
  · by_cases k : i / 2 < nn s
    · rw [if_pos h, if_pos k, if_pos ⟨h, k⟩, if_pos h, if_pos k]
      exact mdn_shf (d := if i % 2 = 0 then a else b) (i / 2) (1) (cx s (i % 2)) (cx (shf a b s) (i % 2)) (fun j hj => cx_shf a b s n4 _ (by omega) j (by omega)) (0) (by omega)
    · rw [if_pos h, if_neg k, if_neg (fun q => k q.2), if_pos h, if_neg k]
  · simp [h]
theorem hlfB_shf (a b : Int) (s : En) (n4 : nn s ≤ 4) : hlfB (shf a b s) = shf a b (hlfB s) := by
  have hn : nn (hlfB s) = nn s := by simp [nn, hlfB]
  funext i
  have s8 : shf a b s 8 = s 8 := by simp [shf]
  have s9 : shf a b s 9 = s 9 := by simp [shf]
  have R : shf a b (hlfB s) i = if i < 8 ∧ i / 2 < nn s then hlfB s i + (if i % 2 = 0 then a else b) else hlfB s i := by unfold shf; rw [hn]
  have L : hlfB (shf a b s) i = if i < 8 then (if i / 2 < nn s then mdn (nn s - 1 - i / 2) (cx (shf a b s) (i % 2)) (i / 2) else 0) else if i = 8 then s 8 else s 9 + 1 := by unfold hlfB; rw [nn_shf, s8, s9]
  have M : hlfB s i = if i < 8 then (if i / 2 < nn s then mdn (nn s - 1 - i / 2) (cx s (i % 2)) (i / 2) else 0) else if i = 8 then s 8 else s 9 + 1 := rfl
  rw [R, L, M]
  by_cases h : i < 8
  · by_cases k : i / 2 < nn s
    · rw [if_pos h, if_pos k, if_pos ⟨h, k⟩, if_pos h, if_pos k]
      exact mdn_shf (d := if i % 2 = 0 then a else b) (nn s - 1 - i / 2) (i / 2 + 1) (cx s (i % 2)) (cx (shf a b s) (i % 2)) (fun j hj => cx_shf a b s n4 _ (by omega) j (by omega)) (i / 2) (by omega)
    · rw [if_pos h, if_neg k, if_neg (fun q => k q.2), if_pos h, if_neg k]
  · simp [h]
theorem shf_pt (a b : Int) (s : En) (n4 : nn s ≤ 4) (j : Nat) (hj : j < nn s) : shf a b s (2 * j) = s (2 * j) + a ∧ shf a b s (2 * j + 1) = s (2 * j + 1) + b := by
  constructor
  · unfold shf
    rw [if_pos ⟨by omega, by omega⟩, if_pos (by omega)]
  · unfold shf
    rw [if_pos ⟨by omega, by omega⟩, if_neg (by omega)]
theorem enP_shf (a b : Int) (s : En) (g : GoodE s) : enP (shf a b s) = ((enP s).1 + a, (enP s).2 + b) := by
  have n4 : nn s ≤ 4 ∧ 2 ≤ nn s := by rcases nn_of g with k | k | k <;> omega
  have := shf_pt a b s n4.1 (nn s - 1) (by omega)
  unfold enP
  rw [nn_shf, this.1, this.2]
theorem smpB_shf (t a b : Int) (s : En) (g : GoodE s) : smpB t (shf a b s) = smpB t s := by
  have n4 : nn s ≤ 4 ∧ 2 ≤ nn s := by rcases nn_of g with k | k | k <;> omega
  have p := fun j hj => shf_pt a b s n4.1 j hj
  have p0 := p 0 (by omega)
  have p1 := p 1 (by omega)
  have pl := p (nn s - 1) (by omega)
  have pk := p (nn s - 2) (by omega)
  simp only [Nat.mul_zero, Nat.zero_add, Nat.mul_one, Nat.reduceAdd] at p0 p1
  have s8 : shf a b s 8 = s 8 := by simp [shf]
  have s9 : shf a b s 9 = s 9 := by simp [shf]
  have sub : ∀ x y d : Int, x + d - (y + d) = x - y := fun x y d => by omega
  have e1 : shpB (shf a b s) = shpB s := by
    unfold shpB
    rw [nn_shf, p0.1, p0.2, p1.1, p1.2, pl.1, pl.2, pk.1, pk.2, sub, sub, sub, sub]
  have o0 : ∀ i, i < nn s → offX (shf a b s) 0 i = offX s 0 i := fun i hi => by
    have pi := p i hi
    unfold offX
    rw [nn_shf, s8, p0.1, Nat.add_zero, Nat.add_zero, pl.1, pi.1, sub]
    omega
  have o1 : ∀ i, i < nn s → offX (shf a b s) 1 i = offX s 1 i := fun i hi => by
    have pi := p i hi
    unfold offX
    rw [nn_shf, s8, p0.2, pl.2, pi.2, sub]
    omega
  have e2 : fltB (shf a b s) t = fltB s t := by
    unfold fltB
    rw [nn_shf]
    rcases nn_of g with k | k | k
    · rw [if_pos k.1, if_pos k.1]
    · rw [if_neg (by omega), if_pos k.1, if_neg (by omega), if_pos k.1, o0 1 (by omega), o1 1 (by omega)]
    · rw [if_neg (by omega), if_neg (by omega), if_neg (by omega), if_neg (by omega), o0 1 (by omega), o1 1 (by omega), o0 2 (by omega), o1 2 (by omega)]
  unfold smpB
  rw [s8, s9, e1, e2]
theorem pts_shf (t a b : Int) : ∀ (k : Nat) (s : En), GoodE s → lft s = k → (flat t).pts k (shf a b s) = ((flat t).pts k s).map fun p => (p.1 + a, p.2 + b)
  | 0, s, g, h => by simp [Fl.pts, flat, enP_shf a b s g]
  | k + 1, s, g, h => by
    have n4 : nn s ≤ 4 := by rcases nn_of g with k | k | k <;> omega
    unfold Fl.pts
    have es : (flat t).smp (shf a b s) = (flat t).smp s := smpB_shf t a b s g
    rw [es]
    cases hs : (flat t).smp s
    · obtain ⟨k', h1, h2, h3, h4⟩ := (flat t).lft_no g hs
      have ga := (flat t).gA s g hs
      have gb := (flat t).gB s g hs
      have i1 := pts_shf t a b k ((flat t).A s) ga.1 (by omega)
      have i2 := pts_shf t a b k ((flat t).B s) gb.1 (by omega)
      have e1 : (flat t).A (shf a b s) = shf a b ((flat t).A s) := hlfA_shf a b s n4
      have e2 : (flat t).B (shf a b s) = shf a b ((flat t).B s) := hlfB_shf a b s n4
      simp [e1, e2, i1, i2]
    · have e1 : (flat t).en (shf a b s) = (((flat t).en s).1 + a, ((flat t).en s).2 + b) := enP_shf a b s g
      simp [e1]
end Go.Proofs.Ytcdnekhpeghkiaa

/-
  Flattening, plain laws: what is asked more of has the ends of what is asked less of among its own; lines; curves of which next to nothing is asked.
-/
namespace Go.Proofs.Ytcdnekhpeghkiaa
set_option linter.unusedVariables false

theorem wB_mono {n a b : Int} (h : a ≤ b) (hw : wB n a = true) : wB n b = true := by
  unfold wB at *
  simp only [Bool.and_eq_true, decide_eq_true_eq] at *
  omega
theorem fltB_mono {e : En} {a b : Int} (h : a ≤ b) (hw : fltB e a = true) : fltB e b = true := by
  unfold fltB at *
  split
  · rfl
  · rename_i h2
    rw [if_neg h2] at hw
    split
    · rename_i h3
      rw [if_pos h3] at hw
      simp only [Bool.and_eq_true] at *
      exact ⟨wB_mono h hw.1, wB_mono h hw.2⟩
    · rename_i h3
      rw [if_neg h3] at hw
      simp only [Bool.and_eq_true] at *
      exact ⟨⟨⟨wB_mono h hw.1.1.1, wB_mono h hw.1.1.2⟩, wB_mono h hw.1.2⟩, wB_mono h hw.2⟩
theorem smpB_mono {e : En} {a b : Int} (h : a ≤ b) (hw : smpB a e = true) : smpB b e = true := by
  unfold smpB at *
  simp only [Bool.or_eq_true, Bool.and_eq_true] at *
  rcases hw with hw | hw
  · exact .inl hw
  · exact .inr ⟨hw.1, fltB_mono h hw.2⟩
theorem flat_last (t : Int) (s : En) (g : GoodE s) : ((flat t).all s).getLast? = some (enP s) :=
  (flat t).pts_last (fun e ge _ => enP_B e ge) (lft s) s g rfl
theorem pts_sub (a b : Int) (h : a ≤ b) : ∀ (k : Nat) (s : En), GoodE s → lft s = k → ((flat b).pts k s).Sublist ((flat a).pts k s)
  | 0, s, g, _ => List.Sublist.refl _
  | k + 1, s, g, hl => by
    cases hb : smpB b s
    · have ha : smpB a s = false := by
        cases ha : smpB a s
        · rfl
        · rw [smpB_mono h ha] at hb; cases hb
      have hb' : (flat b).smp s = false := hb
      have ha' : (flat a).smp s = false := ha
      obtain ⟨k', h1, h2, h3, h4⟩ := (flat a).lft_no g ha'
      have e1 : (flat b).pts (k + 1) s = (flat b).pts k (hlfA s) ++ (flat b).pts k (hlfB s) := by
        rw [Fl.pts]; simp only [hb', Bool.false_eq_true, if_false]; rfl
      have e2 : (flat a).pts (k + 1) s = (flat a).pts k (hlfA s) ++ (flat a).pts k (hlfB s) := by
        rw [Fl.pts]; simp only [ha', Bool.false_eq_true, if_false]; rfl
      rw [e1, e2]
      have ga := ((flat a).gA s g ha').1
      have gb := ((flat a).gB s g ha').1
      have l1 : lft (hlfA s) = k := by have := h2; change lft (hlfA s) = k' at this; omega
      have l2 : lft (hlfB s) = k := by have := h3; change lft (hlfB s) = k' at this; omega
      exact (pts_sub a b h k _ ga l1).append (pts_sub a b h k _ gb l2)
    · have hb' : (flat b).smp s = true := hb
      have e1 : (flat b).pts (k + 1) s = [enP s] := by
        rw [Fl.pts]; simp only [hb', if_true]; rfl
      rw [e1]
      have hl := (flat a).pts_last (fun e ge _ => enP_B e ge) (k + 1) s g hl
      exact List.singleton_sublist.2 (List.mem_of_getLast? hl)
theorem flat_sub (a b : Int) (h : a ≤ b) (s : En) (g : GoodE s) : ((flat b).all s).Sublist ((flat a).all s) := pts_sub a b h _ s g rfl
theorem flat_len (t : Int) (s : En) (g : GoodE s) : 1 ≤ ((flat t).all s).length ∧ ((flat t).all s).length ≤ 1024 := by
  have h := (flat t).pts_len (lft s) s
  have hl : lft s ≤ 10 := by unfold lft; omega
  have : ∀ k, k ≤ 10 → lvs k ≤ 1024 := by decide
  have := this _ hl
  unfold Fl.all
  omega
theorem flat_line (t : Int) (s : En) (h : s 8 = 2) : (flat t).all s = [enP s] :=
  (flat t).all_yes s (by show smpB t s = true; simp [smpB, h])
theorem flat_shf (t a b : Int) (s : En) (g : GoodE s) : (flat t).all (shf a b s) = ((flat t).all s).map fun p => (p.1 + a, p.2 + b) := by
  have hl : lft (shf a b s) = lft s := by simp [lft, shf]
  unfold Fl.all
  rw [hl]
  exact pts_shf t a b _ s g rfl
/-- a curve of three points, half as near, of which next to nothing is asked, and that does not go back -/
theorem flat_rough (s : En) (h8 : s 8 = 3) (hs : shpB s = false) (hb : ∀ i, i < 6 → -134217728 ≤ s i ∧ s i ≤ 134217728) : ((flat 268435456).all s) = [enP s] := by
  refine (flat 268435456).all_yes s ?_
  have hn : nn s = 3 := by simp [nn, h8]
  have b0 := hb 0 (by omega)
  have b1 := hb 1 (by omega)
  have b2 := hb 2 (by omega)
  have b3 := hb 3 (by omega)
  have b4 := hb 4 (by omega)
  have b5 := hb 5 (by omega)
  have key : ∀ x y z : Int, -134217728 ≤ x → x ≤ 134217728 → -134217728 ≤ y → y ≤ 134217728 → -134217728 ≤ z → z ≤ 134217728 → wB (x + nrst ((z - x) * 1) 2 - y) 268435456 = true := by
    intro x y z hx hx' hy hy' hz hz'
    rw [nrst_eq _ 2 (by omega)]
    unfold wB
    simp only [Bool.and_eq_true, decide_eq_true_eq]
    omega
  show smpB 268435456 s = true
  have k0 := key (s 0) (s 2) (s 4) b0.1 b0.2 b2.1 b2.2 b4.1 b4.2
  have k1 := key (s 1) (s 3) (s 5) b1.1 b1.2 b3.1 b3.2 b5.1 b5.2
  simp [smpB, fltB, offX, hs, hn, h8] at *
  simp [k0, k1]
/-- no end of a chord leaves the box -/
theorem enP_bd (s : En) (g : GoodE s) : (-268435456 ≤ (enP s).1 ∧ (enP s).1 ≤ 268435456) ∧ (-268435456 ≤ (enP s).2 ∧ (enP s).2 ≤ 268435456) := by
  have n4 : nn s ≤ 4 ∧ 2 ≤ nn s := by rcases nn_of g with k | k | k <;> omega
  exact ⟨g.bd _ (by omega), g.bd _ (by omega)⟩
theorem pts_bd (t : Int) : ∀ (k : Nat) (s : En), GoodE s → lft s = k → ∀ p ∈ (flat t).pts k s, (-268435456 ≤ p.1 ∧ p.1 ≤ 268435456) ∧ (-268435456 ≤ p.2 ∧ p.2 ≤ 268435456)
  | 0, s, g, _, p, hp => by
    have : p = enP s := by simpa [Fl.pts, flat] using hp
    rw [this]; exact enP_bd s g
  | k + 1, s, g, hl, p, hp => by
    unfold Fl.pts at hp
    cases hs : (flat t).smp s
    · rw [hs] at hp
      obtain ⟨k', h1, h2, h3, h4⟩ := (flat t).lft_no g hs
      have ga := ((flat t).gA s g hs).1
      have gb := ((flat t).gB s g hs).1
      simp only [Bool.false_eq_true, if_false, List.mem_append] at hp
      rcases hp with hp | hp
      · exact pts_bd t k _ ga (by omega) p hp
      · exact pts_bd t k _ gb (by omega) p hp
    · rw [hs] at hp
      have : p = enP s := by simpa [flat] using hp
      rw [this]; exact enP_bd s g
theorem flat_bd (t : Int) (s : En) (g : GoodE s) : ∀ p ∈ (flat t).all s, (-268435456 ≤ p.1 ∧ p.1 ≤ 268435456) ∧ (-268435456 ≤ p.2 ∧ p.2 ≤ 268435456) := pts_bd t _ s g rfl
end Go.Proofs.Ytcdnekhpeghkiaa
