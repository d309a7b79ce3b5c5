/-
  Flattening, in plain words: a segment's points as numbers, its halves, when it is simple.
-/
import Derived.Test.YtcdnekhpeghkiaaTP
import Derived.Test.YtcdnekhpeghkiaaB6
namespace Go.Proofs.Ytcdnekhpeghkiaa
set_option linter.unusedVariables false

def md (f : Nat → Int) : Nat → Int := fun i => (f i + f (i + 1)) / 2
def mdn : Nat → (Nat → Int) → Nat → Int
  | 0, f => f
  | k + 1, f => mdn k (md f)
/-- the coordinates c of a segment's points -/
def cx (e : En) (c : Nat) : Nat → Int := fun i => e (2 * i + c)
def nn (e : En) : Nat := (e 8).toNat
def hlfA (e : En) : En := fun i => if i < 8 then (if i / 2 < nn e then mdn (i / 2) (cx e (i % 2)) 0 else 0) else if i = 8 then e 8 else e 9 + 1
def hlfB (e : En) : En := fun i => if i < 8 then (if i / 2 < nn e then mdn (nn e - 1 - i / 2) (cx e (i % 2)) (i / 2) else 0) else if i = 8 then e 8 else e 9 + 1
def enP (e : En) : Int × Int := (e (2 * (nn e - 1)), e (2 * (nn e - 1) + 1))
/-- a turn back: between the first leg and the last one -/
def shpB (e : En) : Bool := decide ((e 2 - e 0) * (e (2 * (nn e - 1)) - e (2 * (nn e - 2))) + (e 3 - e 1) * (e (2 * (nn e - 1) + 1) - e (2 * (nn e - 2) + 1)) < 0)
/-- a place on the way from the first to the last point, less the point there -/
noncomputable def offX (e : En) (c i : Nat) : Int := e c + nrst ((e (2 * (nn e - 1) + c) - e c) * i) (e 8 - 1) - e (2 * i + c)
noncomputable def fltB (e : En) (t : Int) : Bool :=
  if nn e = 2 then true else if nn e = 3 then wB (offX e 0 1) t && wB (offX e 1 1) t else wB (offX e 0 1) t && wB (offX e 1 1) t && wB (offX e 0 2) t && wB (offX e 1 2) t
noncomputable def smpB (t : Int) (e : En) : Bool := decide (e 8 = 2) || decide (10 ≤ e 9) || (!shpB e && fltB e t)
/-- a segment as the chapter has them, and how many splits it came of -/
structure GoodE (e : En) : Prop where
  n : e 8 = 2 ∨ e 8 = 3 ∨ e 8 = 4
  k0 : 0 ≤ e 9
  k9 : e 9 ≤ 10
  bd : ∀ i, i < 8 → -268435456 ≤ e i ∧ e i ≤ 268435456
theorem md_bd {f : Nat → Int} {a b : Int} {m : Nat} (h : ∀ i, i < m + 1 → a ≤ f i ∧ f i ≤ b) : ∀ i, i < m → a ≤ md f i ∧ md f i ≤ b := fun i hi => by
  have h1 := h i (by omega)
  have h2 := h (i + 1) (by omega)
  unfold md
  omega
theorem mdn_bd {a b : Int} : ∀ (k m : Nat) (f : Nat → Int), (∀ i, i < m + k → a ≤ f i ∧ f i ≤ b) → ∀ i, i < m → a ≤ mdn k f i ∧ mdn k f i ≤ b
  | 0, m, f, h, i, hi => h i (by omega)
  | k + 1, m, f, h, i, hi => mdn_bd k m (md f) (fun j hj => md_bd (m := m + k) (fun q hq => h q (by omega)) j hj) i hi
theorem cx_bd {e : En} (g : GoodE e) (c : Nat) (hc : c < 2) : ∀ i, i < 4 → -268435456 ≤ cx e c i ∧ cx e c i ≤ 268435456 := fun i hi => g.bd _ (by omega)
theorem nn_of {e : En} (g : GoodE e) : (nn e = 2 ∧ e 8 = 2) ∨ (nn e = 3 ∧ e 8 = 3) ∨ (nn e = 4 ∧ e 8 = 4) := by
  unfold nn
  rcases g.n with h | h | h <;> rw [h] <;> simp
theorem good_A {e : En} (g : GoodE e) (h : e 9 < 10) : GoodE (hlfA e) := by
  have n4 : nn e ≤ 4 := by rcases nn_of g with k | k | k <;> omega
  refine ⟨by simpa [hlfA] using g.n, by have := g.k0; simp [hlfA]; omega, by simp [hlfA]; omega, fun i hi => ?_⟩
  unfold hlfA
  rw [if_pos hi]
  split
  · exact mdn_bd (i / 2) 1 _ (fun j hj => cx_bd g _ (by omega) j (by omega)) 0 (by omega)
  · omega
theorem good_B {e : En} (g : GoodE e) (h : e 9 < 10) : GoodE (hlfB e) := by
  have n4 : nn e ≤ 4 := by rcases nn_of g with k | k | k <;> omega
  refine ⟨by simpa [hlfB] using g.n, by have := g.k0; simp [hlfB]; omega, by simp [hlfB]; omega, fun i hi => ?_⟩
  unfold hlfB
  rw [if_pos hi]
  split
  · exact mdn_bd (nn e - 1 - i / 2) (i / 2 + 1) _ (fun j hj => cx_bd g _ (by omega) j (by omega)) (i / 2) (by omega)
  · omega
/-- the program's flattening -/
noncomputable def flat (t : Int) : Fl where
  smp := smpB t
  A := hlfA
  B := hlfB
  en := enP
  G := GoodE
  dep := fun e g => ⟨g.k0, g.k9⟩
  last := fun e g h => by simp [smpB, h]
  gA := fun e g h => ⟨good_A g (by
    unfold smpB at h
    simp only [Bool.or_eq_false_iff, decide_eq_false_iff_not] at h
    omega), by simp [hlfA]⟩
  gB := fun e g h => ⟨good_B g (by
    unfold smpB at h
    simp only [Bool.or_eq_false_iff, decide_eq_false_iff_not] at h
    omega), by simp [hlfB]⟩
end Go.Proofs.Ytcdnekhpeghkiaa
