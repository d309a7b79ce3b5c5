/-
  Plain law: the digits behind the point, one by one.
-/
import Derived.Test.YtjmagehfkcnjjaaDoorDS
namespace Go.Proofs.YtjmagehfkcnjjaaDoor
set_option linter.unusedVariables false
open Go.Lib

theorem vl_cons (b : UInt8) (l : List UInt8) (h : ∀ c ∈ b :: l, IsDg c) : vl (b :: l) = (b.toNat - 48) * 10 ^ l.length + vl l ∧ vl l < 10 ^ l.length := by
  have hb := h b (List.mem_cons_self ..)
  have hl := fun c hc => h c (List.mem_cons_of_mem b hc)
  have hv := vl_of l hl
  refine ⟨?_, hv.2⟩
  have key : ∀ (m : List UInt8) (a v : Nat), (∀ c ∈ m, IsDg c) → decFrom 0 m = some v → decFrom a m = some (a * 10 ^ m.length + v) := by
    intro m
    induction m with
    | nil => intro a v _ h; simp only [decFrom, Option.some.injEq] at h; subst h; simp [decFrom]
    | cons c t ih =>
      intro a v hm h
      have ht := fun d hd => hm d (List.mem_cons_of_mem c hd)
      have hc : IsDg c := hm c (List.mem_cons_self ..)
      have e1 := (vl_of t ht).1
      have one : ∀ x, decFrom x (c :: t) = decFrom (x * 10 + (c.toNat - 48)) t := fun x => by
        conv => lhs; unfold decFrom
        rw [dg_val c hc]
      rw [one, ih _ _ ht e1] at h
      rw [one, ih _ _ ht e1, ← Option.some.inj h]
      congr 1
      rw [List.length_cons, Nat.pow_succ, Nat.add_mul, Nat.add_mul, Nat.mul_assoc a, Nat.mul_comm 10]
      omega
  have e : decFrom 0 (b :: l) = decFrom (0 * 10 + (b.toNat - 48)) l := by
    conv => lhs; unfold decFrom
    rw [dg_val b hb]
  unfold vl
  rw [e, Nat.zero_mul, Nat.zero_add, key l _ _ hl hv.1]
  rfl
/-- what is left, and the digits that tell it -/
def Lf (left : Nat) (G : List UInt8) : Prop := left < 256 ∧ left * 10 ^ G.length = vl G * 256 ∧ (∀ b ∈ G, IsDg b) ∧ (∀ b, G.getLast? = some b → b ≠ 48)
theorem Lf.step {left : Nat} {b : UInt8} {G : List UInt8} (h : Lf left (b :: G)) : left * 10 / 256 = b.toNat - 48 ∧ Lf (left * 10 % 256) G := by
  obtain ⟨h1, h2, h3, h4⟩ := h
  obtain ⟨e, hv⟩ := vl_cons b G h3
  rw [e, List.length_cons, Nat.pow_succ] at h2
  have hM : 0 < 10 ^ G.length := Nat.pow_pos (by decide)
  obtain ⟨M, hMe⟩ : ∃ M, M = 10 ^ G.length := ⟨_, rfl⟩
  rw [← hMe] at h2 hM hv
  generalize b.toNat - 48 = d at *
  have h5 : left * 10 * M = d * 256 * M + vl G * 256 := by
    have : left * (M * 10) = left * 10 * M := by rw [Nat.mul_comm M 10, Nat.mul_assoc]
    rw [← this, h2, Nat.add_mul, Nat.mul_assoc, Nat.mul_comm M 256, ← Nat.mul_assoc]
  have h6 : d * 256 ≤ left * 10 := Nat.le_of_mul_le_mul_right (by omega : d * 256 * M ≤ left * 10 * M) hM
  obtain ⟨k, hk⟩ : ∃ k, left * 10 = d * 256 + k := ⟨left * 10 - d * 256, by omega⟩
  rw [hk, Nat.add_mul] at h5
  have h7 : k * M = vl G * 256 := by omega
  have h8 : k < 256 := by
    refine Nat.lt_of_mul_lt_mul_right (a := M) ?_
    rw [h7, Nat.mul_comm 256 M]
    exact Nat.mul_lt_mul_of_pos_right hv (by decide)
  rw [hk]
  refine ⟨by omega, ?_⟩
  rw [show (d * 256 + k) % 256 = k by omega]
  exact ⟨h8, hMe ▸ h7, fun c hc => h3 c (List.mem_cons_of_mem b hc), fun c hc => h4 c (by
    cases G with
    | nil => cases hc
    | cons x y => rw [List.getLast?_cons_cons]; exact hc)⟩
theorem Lf.pos {left : Nat} {b : UInt8} {G : List UInt8} (h : Lf left (b :: G)) : 0 < left := by
  obtain ⟨h1, h2, h3, h4⟩ := h
  have key : ∀ (l : List UInt8), (∀ c ∈ l, IsDg c) → (∀ c, l.getLast? = some c → c ≠ 48) → l ≠ [] → 0 < vl l := by
    intro l
    induction l with
    | nil => intro _ _ h; exact absurd rfl h
    | cons x y ih =>
      intro hd hl _
      obtain ⟨e, _⟩ := vl_cons x y hd
      rw [e]
      cases y with
      | nil =>
        have hx := hl x rfl
        have hxd := hd x (List.mem_cons_self ..)
        have : x.toNat ≠ 48 := fun e => hx (UInt8.toNat_inj.1 e)
        unfold IsDg at hxd
        show 0 < (x.toNat - 48) * 1 + vl []
        omega
      | cons z t =>
        have := ih (fun c hc => hd c (List.mem_cons_of_mem x hc)) (fun c hc => hl c (by rw [List.getLast?_cons_cons]; exact hc)) (by simp)
        omega
  have hv := key (b :: G) h3 h4 (by simp)
  rcases Nat.eq_zero_or_pos left with e | e
  · rw [e, Nat.zero_mul] at h2; omega
  · exact e
theorem Lf.nil {left : Nat} (h : Lf left []) : left = 0 := by
  obtain ⟨h1, h2, _⟩ := h
  have : vl ([] : List UInt8) = 0 := rfl
  rw [this] at h2
  simpa using h2
/-- the digits behind the point, of the parts that are left -/
theorem prF_Lf (r : Nat) (h0 : 0 < r) (h9 : r < 256) : ∃ G, prF r = 46 :: G ∧ Lf r G ∧ G.length ≤ 8 := by
  obtain ⟨G, k, hG, g1, g2, g3, g4, g5⟩ := frac r h0 h9
  refine ⟨G, by unfold prF; rw [if_neg (by omega), hG], ⟨h9, ?_, g3, g4⟩, by omega⟩
  have hv : vl G * 10 ^ k = r * 390625 := by
    rw [← vl_app_noughts G k g3]
    unfold vl
    rw [g5]; rfl
  have hQ : 0 < 10 ^ k := Nat.pow_pos (by decide)
  refine Nat.eq_of_mul_eq_mul_right hQ ?_
  rw [Nat.mul_assoc, ← Nat.pow_add, g2, Nat.mul_right_comm, hv]
  omega
theorem dig_byte (b : UInt8) (h : IsDg b) : decDigits (b.toNat - 48) = [b] := by
  unfold IsDg at h
  rw [decDigits, dif_pos (by omega)]
  congr 1
  apply UInt8.toNat_inj.1
  rw [show 48 + (b.toNat - 48) = b.toNat by omega]
  simp
end Go.Proofs.YtjmagehfkcnjjaaDoor
