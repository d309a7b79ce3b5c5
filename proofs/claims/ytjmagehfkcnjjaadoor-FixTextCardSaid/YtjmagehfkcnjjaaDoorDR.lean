/-
  Plain law: what is printed of a number is parsed back, with noughts ahead and behind.
-/
import Derived.Test.YtjmagehfkcnjjaaDoorDQ
namespace Go.Proofs.YtjmagehfkcnjjaaDoor
set_option linter.unusedVariables false
open Go.Lib

theorem hasPrefix_one (a b : UInt8) (l : List UInt8) : hasPrefix (a :: l) [b] = (b == a) := by
  unfold hasPrefix
  simp [List.isPrefixOf]
theorem dgs_app (l m : List UInt8) (h : ∀ b ∈ l, IsDg b) (hm : ∀ b, m.head? = some b → ¬ IsDg b) : dgs (l ++ m) = l ∧ rst (l ++ m) = m := by
  have hl : ∀ b ∈ l, isD b = true := fun b hb => (isD_iff b).2 (h b hb)
  unfold dgs rst
  rw [List.takeWhile_append_of_pos hl, List.dropWhile_append_of_pos hl]
  cases m with
  | nil => exact ⟨by simp, rfl⟩
  | cons c r =>
    have hc : isD c = false := by
      have := hm c rfl
      cases e : isD c with
      | true => exact absurd ((isD_iff c).1 e) this
      | false => rfl
    rw [List.takeWhile_cons_of_neg (by rw [hc]; decide), List.dropWhile_cons_of_neg (by rw [hc]; decide)]
    exact ⟨by simp, rfl⟩
theorem vl_trimL (l : List UInt8) : vl (trimLeftB l 48) = vl l := by
  induction l with
  | nil => rfl
  | cons a r ih =>
    unfold trimLeftB
    by_cases e : a = 48
    · subst e
      rw [List.dropWhile_cons_of_pos (by rfl)]
      refine Eq.trans ih ?_
      unfold vl
      conv => rhs; unfold decFrom
      rw [show digitVal 48 = some 0 by decide]
    · rw [List.dropWhile_cons_of_neg (by simpa using e)]
theorem vl_noughts (a : Nat) (l : List UInt8) : vl (List.replicate a 48 ++ l) = vl l := by
  unfold vl
  rw [decFrom_app, decFrom_noughts]
  simp
theorem vl_dec (u : Nat) : vl (decDigits u) = u := by unfold vl; rw [dec_val]; rfl
theorem trimR_app (G : List UInt8) (b : Nat) (h : ∀ c, G.getLast? = some c → c ≠ 48) : trimRightB (G ++ List.replicate b 48) 48 = G := by
  unfold trimRightB
  rw [List.reverse_append, List.reverse_replicate, List.dropWhile_append_of_pos (fun c hc => by rw [List.eq_of_mem_replicate hc]; rfl)]
  cases e : G.reverse with
  | nil => rw [List.reverse_eq_nil_iff.1 e]; rfl
  | cons c r =>
    have hG : G.getLast? = some c := by
      rw [← List.head?_reverse, e]; rfl
    have := h c hG
    rw [List.dropWhile_cons_of_neg (by simpa using this), ← e, List.reverse_reverse]
theorem dec_len (u : Nat) (k : Nat) (h : u < 10 ^ (k + 1)) : (decDigits u).length ≤ k + 1 := by
  rw [decDigits_length]
  have : ∀ k v : Nat, v < 10 ^ (k + 1) → nDigits v ≤ k + 1 := by
    intro k
    induction k with
    | zero => intro v hv; rw [nDigits_small (by simpa using hv)]; exact Nat.le_refl _
    | succ k ih =>
      intro v hv
      by_cases h : v < 10
      · rw [nDigits_small h]; omega
      · rw [nDigits_big h]
        have := ih (v / 10) (by rw [Nat.pow_succ] at hv; omega)
        omega
  exact this k u h
/-- what is told without a sign, noughts ahead of it, and behind its digits behind the point -/
def nrt (u a b : Nat) : List UInt8 := List.replicate a 48 ++ (prU u ++ (if u % 256 = 0 then [] else List.replicate b 48))
set_option maxRecDepth 10000 in
theorem ps_nrt (u a b : Nat) (neg : Bool) (hu : u ≤ 1099511627776) (ha : a ≤ 3) (hb : b ≤ 3) :
    ps ((if neg then [45] else []) ++ nrt u a b) = some (if neg then -(u : Int) else u) := by
  obtain ⟨D, G, e, hD, d1, _, dd, _, hG⟩ := prU_facts u (by omega)
  have hPU : 1099511627776 < 9223372036854775808 := by decide
  have d10 : D.length ≤ 10 := by rw [hD]; exact dec_len (u / 256) 9 (by omega)
  obtain ⟨E, hE⟩ : ∃ E, E = List.replicate a 48 ++ D := ⟨_, rfl⟩
  have hEd : ∀ c ∈ E, IsDg c := by rw [hE]; exact app_dg (noughts_dg a) dd
  have hEl : E.length ≤ 13 ∧ 1 ≤ E.length := by rw [hE, List.length_append, List.length_replicate]; omega
  have hEv : vl E = u / 256 := by rw [hE, vl_noughts, hD, vl_dec]
  obtain ⟨F, hF⟩ : ∃ F, F = (if u % 256 = 0 then [] else 46 :: (G ++ List.replicate b 48)) := ⟨_, rfl⟩
  have hn : nrt u a b = E ++ F := by
    unfold nrt
    rw [e, hE, hF]
    by_cases h : u % 256 = 0
    · rw [if_pos h, if_pos h, if_pos h]; simp
    · rw [if_neg h, if_neg h, if_neg h]; simp
  have hFl : F.length ≤ 12 := by
    rw [hF]
    by_cases h : u % 256 = 0
    · rw [if_pos h]; simp
    · rw [if_neg h]
      have := (hG h).2.1
      rw [List.length_cons, List.length_append, List.length_replicate]; omega
  have hFh : ∀ c, F.head? = some c → ¬ IsDg c := fun c hc => by
    rw [hF] at hc
    by_cases h : u % 256 = 0
    · rw [if_pos h] at hc; cases hc
    · rw [if_neg h] at hc
      obtain rfl := Option.some.inj hc
      unfold IsDg; decide
  obtain ⟨l, hl⟩ : ∃ l, l = (if neg then [45] else []) ++ nrt u a b := ⟨_, rfl⟩
  have hu1 : unsg l = E ++ F ∧ hasPrefix l [45] = neg := by
    rw [hl, hn]
    cases neg
    · have : hasPrefix (E ++ F) [45] = false := by
        cases E with
        | nil => simp at hEl
        | cons c r =>
          rw [List.cons_append, hasPrefix_one]
          have hc := hEd c (List.mem_cons_self ..)
          unfold IsDg at hc
          refine beq_eq_false_iff_ne.2 fun e => ?_
          subst e
          exact absurd hc.1 (by decide)
      refine ⟨?_, by simpa using this⟩
      show unsg (E ++ F) = _
      unfold unsg
      rw [this]; rfl
    · refine ⟨?_, by simp [hasPrefix_one]⟩
      show unsg (45 :: (E ++ F)) = _
      unfold unsg
      rw [hasPrefix_one]; rfl
  have hll : l.length ≤ 30 := by
    rw [hl, hn, List.length_append, List.length_append]
    have : (if neg then [45] else ([] : List UInt8)).length ≤ 1 := by cases neg <;> simp
    omega
  obtain ⟨g1, g2⟩ := dgs_app E F hEd hFh
  rw [← hl]
  unfold ps
  rw [if_neg (by omega), hu1.1, hu1.2, g1, g2, if_neg (by intro h; rw [h] at hEl; simp at hEl), if_neg (by have := trimL_len E 48; omega), vl_trimL, hEv]
  have hfin : ∀ r, r < 256 → u / 256 * 256 + r = u → fin neg (u / 256 * 256 + r) [] = some (if neg then -(u : Int) else u) := fun r _ h => by
    unfold fin
    rw [h, if_pos ⟨rfl, hu⟩]
  unfold fpt
  by_cases h : u % 256 = 0
  · rw [hF, if_pos h, if_neg (by simp [hasPrefix])]
    exact hfin 0 (by omega) (by omega)
  · obtain ⟨h1, h2, h3, h4, h5⟩ := hG h
    have hp : hasPrefix F [46] = true := by rw [hF, if_neg h, hasPrefix_one]; rfl
    have hd1 : F.drop 1 = G ++ List.replicate b 48 := by rw [hF, if_neg h]; rfl
    obtain ⟨k1, k2⟩ := dgs_app (G ++ List.replicate b 48) [] (app_dg h3 (noughts_dg b)) (fun c hc => by cases hc)
    rw [List.append_nil] at k1 k2
    rw [if_pos hp, hd1, k1, k2, if_neg (by intro e; have := congrArg List.length e; rw [List.length_append] at this; simp at this; rw [this.1] at h1; simp at h1), trimR_app G b h4, if_neg (by omega)]
    have hv : vl (eight (G ++ List.replicate b 48)) = u % 256 * 390625 := by
      unfold eight vl
      rw [trimR_app G b h4, h5]; rfl
    rw [hv, if_pos (by omega), Nat.mul_div_cancel _ (by decide)]
    exact hfin (u % 256) (by omega) (by omega)
theorem prn_nrt (n : Int) : prn n = (if decide (n < 0) then [45] else []) ++ nrt n.natAbs 0 0 := by
  unfold prn nrt
  by_cases h : n < 0
  · rw [if_pos h]; simp [h]
  · rw [if_neg h]; simp [h]
end Go.Proofs.YtjmagehfkcnjjaaDoor
