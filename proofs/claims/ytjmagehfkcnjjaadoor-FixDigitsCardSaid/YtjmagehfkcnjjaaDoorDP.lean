/-
  Plain words on decimal digits: what a numeral's digits are, its value, and what is left when noughts are taken off its end.
-/
import Derived.Lib.ItoaNum
import Derived.Lib.Atoi
import Derived.Lib.TrimByte
import Derived.Lib.Repeat
namespace Go.Proofs.YtjmagehfkcnjjaaDoor
set_option linter.unusedVariables false
open Go.Lib

def IsDg (b : UInt8) : Prop := 48 ≤ b.toNat ∧ b.toNat ≤ 57
theorem dg_nat (d : Nat) (h : d < 10) : (UInt8.ofNat (48 + d)).toNat = 48 + d := by
  simp [UInt8.toNat_ofNat']; omega
theorem dec_dg (u : Nat) : ∀ b ∈ decDigits u, IsDg b := by
  induction u using Nat.strongRecOn with
  | _ u ih =>
    rw [decDigits]
    split
    · rename_i h
      intro b hb
      obtain rfl := List.mem_singleton.1 hb
      unfold IsDg
      rw [dg_nat u h]; omega
    · rename_i h
      intro b hb
      rcases List.mem_append.1 hb with hb | hb
      · exact ih (u / 10) (by omega) b hb
      · obtain rfl := List.mem_singleton.1 hb
        unfold IsDg
        rw [dg_nat (u % 10) (by omega)]; omega
theorem dec_pos (u : Nat) : 1 ≤ (decDigits u).length := by rw [decDigits_length]; exact nDigits_pos u
theorem dec_head (u : Nat) (h : 1 ≤ u) : ∃ c r, decDigits u = c :: r ∧ c ≠ 48 := by
  induction u using Nat.strongRecOn with
  | _ u ih =>
    rw [decDigits]
    split
    · rename_i h1
      refine ⟨_, [], rfl, fun e => ?_⟩
      have := dg_nat u h1
      rw [e] at this
      simp at this
      omega
    · rename_i h1
      obtain ⟨c, r, e, hc⟩ := ih (u / 10) (by omega) (by omega)
      exact ⟨c, r ++ [UInt8.ofNat (48 + u % 10)], by rw [e]; rfl, hc⟩
theorem dec_small (u : Nat) (h : u < 10) : (decDigits u).length = 1 := by rw [decDigits, dif_pos h]; rfl
theorem dec_first (u : Nat) : (decDigits u).length = 1 ∨ (decDigits u)[0]? ≠ some 48 := by
  by_cases h : u < 10
  · exact .inl (dec_small u h)
  · obtain ⟨c, r, e, hc⟩ := dec_head u (by omega)
    exact .inr (by rw [e]; simpa using hc)
theorem dg_val (b : UInt8) (h : IsDg b) : digitVal b = some (b.toNat - 48) := by
  unfold digitVal; exact if_pos h
theorem decFrom_app (a : Nat) (l m : List UInt8) : decFrom a (l ++ m) = (decFrom a l).bind fun x => decFrom x m := by
  induction l generalizing a with
  | nil => rfl
  | cons b r ih =>
    have key : ∀ l', decFrom a (b :: l') = match digitVal b with | some d => decFrom (a * 10 + d) l' | none => none := fun _ => rfl
    show decFrom a (b :: (r ++ m)) = _
    rw [key, key]
    cases digitVal b with
    | none => rfl
    | some d => exact ih _
theorem decFrom_snoc (a n : Nat) (l : List UInt8) (d : Nat) (hd : d < 10) (h : decFrom a l = some n) : decFrom a (l ++ [UInt8.ofNat (48 + d)]) = some (n * 10 + d) := by
  rw [decFrom_app, h]
  show decFrom n [UInt8.ofNat (48 + d)] = _
  have e : digitVal (UInt8.ofNat (48 + d)) = some d := by
    rw [dg_val _ (by unfold IsDg; rw [dg_nat d hd]; omega), dg_nat d hd]; congr 1; omega
  unfold decFrom
  rw [e]; rfl
theorem dec_val (u : Nat) : decFrom 0 (decDigits u) = some u := by
  induction u using Nat.strongRecOn with
  | _ u ih =>
    rw [decDigits]
    split
    · rename_i h
      have := decFrom_snoc 0 0 [] u h rfl
      simpa using this
    · rename_i h
      rw [decFrom_snoc 0 (u / 10) _ (u % 10) (by omega) (ih (u / 10) (by omega))]
      congr 1; omega
theorem decFrom_dg (a : Nat) (l : List UInt8) (h : ∀ b ∈ l, IsDg b) : ∃ v, decFrom a l = some v ∧ v < (a + 1) * 10 ^ l.length ∧ a * 10 ^ l.length ≤ v := by
  induction l generalizing a with
  | nil => exact ⟨a, rfl, by simp, by simp⟩
  | cons b r ih =>
    have hb := h b (List.mem_cons_self ..)
    obtain ⟨v, e, h1, h2⟩ := ih (a * 10 + (b.toNat - 48)) fun c hc => h c (List.mem_cons_of_mem _ hc)
    have hb2 : b.toNat - 48 < 10 := by unfold IsDg at hb; omega
    refine ⟨v, ?_, ?_, ?_⟩
    · unfold decFrom; rw [dg_val b hb]; exact e
    · refine Nat.lt_of_lt_of_le h1 ?_
      rw [List.length_cons, Nat.pow_succ, Nat.mul_comm (10 ^ r.length) 10, ← Nat.mul_assoc]
      exact Nat.mul_le_mul_right _ (by omega)
    · refine Nat.le_trans ?_ h2
      rw [List.length_cons, Nat.pow_succ, Nat.mul_comm (10 ^ r.length) 10, ← Nat.mul_assoc]
      exact Nat.mul_le_mul_right _ (by omega)
theorem decFrom_noughts (a k : Nat) : decFrom a (List.replicate k 48) = some (a * 10 ^ k) := by
  induction k generalizing a with
  | zero => simp [decFrom]
  | succ k ih =>
    rw [List.replicate_succ]
    unfold decFrom
    rw [show digitVal 48 = some 0 by decide]
    show decFrom (a * 10 + 0) _ = _
    rw [ih]; congr 1
    rw [Nat.pow_succ, Nat.mul_comm (10 ^ k) 10, ← Nat.mul_assoc]; rfl
theorem repeat_48 (k : Nat) : repeatL [48] k = List.replicate k 48 := by
  induction k with
  | zero => rfl
  | succ k ih => unfold repeatL; rw [ih]; rfl
theorem trim_split (l : List UInt8) (c : UInt8) : ∃ k, l = trimRightB l c ++ List.replicate k c := by
  unfold trimRightB
  refine ⟨(l.reverse.takeWhile (· == c)).length, ?_⟩
  have h1 : l.reverse = l.reverse.takeWhile (· == c) ++ l.reverse.dropWhile (· == c) := List.takeWhile_append_dropWhile.symm
  have h2 : l.reverse.takeWhile (· == c) = List.replicate (l.reverse.takeWhile (· == c)).length c := by
    rw [List.eq_replicate_iff]
    refine ⟨rfl, fun b hb => ?_⟩
    have := List.all_takeWhile (p := (· == c)) (l := l.reverse)
    exact eq_of_beq (List.all_eq_true.1 this b hb)
  have h3 := congrArg List.reverse h1
  rw [List.reverse_reverse, List.reverse_append] at h3
  rw [h2, List.reverse_replicate] at h3
  exact h3
theorem trim_last (l : List UInt8) (c b : UInt8) (h : (trimRightB l c).getLast? = some b) : b ≠ c := by
  unfold trimRightB at h
  rw [List.getLast?_reverse] at h
  have := List.head?_dropWhile_not (· == c) l.reverse
  rw [h] at this
  intro e
  subst e
  simp at this

/-- what stands behind the point of r parts, the point with it -/
def prF (r : Nat) : List UInt8 := if r = 0 then [] else 46 :: trimRightB ((decDigits (100000000 + r * 390625)).drop 1) 48
/-- a number of parts as pixels, without its sign -/
def prU (u : Nat) : List UInt8 := decDigits (u / 256) ++ prF (u % 256)
/-- a number of parts as pixels -/
def prn (n : Int) : List UInt8 := if n < 0 then 45 :: prU n.natAbs else prU n.natAbs

theorem nine (m : Nat) (h0 : 100000000 ≤ m) (h1 : m < 200000000) : ∃ X, decDigits m = 49 :: X ∧ X.length = 8 ∧ decFrom 1 X = some m ∧ ∀ b ∈ X, IsDg b := by
  have hl : (decDigits m).length = 9 := by
    rw [decDigits_length]
    exact nDigits_unique 8 m (by omega) (by omega)
  have hd := dec_dg m
  have hv := dec_val m
  cases e : decDigits m with
  | nil => rw [e] at hl; simp at hl
  | cons c X =>
    rw [e] at hl hd hv
    have hX : X.length = 8 := by simpa using hl
    have hc := hd c (List.mem_cons_self ..)
    have hXd := fun b hb => hd b (List.mem_cons_of_mem c hb)
    unfold decFrom at hv
    rw [dg_val c hc] at hv
    have hv' : decFrom (0 * 10 + (c.toNat - 48)) X = some m := hv
    obtain ⟨v, e1, h3, h4⟩ := decFrom_dg (0 * 10 + (c.toNat - 48)) X hXd
    rw [hv'] at e1
    obtain rfl := Option.some.inj e1
    rw [hX] at h3 h4
    have h5 : c.toNat - 48 = 1 := by omega
    have h6 : c = 49 := UInt8.toNat_inj.1 (by unfold IsDg at hc; show c.toNat = 49; omega)
    subst h6
    exact ⟨X, rfl, hX, hv', hXd⟩
/-- the digits behind the point -/
theorem frac (r : Nat) (h0 : 0 < r) (h9 : r < 256) : ∃ G k, trimRightB ((decDigits (100000000 + r * 390625)).drop 1) 48 = G ∧ 1 ≤ G.length ∧ G.length + k = 8 ∧ (∀ b ∈ G, IsDg b) ∧ (∀ b, G.getLast? = some b → b ≠ 48) ∧ decFrom 0 (G ++ List.replicate k 48) = some (r * 390625) := by
  obtain ⟨X, e, hl, hv, hd⟩ := nine (100000000 + r * 390625) (by omega) (by omega)
  rw [e]
  show ∃ G k, trimRightB X 48 = G ∧ _
  obtain ⟨k, hk⟩ := trim_split X 48
  have hlk := congrArg List.length hk
  rw [List.length_append, List.length_replicate, hl] at hlk
  have hd0 : decFrom 0 X = some (r * 390625) := by
    have key : ∀ (l : List UInt8) (a v : Nat), (∀ b ∈ l, IsDg b) → decFrom (a + 1) l = some v → decFrom a l = some (v - 10 ^ l.length) := by
      intro l
      induction l with
      | nil => intro a v _ h; simp only [decFrom, Option.some.injEq] at h; subst h; simp [decFrom]
      | cons b t ih =>
        intro a v h1 h2
        have hb := h1 b (List.mem_cons_self ..)
        have ht := fun c hc => h1 c (List.mem_cons_of_mem b hc)
        unfold decFrom at h2 ⊢
        rw [dg_val b hb] at h2 ⊢
        have h2' : decFrom ((a + 1) * 10 + (b.toNat - 48)) t = some v := h2
        show decFrom (a * 10 + (b.toNat - 48)) t = _
        have step : ∀ (j c w : Nat), decFrom (c + j) t = some w → decFrom c t = some (w - j * 10 ^ t.length) := by
          intro j
          induction j with
          | zero => intro c w h; simpa using h
          | succ j ihj =>
            intro c w h
            have g1 := ih (c + j) w ht h
            have g2 := ihj c _ g1
            rw [g2]; congr 1
            rw [Nat.succ_mul]; omega
        have := step 10 (a * 10 + (b.toNat - 48)) v (by rw [← h2']; congr 1; omega)
        rw [this]; congr 1
        rw [List.length_cons, Nat.pow_succ]; omega
    have := key X 0 _ hd hv
    rw [this]; congr 1
    rw [hl]; omega
  refine ⟨_, k, rfl, ?_, by omega, fun b hb => hd b (by rw [hk]; exact List.mem_append_left _ hb), fun b hb => trim_last X 48 b hb, by rw [← hk]; exact hd0⟩
  rcases Nat.eq_zero_or_pos (trimRightB X 48).length with h | h
  · exfalso
    have h2 := List.length_eq_zero_iff.1 h
    rw [h2, List.nil_append] at hk
    rw [hk, decFrom_noughts] at hd0
    have := Option.some.inj hd0
    omega
  · exact h
/-- what is printed of a number without a sign, byte by byte -/
theorem prU_facts (u : Nat) (hu : u ≤ 9223372036854775808) : ∃ D G : List UInt8, prU u = D ++ (if u % 256 = 0 then [] else 46 :: G) ∧ D = decDigits (u / 256) ∧ 1 ≤ D.length ∧ D.length ≤ 20 ∧ (∀ b ∈ D, IsDg b) ∧ (D.length = 1 ∨ D[0]? ≠ some 48) ∧ 
    (u % 256 ≠ 0 → 1 ≤ G.length ∧ G.length ≤ 8 ∧ (∀ b ∈ G, IsDg b) ∧ (∀ b, G.getLast? = some b → b ≠ 48) ∧ decFrom 0 (G ++ List.replicate (8 - G.length) 48) = some (u % 256 * 390625)) := by
  have hD : (decDigits (u / 256)).length ≤ 20 := by
    rw [decDigits_length]
    have : ∀ k v : Nat, v < 10 ^ (k + 1) → nDigits v ≤ k + 1 := by
      intro k
      induction k with
      | zero => intro v hv; rw [nDigits_small (by simpa using hv)]; exact Nat.le_refl _
      | succ k ih =>
        intro v hv
        by_cases h : v < 10
        · rw [nDigits_small h]; omega
        · rw [nDigits_big h]
          have := ih (v / 10) (by rw [Nat.pow_succ] at hv; omega)
          omega
    exact this 19 (u / 256) (by omega)
  by_cases h : u % 256 = 0
  · refine ⟨decDigits (u / 256), [], ?_, rfl, dec_pos _, hD, dec_dg _, dec_first _, fun h' => absurd h h'⟩
    unfold prU prF
    rw [if_pos h, if_pos h]
  · obtain ⟨G, k, hG, g1, g2, g3, g4, g5⟩ := frac (u % 256) (by omega) (by omega)
    refine ⟨decDigits (u / 256), G, ?_, rfl, dec_pos _, hD, dec_dg _, dec_first _, fun _ => ⟨g1, by omega, g3, g4, ?_⟩⟩
    · unfold prU prF
      rw [if_neg h, if_neg h, hG]
    · rw [show 8 - G.length = k by omega]; exact g5
end Go.Proofs.YtjmagehfkcnjjaaDoor
