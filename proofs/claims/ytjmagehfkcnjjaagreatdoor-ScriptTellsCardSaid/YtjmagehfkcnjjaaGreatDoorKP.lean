/-
  Texts that stand as one.
-/
import Derived.Lib.ItoaNum
import Derived.Lib.Atoi
import Derived.Lib.TrimByte
import Derived.Lib.Repeat
import Derived.Lib.SlTrimSet
import Derived.Lib.Strings
/-
  Plain words on decimal digits: what a numeral's digits are, its value, and what is left when noughts are taken off its end.
-/
namespace Go.Proofs.YtjmagehfkcnjjaaGreatDoor
set_option linter.unusedVariables false
open Go.Lib

def IsDg (b : UInt8) : Prop := 48 ≤ b.toNat ∧ b.toNat ≤ 57
theorem dg_nat (d : Nat) (h : d < 10) : (UInt8.ofNat (48 + d)).toNat = 48 + d := by
  simp [UInt8.toNat_ofNat']; omega
theorem dec_dg (u : Nat) : ∀ b ∈ decDigits u, IsDg b := by
  induction u using Nat.strongRecOn with
  | _ u ih =>
    rw [decDigits]
    split
    · rename_i h
      intro b hb
      obtain rfl := List.mem_singleton.1 hb
      unfold IsDg
      rw [dg_nat u h]; omega
    · rename_i h
      intro b hb
      rcases List.mem_append.1 hb with hb | hb
      · exact ih (u / 10) (by omega) b hb
      · obtain rfl := List.mem_singleton.1 hb
        unfold IsDg
        rw [dg_nat (u % 10) (by omega)]; omega
theorem dec_pos (u : Nat) : 1 ≤ (decDigits u).length := by rw [decDigits_length]; exact nDigits_pos u
theorem dec_head (u : Nat) (h : 1 ≤ u) : ∃ c r, decDigits u = c :: r ∧ c ≠ 48 := by
  induction u using Nat.strongRecOn with
  | _ u ih =>
    rw [decDigits]
    split
    · rename_i h1
      refine ⟨_, [], rfl, fun e => ?_⟩
      have := dg_nat u h1
      rw [e] at this
      simp at this
      omega
    · rename_i h1
      obtain ⟨c, r, e, hc⟩ := ih (u / 10) (by omega) (by omega)
      exact ⟨c, r ++ [UInt8.ofNat (48 + u % 10)], by rw [e]; rfl, hc⟩
theorem dec_small (u : Nat) (h : u < 10) : (decDigits u).length = 1 := by rw [decDigits, dif_pos h]; rfl
theorem dec_first (u : Nat) : (decDigits u).length = 1 ∨ (decDigits u)[0]? ≠ some 48 := by
  by_cases h : u < 10
  · exact .inl (dec_small u h)
  · obtain ⟨c, r, e, hc⟩ := dec_head u (by omega)
    exact .inr (by rw [e]; simpa using hc)
theorem dg_val (b : UInt8) (h : IsDg b) : digitVal b = some (b.toNat - 48) := by
  unfold digitVal; exact if_pos h
theorem decFrom_app (a : Nat) (l m : List UInt8) : decFrom a (l ++ m) = (decFrom a l).bind fun x => decFrom x m := by
  induction l generalizing a with
  | nil => rfl
  | cons b r ih =>
    have key : ∀ l', decFrom a (b :: l') = match digitVal b with | some d => decFrom (a * 10 + d) l' | none => none := fun _ => rfl
    show decFrom a (b :: (r ++ m)) = _
    rw [key, key]
    cases digitVal b with
    | none => rfl
    | some d => exact ih _
theorem decFrom_snoc (a n : Nat) (l : List UInt8) (d : Nat) (hd : d < 10) (h : decFrom a l = some n) : decFrom a (l ++ [UInt8.ofNat (48 + d)]) = some (n * 10 + d) := by
  rw [decFrom_app, h]
  show decFrom n [UInt8.ofNat (48 + d)] = _
  have e : digitVal (UInt8.ofNat (48 + d)) = some d := by
    rw [dg_val _ (by unfold IsDg; rw [dg_nat d hd]; omega), dg_nat d hd]; congr 1; omega
  unfold decFrom
  rw [e]; rfl
theorem dec_val (u : Nat) : decFrom 0 (decDigits u) = some u := by
  induction u using Nat.strongRecOn with
  | _ u ih =>
    rw [decDigits]
    split
    · rename_i h
      have := decFrom_snoc 0 0 [] u h rfl
      simpa using this
    · rename_i h
      rw [decFrom_snoc 0 (u / 10) _ (u % 10) (by omega) (ih (u / 10) (by omega))]
      congr 1; omega
theorem decFrom_dg (a : Nat) (l : List UInt8) (h : ∀ b ∈ l, IsDg b) : ∃ v, decFrom a l = some v ∧ v < (a + 1) * 10 ^ l.length ∧ a * 10 ^ l.length ≤ v := by
  induction l generalizing a with
  | nil => exact ⟨a, rfl, by simp, by simp⟩
  | cons b r ih =>
    have hb := h b (List.mem_cons_self ..)
    obtain ⟨v, e, h1, h2⟩ := ih (a * 10 + (b.toNat - 48)) fun c hc => h c (List.mem_cons_of_mem _ hc)
    have hb2 : b.toNat - 48 < 10 := by unfold IsDg at hb; omega
    refine ⟨v, ?_, ?_, ?_⟩
    · unfold decFrom; rw [dg_val b hb]; exact e
    · refine Nat.lt_of_lt_of_le h1 ?_
      rw [List.length_cons, Nat.pow_succ, Nat.mul_comm (10 ^ r.length) 10, ← Nat.mul_assoc]
      exact Nat.mul_le_mul_right _ (by omega)
    · refine Nat.le_trans ?_ h2
      rw [List.length_cons, Nat.pow_succ, Nat.mul_comm (10 ^ r.length) 10, ← Nat.mul_assoc]
      exact Nat.mul_le_mul_right _ (by omega)
theorem decFrom_noughts (a k : Nat) : decFrom a (List.replicate k 48) = some (a * 10 ^ k) := by
  induction k generalizing a with
  | zero => simp [decFrom]
  | succ k ih =>
    rw [List.replicate_succ]
    unfold decFrom
    rw [show digitVal 48 = some 0 by decide]
    show decFrom (a * 10 + 0) _ = _
    rw [ih]; congr 1
    rw [Nat.pow_succ, Nat.mul_comm (10 ^ k) 10, ← Nat.mul_assoc]; rfl
theorem repeat_48 (k : Nat) : repeatL [48] k = List.replicate k 48 := by
  induction k with
  | zero => rfl
  | succ k ih => unfold repeatL; rw [ih]; rfl
theorem trim_split (l : List UInt8) (c : UInt8) : ∃ k, l = trimRightB l c ++ List.replicate k c := by
  unfold trimRightB
  refine ⟨(l.reverse.takeWhile (· == c)).length, ?_⟩
  have h1 : l.reverse = l.reverse.takeWhile (· == c) ++ l.reverse.dropWhile (· == c) := List.takeWhile_append_dropWhile.symm
  have h2 : l.reverse.takeWhile (· == c) = List.replicate (l.reverse.takeWhile (· == c)).length c := by
    rw [List.eq_replicate_iff]
    refine ⟨rfl, fun b hb => ?_⟩
    have := List.all_takeWhile (p := (· == c)) (l := l.reverse)
    exact eq_of_beq (List.all_eq_true.1 this b hb)
  have h3 := congrArg List.reverse h1
  rw [List.reverse_reverse, List.reverse_append] at h3
  rw [h2, List.reverse_replicate] at h3
  exact h3
theorem trim_last (l : List UInt8) (c b : UInt8) (h : (trimRightB l c).getLast? = some b) : b ≠ c := by
  unfold trimRightB at h
  rw [List.getLast?_reverse] at h
  have := List.head?_dropWhile_not (· == c) l.reverse
  rw [h] at this
  intro e
  subst e
  simp at this

/-- what stands behind the point of r parts, the point with it -/
def prF (r : Nat) : List UInt8 := if r = 0 then [] else 46 :: trimRightB ((decDigits (100000000 + r * 390625)).drop 1) 48
/-- a number of parts as pixels, without its sign -/
def prU (u : Nat) : List UInt8 := decDigits (u / 256) ++ prF (u % 256)
/-- a number of parts as pixels -/
def prn (n : Int) : List UInt8 := if n < 0 then 45 :: prU n.natAbs else prU n.natAbs

theorem nine (m : Nat) (h0 : 100000000 ≤ m) (h1 : m < 200000000) : ∃ X, decDigits m = 49 :: X ∧ X.length = 8 ∧ decFrom 1 X = some m ∧ ∀ b ∈ X, IsDg b := by
  have hl : (decDigits m).length = 9 := by
    rw [decDigits_length]
    exact nDigits_unique 8 m (by omega) (by omega)
  have hd := dec_dg m
  have hv := dec_val m
  cases e : decDigits m with
  | nil => rw [e] at hl; simp at hl
  | cons c X =>
    rw [e] at hl hd hv
    have hX : X.length = 8 := by simpa using hl
    have hc := hd c (List.mem_cons_self ..)
    have hXd := fun b hb => hd b (List.mem_cons_of_mem c hb)
    unfold decFrom at hv
    rw [dg_val c hc] at hv
    have hv' : decFrom (0 * 10 + (c.toNat - 48)) X = some m := hv
    obtain ⟨v, e1, h3, h4⟩ := decFrom_dg (0 * 10 + (c.toNat - 48)) X hXd
    rw [hv'] at e1
    obtain rfl := Option.some.inj e1
    rw [hX] at h3 h4
    have h5 : c.toNat - 48 = 1 := by omega
    have h6 : c = 49 := UInt8.toNat_inj.1 (by unfold IsDg at hc; show c.toNat = 49; omega)
    subst h6
    exact ⟨X, rfl, hX, hv', hXd⟩
/-- the digits behind the point -/
theorem frac (r : Nat) (h0 : 0 < r) (h9 : r < 256) : ∃ G k, trimRightB ((decDigits (100000000 + r * 390625)).drop 1) 48 = G ∧ 1 ≤ G.length ∧ G.length + k = 8 ∧ (∀ b ∈ G, IsDg b) ∧ (∀ b, G.getLast? = some b → b ≠ 48) ∧ decFrom 0 (G ++ List.replicate k 48) = some (r * 390625) := by
  obtain ⟨X, e, hl, hv, hd⟩ := nine (100000000 + r * 390625) (by omega) (by omega)
  rw [e]
  show ∃ G k, trimRightB X 48 = G ∧ _
  obtain ⟨k, hk⟩ := trim_split X 48
  have hlk := congrArg List.length hk
  rw [List.length_append, List.length_replicate, hl] at hlk
  have hd0 : decFrom 0 X = some (r * 390625) := by
    have key : ∀ (l : List UInt8) (a v : Nat), (∀ b ∈ l, IsDg b) → decFrom (a + 1) l = some v → decFrom a l = some (v - 10 ^ l.length) := by
      intro l
      induction l with
      | nil => intro a v _ h; simp only [decFrom, Option.some.injEq] at h; subst h; simp [decFrom]
      | cons b t ih =>
        intro a v h1 h2
        have hb := h1 b (List.mem_cons_self ..)
        have ht := fun c hc => h1 c (List.mem_cons_of_mem b hc)
        unfold decFrom at h2 ⊢
        rw [dg_val b hb] at h2 ⊢
        have h2' : decFrom ((a + 1) * 10 + (b.toNat - 48)) t = some v := h2
        show decFrom (a * 10 + (b.toNat - 48)) t = _
        have step : ∀ (j c w : Nat), decFrom (c + j) t = some w → decFrom c t = some (w - j * 10 ^ t.length) := by
          intro j
          induction j with
          | zero => intro c w h; simpa using h
          | succ j ihj =>
            intro c w h
            have g1 := ih (c + j) w ht h
            have g2 := ihj c _ g1
            rw [g2]; congr 1
            rw [Nat.succ_mul]; omega
        have := step 10 (a * 10 + (b.toNat - 48)) v (by rw [← h2']; congr 1; omega)
        rw [this]; congr 1
        rw [List.length_cons, Nat.pow_succ]; omega
    have := key X 0 _ hd hv
    rw [this]; congr 1
    rw [hl]; omega
  refine ⟨_, k, rfl, ?_, by omega, fun b hb => hd b (by rw [hk]; exact List.mem_append_left _ hb), fun b hb => trim_last X 48 b hb, by rw [← hk]; exact hd0⟩
  rcases Nat.eq_zero_or_pos (trimRightB X 48).length with h | h
  · exfalso
    have h2 := List.length_eq_zero_iff.1 h
    rw [h2, List.nil_append] at hk
    rw [hk, decFrom_noughts] at hd0
    have := Option.some.inj hd0
    omega
  · exact h
/-- what is printed of a number without a sign, byte by byte -/
theorem prU_facts (u : Nat) (hu : u ≤ 9223372036854775808) : ∃ D G : List UInt8, prU u = D ++ (if u % 256 = 0 then [] else 46 :: G) ∧ D = decDigits (u / 256) ∧ 1 ≤ D.length ∧ D.length ≤ 20 ∧ (∀ b ∈ D, IsDg b) ∧ (D.length = 1 ∨ D[0]? ≠ some 48) ∧ 
    (u % 256 ≠ 0 → 1 ≤ G.length ∧ G.length ≤ 8 ∧ (∀ b ∈ G, IsDg b) ∧ (∀ b, G.getLast? = some b → b ≠ 48) ∧ decFrom 0 (G ++ List.replicate (8 - G.length) 48) = some (u % 256 * 390625)) := by
  have hD : (decDigits (u / 256)).length ≤ 20 := by
    rw [decDigits_length]
    have : ∀ k v : Nat, v < 10 ^ (k + 1) → nDigits v ≤ k + 1 := by
      intro k
      induction k with
      | zero => intro v hv; rw [nDigits_small (by simpa using hv)]; exact Nat.le_refl _
      | succ k ih =>
        intro v hv
        by_cases h : v < 10
        · rw [nDigits_small h]; omega
        · rw [nDigits_big h]
          have := ih (v / 10) (by rw [Nat.pow_succ] at hv; omega)
          omega
    exact this 19 (u / 256) (by omega)
  by_cases h : u % 256 = 0
  · refine ⟨decDigits (u / 256), [], ?_, rfl, dec_pos _, hD, dec_dg _, dec_first _, fun h' => absurd h h'⟩
    unfold prU prF
    rw [if_pos h, if_pos h]
  · obtain ⟨G, k, hG, g1, g2, g3, g4, g5⟩ := frac (u % 256) (by omega) (by omega)
    refine ⟨decDigits (u / 256), G, ?_, rfl, dec_pos _, hD, dec_dg _, dec_first _, fun _ => ⟨g1, by omega, g3, g4, ?_⟩⟩
    · unfold prU prF
      rw [if_neg h, if_neg h, hG]
    · rw [show 8 - G.length = k by omega]; exact g5
end Go.Proofs.YtjmagehfkcnjjaaGreatDoor

/-
  Plain words on a text that tells a number of parts: what Parse makes of it.
-/
namespace Go.Proofs.YtjmagehfkcnjjaaGreatDoor
set_option linter.unusedVariables false
open Go.Lib

def isD (b : UInt8) : Bool := decide (48 ≤ b.toNat ∧ b.toNat ≤ 57)
theorem isD_iff (b : UInt8) : isD b = true ↔ IsDg b := by unfold isD IsDg; simp
/-- the digits ahead -/
def dgs (l : List UInt8) : List UInt8 := l.takeWhile isD
/-- what is behind the digits ahead -/
def rst (l : List UInt8) : List UInt8 := l.dropWhile isD
theorem dgs_rst (l : List UInt8) : dgs l ++ rst l = l := List.takeWhile_append_dropWhile
theorem dgs_all (l : List UInt8) : ∀ b ∈ dgs l, IsDg b := fun b hb => (isD_iff b).1 (List.all_eq_true.1 (List.all_takeWhile (p := isD) (l := l)) b hb)
theorem rst_len (l : List UInt8) : (dgs l).length + (rst l).length = l.length := by
  have := congrArg List.length (dgs_rst l)
  rw [List.length_append] at this
  exact this
theorem dgs_take (l : List UInt8) : l.take (dgs l).length = dgs l := by
  have h := dgs_rst l
  have : (dgs l ++ rst l).take (dgs l).length = dgs l := by simp
  rwa [h] at this
theorem rst_drop (l : List UInt8) : l.drop (dgs l).length = rst l := by
  have h := dgs_rst l
  have : (dgs l ++ rst l).drop (dgs l).length = rst l := by simp
  rwa [h] at this
/-- the number that digits tell -/
def vl (l : List UInt8) : Nat := (decFrom 0 l).getD 0
theorem vl_of (l : List UInt8) (h : ∀ b ∈ l, IsDg b) : decFrom 0 l = some (vl l) ∧ vl l < 10 ^ l.length := by
  obtain ⟨v, e, h1, _⟩ := decFrom_dg 0 l h
  unfold vl
  rw [e]
  exact ⟨rfl, by simpa using h1⟩
theorem atoi_vl (l : List UInt8) (h : ∀ b ∈ l, IsDg b) : atoi (48 :: l) = some ((vl l : Nat) : Int) := by
  show (decFrom (0 * 10 + 0) l).map (fun (m : Nat) => (m : Int)) = _
  rw [Nat.zero_mul, (vl_of l h).1]
  rfl
theorem trimL_sub (l : List UInt8) (c : UInt8) : ∀ b ∈ trimLeftB l c, b ∈ l := fun b hb => (List.dropWhile_sublist (· == c) (l := l)).mem hb
theorem trimR_sub (l : List UInt8) (c : UInt8) : ∀ b ∈ trimRightB l c, b ∈ l := fun b hb => by
  unfold trimRightB at hb
  have := (List.dropWhile_sublist (· == c) (l := l.reverse)).mem (List.mem_reverse.1 hb)
  exact List.mem_reverse.1 this
theorem trimL_len (l : List UInt8) (c : UInt8) : (trimLeftB l c).length ≤ l.length := (List.dropWhile_sublist (· == c) (l := l)).length_le
theorem trimR_len (l : List UInt8) (c : UInt8) : (trimRightB l c).length ≤ l.length := by
  unfold trimRightB
  rw [List.length_reverse]
  have := (List.dropWhile_sublist (· == c) (l := l.reverse)).length_le
  simpa using this
theorem noughts_dg (k : Nat) : ∀ b ∈ List.replicate k (48 : UInt8), IsDg b := fun b hb => by
  rw [List.eq_of_mem_replicate hb]; unfold IsDg; decide
theorem app_dg {l m : List UInt8} (h1 : ∀ b ∈ l, IsDg b) (h2 : ∀ b ∈ m, IsDg b) : ∀ b ∈ l ++ m, IsDg b := fun b hb => (List.mem_append.1 hb).elim (h1 b) (h2 b)

/-- the eight digits that are told by those behind the point, noughts behind them struck -/
def eight (d : List UInt8) : List UInt8 := trimRightB d 48 ++ List.replicate (8 - (trimRightB d 48).length) 48
def fin (neg : Bool) (n : Nat) (r : List UInt8) : Option Int := if r = [] ∧ n ≤ 1099511627776 then some (if neg then -(n : Int) else n) else none
/-- what Parse makes of what is behind the whole digits -/
def fpt (neg : Bool) (a : Nat) (r : List UInt8) : Option Int :=
  if hasPrefix r [46] = true then
    if dgs (r.drop 1) = [] then none
    else if 8 < (trimRightB (dgs (r.drop 1)) 48).length then none
    else if vl (eight (dgs (r.drop 1))) % 390625 = 0 then fin neg (a + vl (eight (dgs (r.drop 1))) / 390625) (rst (r.drop 1))
    else none
  else fin neg a r
/-- the text behind the sign -/
def unsg (l : List UInt8) : List UInt8 := if hasPrefix l [45] then l.drop 1 else l
/-- what Parse makes of a text -/
def ps (l : List UInt8) : Option Int :=
  if 30 < l.length then none
  else if dgs (unsg l) = [] then none
  else if 13 < (trimLeftB (dgs (unsg l)) 48).length then none
  else fpt (hasPrefix l [45]) (vl (trimLeftB (dgs (unsg l)) 48) * 256) (rst (unsg l))
/-- its two results -/
def psV (l : List UInt8) : Int := (ps l).getD 0
def psE (l : List UInt8) : Int := if (ps l).isSome then 0 else 30
theorem ps_none {l : List UInt8} (h : ps l = none) : psV l = 0 ∧ psE l = 30 := by unfold psV psE; rw [h]; exact ⟨rfl, rfl⟩
theorem ps_some {l : List UInt8} {n : Int} (h : ps l = some n) : psV l = n ∧ psE l = 0 := by unfold psV psE; rw [h]; exact ⟨rfl, rfl⟩
theorem unsg_len (l : List UInt8) : (unsg l).length ≤ l.length := by
  unfold unsg
  split
  · rw [List.length_drop]; omega
  · exact Nat.le_refl _
end Go.Proofs.YtjmagehfkcnjjaaGreatDoor

/-
  Plain law: what is printed of a number is parsed back, with noughts ahead and behind.
-/
namespace Go.Proofs.YtjmagehfkcnjjaaGreatDoor
set_option linter.unusedVariables false
open Go.Lib

theorem hasPrefix_one (a b : UInt8) (l : List UInt8) : hasPrefix (a :: l) [b] = (b == a) := by
  unfold hasPrefix
  simp [List.isPrefixOf]
theorem dgs_app (l m : List UInt8) (h : ∀ b ∈ l, IsDg b) (hm : ∀ b, m.head? = some b → ¬ IsDg b) : dgs (l ++ m) = l ∧ rst (l ++ m) = m := by
  have hl : ∀ b ∈ l, isD b = true := fun b hb => (isD_iff b).2 (h b hb)
  unfold dgs rst
  rw [List.takeWhile_append_of_pos hl, List.dropWhile_append_of_pos hl]
  cases m with
  | nil => exact ⟨by simp, rfl⟩
  | cons c r =>
    have hc : isD c = false := by
      have := hm c rfl
      cases e : isD c with
      | true => exact absurd ((isD_iff c).1 e) this
      | false => rfl
    rw [List.takeWhile_cons_of_neg (by rw [hc]; decide), List.dropWhile_cons_of_neg (by rw [hc]; decide)]
    exact ⟨by simp, rfl⟩
theorem vl_trimL (l : List UInt8) : vl (trimLeftB l 48) = vl l := by
  induction l with
  | nil => rfl
  | cons a r ih =>
    unfold trimLeftB
    by_cases e : a = 48
    · subst e
      rw [List.dropWhile_cons_of_pos (by rfl)]
      refine Eq.trans ih ?_
      unfold vl
      conv => rhs; unfold decFrom
      rw [show digitVal 48 = some 0 by decide]
    · rw [List.dropWhile_cons_of_neg (by simpa using e)]
theorem vl_noughts (a : Nat) (l : List UInt8) : vl (List.replicate a 48 ++ l) = vl l := by
  unfold vl
  rw [decFrom_app, decFrom_noughts]
  simp
theorem vl_dec (u : Nat) : vl (decDigits u) = u := by unfold vl; rw [dec_val]; rfl
theorem trimR_app (G : List UInt8) (b : Nat) (h : ∀ c, G.getLast? = some c → c ≠ 48) : trimRightB (G ++ List.replicate b 48) 48 = G := by
  unfold trimRightB
  rw [List.reverse_append, List.reverse_replicate, List.dropWhile_append_of_pos (fun c hc => by rw [List.eq_of_mem_replicate hc]; rfl)]
  cases e : G.reverse with
  | nil => rw [List.reverse_eq_nil_iff.1 e]; rfl
  | cons c r =>
    have hG : G.getLast? = some c := by
      rw [← List.head?_reverse, e]; rfl
    have := h c hG
    rw [List.dropWhile_cons_of_neg (by simpa using this), ← e, List.reverse_reverse]
theorem dec_len (u : Nat) (k : Nat) (h : u < 10 ^ (k + 1)) : (decDigits u).length ≤ k + 1 := by
  rw [decDigits_length]
  have : ∀ k v : Nat, v < 10 ^ (k + 1) → nDigits v ≤ k + 1 := by
    intro k
    induction k with
    | zero => intro v hv; rw [nDigits_small (by simpa using hv)]; exact Nat.le_refl _
    | succ k ih =>
      intro v hv
      by_cases h : v < 10
      · rw [nDigits_small h]; omega
      · rw [nDigits_big h]
        have := ih (v / 10) (by rw [Nat.pow_succ] at hv; omega)
        omega
  exact this k u h
/-- what is told without a sign, noughts ahead of it, and behind its digits behind the point -/
def nrt (u a b : Nat) : List UInt8 := List.replicate a 48 ++ (prU u ++ (if u % 256 = 0 then [] else List.replicate b 48))
set_option maxRecDepth 10000 in
theorem ps_nrt (u a b : Nat) (neg : Bool) (hu : u ≤ 1099511627776) (ha : a ≤ 3) (hb : b ≤ 3) :
    ps ((if neg then [45] else []) ++ nrt u a b) = some (if neg then -(u : Int) else u) := by
  obtain ⟨D, G, e, hD, d1, _, dd, _, hG⟩ := prU_facts u (by omega)
  have hPU : 1099511627776 < 9223372036854775808 := by decide
  have d10 : D.length ≤ 10 := by rw [hD]; exact dec_len (u / 256) 9 (by omega)
  obtain ⟨E, hE⟩ : ∃ E, E = List.replicate a 48 ++ D := ⟨_, rfl⟩
  have hEd : ∀ c ∈ E, IsDg c := by rw [hE]; exact app_dg (noughts_dg a) dd
  have hEl : E.length ≤ 13 ∧ 1 ≤ E.length := by rw [hE, List.length_append, List.length_replicate]; omega
  have hEv : vl E = u / 256 := by rw [hE, vl_noughts, hD, vl_dec]
  obtain ⟨F, hF⟩ : ∃ F, F = (if u % 256 = 0 then [] else 46 :: (G ++ List.replicate b 48)) := ⟨_, rfl⟩
  have hn : nrt u a b = E ++ F := by
    unfold nrt
    rw [e, hE, hF]
    by_cases h : u % 256 = 0
    · rw [if_pos h, if_pos h, if_pos h]; simp
    · rw [if_neg h, if_neg h, if_neg h]; simp
  have hFl : F.length ≤ 12 := by
    rw [hF]
    by_cases h : u % 256 = 0
    · rw [if_pos h]; simp
    · rw [if_neg h]
      have := (hG h).2.1
      rw [List.length_cons, List.length_append, List.length_replicate]; omega
  have hFh : ∀ c, F.head? = some c → ¬ IsDg c := fun c hc => by
    rw [hF] at hc
    by_cases h : u % 256 = 0
    · rw [if_pos h] at hc; cases hc
    · rw [if_neg h] at hc
      obtain rfl := Option.some.inj hc
      unfold IsDg; decide
  obtain ⟨l, hl⟩ : ∃ l, l = (if neg then [45] else []) ++ nrt u a b := ⟨_, rfl⟩
  have hu1 : unsg l = E ++ F ∧ hasPrefix l [45] = neg := by
    rw [hl, hn]
    cases neg
    · have : hasPrefix (E ++ F) [45] = false := by
        cases E with
        | nil => simp at hEl
        | cons c r =>
          rw [List.cons_append, hasPrefix_one]
          have hc := hEd c (List.mem_cons_self ..)
          unfold IsDg at hc
          refine beq_eq_false_iff_ne.2 fun e => ?_
          subst e
          exact absurd hc.1 (by decide)
      refine ⟨?_, by simpa using this⟩
      show unsg (E ++ F) = _
      unfold unsg
      rw [this]; rfl
    · refine ⟨?_, by simp [hasPrefix_one]⟩
      show unsg (45 :: (E ++ F)) = _
      unfold unsg
      rw [hasPrefix_one]; rfl
  have hll : l.length ≤ 30 := by
    rw [hl, hn, List.length_append, List.length_append]
    have : (if neg then [45] else ([] : List UInt8)).length ≤ 1 := by cases neg <;> simp
    omega
  obtain ⟨g1, g2⟩ := dgs_app E F hEd hFh
  rw [← hl]
  unfold ps
  rw [if_neg (by omega), hu1.1, hu1.2, g1, g2, if_neg (by intro h; rw [h] at hEl; simp at hEl), if_neg (by have := trimL_len E 48; omega), vl_trimL, hEv]
  have hfin : ∀ r, r < 256 → u / 256 * 256 + r = u → fin neg (u / 256 * 256 + r) [] = some (if neg then -(u : Int) else u) := fun r _ h => by
    unfold fin
    rw [h, if_pos ⟨rfl, hu⟩]
  unfold fpt
  by_cases h : u % 256 = 0
  · rw [hF, if_pos h, if_neg (by simp [hasPrefix])]
    exact hfin 0 (by omega) (by omega)
  · obtain ⟨h1, h2, h3, h4, h5⟩ := hG h
    have hp : hasPrefix F [46] = true := by rw [hF, if_neg h, hasPrefix_one]; rfl
    have hd1 : F.drop 1 = G ++ List.replicate b 48 := by rw [hF, if_neg h]; rfl
    obtain ⟨k1, k2⟩ := dgs_app (G ++ List.replicate b 48) [] (app_dg h3 (noughts_dg b)) (fun c hc => by cases hc)
    rw [List.append_nil] at k1 k2
    rw [if_pos hp, hd1, k1, k2, if_neg (by intro e; have := congrArg List.length e; rw [List.length_append] at this; simp at this; rw [this.1] at h1; simp at h1), trimR_app G b h4, if_neg (by omega)]
    have hv : vl (eight (G ++ List.replicate b 48)) = u % 256 * 390625 := by
      unfold eight vl
      rw [trimR_app G b h4, h5]; rfl
    rw [hv, if_pos (by omega), Nat.mul_div_cancel _ (by decide)]
    exact hfin (u % 256) (by omega) (by omega)
theorem prn_nrt (n : Int) : prn n = (if decide (n < 0) then [45] else []) ++ nrt n.natAbs 0 0 := by
  unfold prn nrt
  by_cases h : n < 0
  · rw [if_pos h]; simp [h]
  · rw [if_neg h]; simp [h]
end Go.Proofs.YtjmagehfkcnjjaaGreatDoor

/-
  Plain law: what the document's Parse makes of a text is what ps does.
-/
namespace Go.Proofs.YtjmagehfkcnjjaaGreatDoor
set_option linter.unusedVariables false
open Go.Lib

def stripz (l : List UInt8) : List UInt8 := if trimRightB l 48 = [] then l.take 1 else trimRightB l 48
def dck (neg : Bool) (s p : Nat) : Option Int := if s * 256 + p ≤ 1099511627776 then some (if neg then -((s * 256 + p : Nat) : Int) else ((s * 256 + p : Nat) : Int)) else none
/-- behind the point -/
def rpt (neg : Bool) (s : Nat) (t : List UInt8) : Option Int :=
  if 8 < t.length then none
  else if dgs t ≠ t then none
  else if vl t * 256 % 10 ^ t.length = 0 then dck neg s (vl t * 256 / 10 ^ t.length) else none
def rps (l : List UInt8) : Option Int :=
  if 30 < l.length then none
  else if dgs (unsg l) = [] then none
  else if rst (unsg l) = [] then dck (hasPrefix l [45]) (min (vl (dgs (unsg l))) 1099511627776) 0
  else if hasPrefix (rst (unsg l)) [46] = true ∧ 2 ≤ (rst (unsg l)).length then rpt (hasPrefix l [45]) (min (vl (dgs (unsg l))) 1099511627776) (stripz ((rst (unsg l)).drop 1))
  else none
theorem dgs_eq (l : List UInt8) (h : ∀ b ∈ l, IsDg b) : dgs l = l ∧ rst l = [] := by
  have := dgs_app l [] h (fun b hb => by cases hb)
  rwa [List.append_nil] at this
theorem vl_low (l : List UInt8) (c : UInt8) (hd : ∀ b ∈ c :: l, IsDg b) (hc : c ≠ 48) : 10 ^ l.length ≤ vl (c :: l) := by
  have h1 := hd c (List.mem_cons_self ..)
  have hcn : 49 ≤ c.toNat := by
    unfold IsDg at h1
    have : c.toNat ≠ 48 := fun e => hc (UInt8.toNat_inj.1 e)
    omega
  obtain ⟨v, e, _, h3⟩ := decFrom_dg (0 * 10 + (c.toNat - 48)) l fun b hb => hd b (List.mem_cons_of_mem c hb)
  have : decFrom 0 (c :: l) = some v := by
    unfold decFrom
    rw [dg_val c h1]; exact e
  unfold vl
  rw [this]
  refine Nat.le_trans ?_ h3
  refine Nat.le_trans (Nat.le_of_eq (Nat.one_mul _).symm) (Nat.mul_le_mul_right _ (by omega))
theorem trimL_head (l : List UInt8) (c b : UInt8) (h : (trimLeftB l c).head? = some b) : b ≠ c := by
  unfold trimLeftB at h
  have := List.head?_dropWhile_not (· == c) l
  rw [h] at this
  intro e
  subst e
  simp at this
theorem vl_long (d : List UInt8) (hd : ∀ b ∈ d, IsDg b) (h : 13 < (trimLeftB d 48).length) : 10000000000000 ≤ vl d := by
  rw [← vl_trimL d]
  have hs := fun b hb => hd b (trimL_sub d 48 b hb)
  cases e : trimLeftB d 48 with
  | nil => rw [e] at h; simp at h
  | cons c r =>
    rw [e] at h hs
    have h1 := vl_low r c hs (trimL_head d 48 c (by rw [e]; rfl))
    refine Nat.le_trans ?_ h1
    rw [List.length_cons] at h
    exact Nat.le_trans (by decide) (Nat.pow_le_pow_right (show 0 < 10 by decide) (show 13 ≤ r.length by omega))
theorem fin_chk (neg : Bool) (v p : Nat) : fin neg (v * 256 + p) [] = dck neg (min v 1099511627776) p := by
  unfold fin dck
  by_cases h : v ≤ 1099511627776
  · rw [Nat.min_eq_left h]; simp
  · rw [Nat.min_eq_right (by omega), if_neg (by omega), if_neg (by omega)]
theorem fin_no (neg : Bool) (n : Nat) (r : List UInt8) (h : r ≠ []) : fin neg n r = none := by unfold fin; rw [if_neg (fun e => h e.1)]
theorem chk_no (neg : Bool) (v p : Nat) (h : 10000000000000 ≤ v) : dck neg (min v 1099511627776) p = none := by
  unfold dck
  rw [Nat.min_eq_right (by omega), if_neg (by omega)]
theorem stripz_mem (l : List UInt8) (b : UInt8) (hb : b ∈ l) (hd : ¬ IsDg b) : b ∈ stripz l := by
  obtain ⟨k, hk⟩ := trim_split l 48
  have h1 : b ∈ trimRightB l 48 := by
    rw [hk] at hb
    rcases List.mem_append.1 hb with h | h
    · exact h
    · rw [List.eq_of_mem_replicate h] at hd
      exact absurd (by unfold IsDg; decide) hd
  unfold stripz
  rw [if_neg (fun e => by rw [e] at h1; cases h1)]
  exact h1
theorem rpt_bad (neg : Bool) (s : Nat) (t : List UInt8) (b : UInt8) (hb : b ∈ t) (hd : ¬ IsDg b) : rpt neg s t = none := by
  unfold rpt
  split
  · rfl
  · rw [if_pos]
    intro e
    rw [← e] at hb
    exact hd (dgs_all t b hb)
theorem rpt_long (neg : Bool) (v : Nat) (t : List UInt8) (h : 10000000000000 ≤ v) : rpt neg (min v 1099511627776) t = none := by
  unfold rpt
  split
  · rfl
  · split
    · rfl
    · split
      · exact chk_no _ _ _ h
      · rfl
theorem vl_app_noughts (t : List UInt8) (k : Nat) (h : ∀ b ∈ t, IsDg b) : vl (t ++ List.replicate k 48) = vl t * 10 ^ k := by
  have := (vl_of t h).1
  unfold vl
  rw [decFrom_app, this]
  show (decFrom (vl t) _).getD 0 = _
  rw [decFrom_noughts]; rfl
theorem parts_same (num k : Nat) (hk : k ≤ 8) : (num * 256 % 10 ^ k = 0 ↔ num * 10 ^ (8 - k) % 390625 = 0) ∧ (num * 256 % 10 ^ k = 0 → num * 256 / 10 ^ k = num * 10 ^ (8 - k) / 390625) := by
  have hPQ : 10 ^ k * 10 ^ (8 - k) = 390625 * 256 := by
    rw [← Nat.pow_add, show k + (8 - k) = 8 by omega]
  have hQ : 0 < 10 ^ (8 - k) := Nat.pow_pos (by decide)
  have hN : num * 256 * 10 ^ (8 - k) = num * 10 ^ (8 - k) * 256 := Nat.mul_right_comm _ _ _
  have h1 := Nat.mul_mod_mul_right (10 ^ (8 - k)) (num * 256) (10 ^ k)
  have h2 := Nat.mul_mod_mul_right 256 (num * 10 ^ (8 - k)) 390625
  have h3 := Nat.mul_div_mul_right (num * 256) (10 ^ k) hQ
  have h4 := Nat.mul_div_mul_right (num * 10 ^ (8 - k)) 390625 (show 0 < 256 by decide)
  rw [hPQ, hN] at h1 h3
  rw [h1] at h2
  rw [h3] at h4
  refine ⟨⟨fun h => ?_, fun h => ?_⟩, fun _ => h4⟩
  · rw [h, Nat.zero_mul] at h2
    omega
  · rw [h, Nat.zero_mul] at h2
    exact (Nat.mul_eq_zero.1 h2).resolve_right (Nat.ne_of_gt hQ)
theorem rpt_fpt (neg : Bool) (v : Nat) (t : List UInt8) (hv : ¬ 13 < (trimLeftB t 48).length ∨ True) (hne : t ≠ []) : rpt neg (min v 1099511627776) (stripz t) = fpt neg (v * 256) (46 :: t) := by
  unfold fpt
  rw [if_pos (by rw [hasPrefix_one]; rfl)]
  show _ = if dgs t = [] then none else _
  show rpt neg (min v 1099511627776) (stripz t) = if dgs t = [] then none else if 8 < (trimRightB (dgs t) 48).length then none else if vl (eight (dgs t)) % 390625 = 0 then fin neg (v * 256 + vl (eight (dgs t)) / 390625) (rst t) else none
  by_cases hd : ∀ b ∈ t, IsDg b
  · obtain ⟨e1, e2⟩ := dgs_eq t hd
    rw [e1, e2, if_neg hne]
    have hs : ∀ b ∈ trimRightB t 48, IsDg b := fun b hb => hd b (trimR_sub t 48 b hb)
    by_cases h8 : 8 < (trimRightB t 48).length
    · rw [if_pos h8]
      have hz : trimRightB t 48 ≠ [] := fun h => by rw [h] at h8; simp at h8
      have hz' : stripz t = trimRightB t 48 := by unfold stripz; rw [if_neg hz]
      rw [hz']
      unfold rpt
      rw [if_pos h8]
    · rw [if_neg h8]
      have h8' : (trimRightB t 48).length ≤ 8 := by omega
      have hv : vl (eight t) = vl (trimRightB t 48) * 10 ^ (8 - (trimRightB t 48).length) := vl_app_noughts _ _ hs
      rw [hv]
      by_cases hz : trimRightB t 48 = []
      · obtain ⟨k, hk⟩ := trim_split t 48
        rw [hz, List.nil_append] at hk
        have ht1 : t.take 1 = [48] := by
          cases k with
          | zero => rw [hk] at hne; exact absurd rfl hne
          | succ k => rw [hk]; rfl
        unfold stripz
        rw [if_pos hz, ht1, hz]
        unfold rpt
        rw [if_neg (by decide), if_neg (by decide), show vl [48] = 0 from rfl, show vl ([] : List UInt8) = 0 from rfl]
        simp only [Nat.zero_mul, Nat.zero_mod, Nat.zero_div, if_true]
        exact (fin_chk neg v 0).symm
      · have hz' : stripz t = trimRightB t 48 := by unfold stripz; rw [if_neg hz]
        rw [hz']
        unfold rpt
        rw [if_neg h8, if_neg (by simpa using (dgs_eq _ hs).1)]
        obtain ⟨p1, p2⟩ := parts_same (vl (trimRightB t 48)) _ h8'
        by_cases hm : vl (trimRightB t 48) * 256 % 10 ^ (trimRightB t 48).length = 0
        · rw [if_pos hm, if_pos (p1.1 hm), p2 hm, fin_chk]
        · rw [if_neg hm, if_neg (fun e => hm (p1.2 e))]
  · obtain ⟨b, hb, hbd⟩ : ∃ b, b ∈ t ∧ ¬ IsDg b := Classical.byContradiction fun h => hd fun b hb => Classical.byContradiction fun h' => h ⟨b, hb, h'⟩
    rw [rpt_bad neg _ _ b (stripz_mem t b hb hbd) hbd]
    have hr : rst t ≠ [] := fun e => by
      have := dgs_rst t
      rw [e, List.append_nil] at this
      rw [← this] at hb
      exact hbd (dgs_all t b hb)
    split
    · rfl
    · split
      · rfl
      · split
        · exact (fin_no _ _ _ hr).symm
        · rfl
set_option maxRecDepth 10000 in
theorem rps_ps (l : List UInt8) : rps l = ps l := by
  unfold rps ps
  by_cases h30 : 30 < l.length
  · rw [if_pos h30, if_pos h30]
  rw [if_neg h30, if_neg h30]
  by_cases hd : dgs (unsg l) = []
  · rw [if_pos hd, if_pos hd]
  rw [if_neg hd, if_neg hd]
  have hda := dgs_all (unsg l)
  obtain ⟨neg, hneg⟩ : ∃ neg, neg = hasPrefix l [45] := ⟨_, rfl⟩
  rw [← hneg]
  generalize dgs (unsg l) = d at *
  generalize rst (unsg l) = r at *
  by_cases h13 : 13 < (trimLeftB d 48).length
  · rw [if_pos h13]
    have hv := vl_long d hda h13
    split
    · exact chk_no _ _ _ hv
    · split
      · exact rpt_long _ _ _ hv
      · rfl
  · rw [if_neg h13, vl_trimL]
    by_cases hr : r = []
    · subst hr
      rw [if_pos rfl]
      unfold fpt
      rw [if_neg (by simp [hasPrefix])]
      exact (fin_chk neg (vl d) 0).symm
    · rw [if_neg hr]
      by_cases hp : hasPrefix r [46] = true
      · cases r with
        | nil => exact absurd rfl hr
        | cons c t =>
          rw [hasPrefix_one] at hp
          obtain rfl : (46 : UInt8) = c := eq_of_beq hp
          by_cases ht : t = []
          · subst ht
            rw [if_neg (by simp)]
            unfold fpt
            rw [if_pos (by rw [hasPrefix_one]; rfl)]
            rw [show dgs (List.drop 1 [46]) = [] from rfl, if_pos rfl]
          · rw [if_pos ⟨by rw [hasPrefix_one]; rfl, by have := List.length_pos_iff.2 ht; rw [List.length_cons]; omega⟩]
            exact rpt_fpt neg (vl d) t (.inr trivial) ht
      · rw [if_neg (fun h => hp h.1)]
        unfold fpt
        rw [if_neg hp]
        exact (fin_no _ _ _ hr).symm
end Go.Proofs.YtjmagehfkcnjjaaGreatDoor

/-
  Plain law: the digits behind the point, one by one.
-/
namespace Go.Proofs.YtjmagehfkcnjjaaGreatDoor
set_option linter.unusedVariables false
open Go.Lib

theorem vl_cons (b : UInt8) (l : List UInt8) (h : ∀ c ∈ b :: l, IsDg c) : vl (b :: l) = (b.toNat - 48) * 10 ^ l.length + vl l ∧ vl l < 10 ^ l.length := by
  have hb := h b (List.mem_cons_self ..)
  have hl := fun c hc => h c (List.mem_cons_of_mem b hc)
  have hv := vl_of l hl
  refine ⟨?_, hv.2⟩
  have key : ∀ (m : List UInt8) (a v : Nat), (∀ c ∈ m, IsDg c) → decFrom 0 m = some v → decFrom a m = some (a * 10 ^ m.length + v) := by
    intro m
    induction m with
    | nil => intro a v _ h; simp only [decFrom, Option.some.injEq] at h; subst h; simp [decFrom]
    | cons c t ih =>
      intro a v hm h
      have ht := fun d hd => hm d (List.mem_cons_of_mem c hd)
      have hc : IsDg c := hm c (List.mem_cons_self ..)
      have e1 := (vl_of t ht).1
      have one : ∀ x, decFrom x (c :: t) = decFrom (x * 10 + (c.toNat - 48)) t := fun x => by
        conv => lhs; unfold decFrom
        rw [dg_val c hc]
      rw [one, ih _ _ ht e1] at h
      rw [one, ih _ _ ht e1, ← Option.some.inj h]
      congr 1
      rw [List.length_cons, Nat.pow_succ, Nat.add_mul, Nat.add_mul, Nat.mul_assoc a, Nat.mul_comm 10]
      omega
  have e : decFrom 0 (b :: l) = decFrom (0 * 10 + (b.toNat - 48)) l := by
    conv => lhs; unfold decFrom
    rw [dg_val b hb]
  unfold vl
  rw [e, Nat.zero_mul, Nat.zero_add, key l _ _ hl hv.1]
  rfl
/-- what is left, and the digits that tell it -/
def Lf (left : Nat) (G : List UInt8) : Prop := left < 256 ∧ left * 10 ^ G.length = vl G * 256 ∧ (∀ b ∈ G, IsDg b) ∧ (∀ b, G.getLast? = some b → b ≠ 48)
theorem Lf.step {left : Nat} {b : UInt8} {G : List UInt8} (h : Lf left (b :: G)) : left * 10 / 256 = b.toNat - 48 ∧ Lf (left * 10 % 256) G := by
  obtain ⟨h1, h2, h3, h4⟩ := h
  obtain ⟨e, hv⟩ := vl_cons b G h3
  rw [e, List.length_cons, Nat.pow_succ] at h2
  have hM : 0 < 10 ^ G.length := Nat.pow_pos (by decide)
  obtain ⟨M, hMe⟩ : ∃ M, M = 10 ^ G.length := ⟨_, rfl⟩
  rw [← hMe] at h2 hM hv
  generalize b.toNat - 48 = d at *
  have h5 : left * 10 * M = d * 256 * M + vl G * 256 := by
    have : left * (M * 10) = left * 10 * M := by rw [Nat.mul_comm M 10, Nat.mul_assoc]
    rw [← this, h2, Nat.add_mul, Nat.mul_assoc, Nat.mul_comm M 256, ← Nat.mul_assoc]
  have h6 : d * 256 ≤ left * 10 := Nat.le_of_mul_le_mul_right (by omega : d * 256 * M ≤ left * 10 * M) hM
  obtain ⟨k, hk⟩ : ∃ k, left * 10 = d * 256 + k := ⟨left * 10 - d * 256, by omega⟩
  rw [hk, Nat.add_mul] at h5
  have h7 : k * M = vl G * 256 := by omega
  have h8 : k < 256 := by
    refine Nat.lt_of_mul_lt_mul_right (a := M) ?_
    rw [h7, Nat.mul_comm 256 M]
    exact Nat.mul_lt_mul_of_pos_right hv (by decide)
  rw [hk]
  refine ⟨by omega, ?_⟩
  rw [show (d * 256 + k) % 256 = k by omega]
  exact ⟨h8, hMe ▸ h7, fun c hc => h3 c (List.mem_cons_of_mem b hc), fun c hc => h4 c (by
    cases G with
    | nil => cases hc
    | cons x y => rw [List.getLast?_cons_cons]; exact hc)⟩
theorem Lf.pos {left : Nat} {b : UInt8} {G : List UInt8} (h : Lf left (b :: G)) : 0 < left := by
  obtain ⟨h1, h2, h3, h4⟩ := h
  have key : ∀ (l : List UInt8), (∀ c ∈ l, IsDg c) → (∀ c, l.getLast? = some c → c ≠ 48) → l ≠ [] → 0 < vl l := by
    intro l
    induction l with
    | nil => intro _ _ h; exact absurd rfl h
    | cons x y ih =>
      intro hd hl _
      obtain ⟨e, _⟩ := vl_cons x y hd
      rw [e]
      cases y with
      | nil =>
        have hx := hl x rfl
        have hxd := hd x (List.mem_cons_self ..)
        have : x.toNat ≠ 48 := fun e => hx (UInt8.toNat_inj.1 e)
        unfold IsDg at hxd
        show 0 < (x.toNat - 48) * 1 + vl []
        omega
      | cons z t =>
        have := ih (fun c hc => hd c (List.mem_cons_of_mem x hc)) (fun c hc => hl c (by rw [List.getLast?_cons_cons]; exact hc)) (by simp)
        omega
  have hv := key (b :: G) h3 h4 (by simp)
  rcases Nat.eq_zero_or_pos left with e | e
  · rw [e, Nat.zero_mul] at h2; omega
  · exact e
theorem Lf.nil {left : Nat} (h : Lf left []) : left = 0 := by
  obtain ⟨h1, h2, _⟩ := h
  have : vl ([] : List UInt8) = 0 := rfl
  rw [this] at h2
  simpa using h2
/-- the digits behind the point, of the parts that are left -/
theorem prF_Lf (r : Nat) (h0 : 0 < r) (h9 : r < 256) : ∃ G, prF r = 46 :: G ∧ Lf r G ∧ G.length ≤ 8 := by
  obtain ⟨G, k, hG, g1, g2, g3, g4, g5⟩ := frac r h0 h9
  refine ⟨G, by unfold prF; rw [if_neg (by omega), hG], ⟨h9, ?_, g3, g4⟩, by omega⟩
  have hv : vl G * 10 ^ k = r * 390625 := by
    rw [← vl_app_noughts G k g3]
    unfold vl
    rw [g5]; rfl
  have hQ : 0 < 10 ^ k := Nat.pow_pos (by decide)
  refine Nat.eq_of_mul_eq_mul_right hQ ?_
  rw [Nat.mul_assoc, ← Nat.pow_add, g2, Nat.mul_right_comm, hv]
  omega
theorem dig_byte (b : UInt8) (h : IsDg b) : decDigits (b.toNat - 48) = [b] := by
  unfold IsDg at h
  rw [decDigits, dif_pos (by omega)]
  congr 1
  apply UInt8.toNat_inj.1
  rw [show 48 + (b.toNat - 48) = b.toNat by omega]
  simp
end Go.Proofs.YtjmagehfkcnjjaaGreatDoor
