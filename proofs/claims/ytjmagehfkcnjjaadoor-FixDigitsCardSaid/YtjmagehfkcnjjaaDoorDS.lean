/-
  Plain law: what the document's Parse makes of a text is what ps does.
-/
import Derived.Test.YtjmagehfkcnjjaaDoorDR
namespace Go.Proofs.YtjmagehfkcnjjaaDoor
set_option linter.unusedVariables false
open Go.Lib

def stripz (l : List UInt8) : List UInt8 := if trimRightB l 48 = [] then l.take 1 else trimRightB l 48
def chk (neg : Bool) (s p : Nat) : Option Int := if s * 256 + p ≤ 1099511627776 then some (if neg then -((s * 256 + p : Nat) : Int) else ((s * 256 + p : Nat) : Int)) else none
/-- behind the point -/
def rpt (neg : Bool) (s : Nat) (t : List UInt8) : Option Int :=
  if 8 < t.length then none
  else if dgs t ≠ t then none
  else if vl t * 256 % 10 ^ t.length = 0 then chk neg s (vl t * 256 / 10 ^ t.length) else none
def rps (l : List UInt8) : Option Int :=
  if 30 < l.length then none
  else if dgs (unsg l) = [] then none
  else if rst (unsg l) = [] then chk (hasPrefix l [45]) (min (vl (dgs (unsg l))) 1099511627776) 0
  else if hasPrefix (rst (unsg l)) [46] = true ∧ 2 ≤ (rst (unsg l)).length then rpt (hasPrefix l [45]) (min (vl (dgs (unsg l))) 1099511627776) (stripz ((rst (unsg l)).drop 1))
  else none
theorem dgs_eq (l : List UInt8) (h : ∀ b ∈ l, IsDg b) : dgs l = l ∧ rst l = [] := by
  have := dgs_app l [] h (fun b hb => by cases hb)
  rwa [List.append_nil] at this
theorem vl_low (l : List UInt8) (c : UInt8) (hd : ∀ b ∈ c :: l, IsDg b) (hc : c ≠ 48) : 10 ^ l.length ≤ vl (c :: l) := by
  have h1 := hd c (List.mem_cons_self ..)
  have hcn : 49 ≤ c.toNat := by
    unfold IsDg at h1
    have : c.toNat ≠ 48 := fun e => hc (UInt8.toNat_inj.1 e)
    omega
  obtain ⟨v, e, _, h3⟩ := decFrom_dg (0 * 10 + (c.toNat - 48)) l fun b hb => hd b (List.mem_cons_of_mem c hb)
  have : decFrom 0 (c :: l) = some v := by
    unfold decFrom
    rw [dg_val c h1]; exact e
  unfold vl
  rw [this]
  refine Nat.le_trans ?_ h3
  refine Nat.le_trans (Nat.le_of_eq (Nat.one_mul _).symm) (Nat.mul_le_mul_right _ (by omega))
theorem trimL_head (l : List UInt8) (c b : UInt8) (h : (trimLeftB l c).head? = some b) : b ≠ c := by
  unfold trimLeftB at h
  have := List.head?_dropWhile_not (· == c) l
  rw [h] at this
  intro e
  subst e
  simp at this
theorem vl_long (d : List UInt8) (hd : ∀ b ∈ d, IsDg b) (h : 13 < (trimLeftB d 48).length) : 10000000000000 ≤ vl d := by
  rw [← vl_trimL d]
  have hs := fun b hb => hd b (trimL_sub d 48 b hb)
  cases e : trimLeftB d 48 with
  | nil => rw [e] at h; simp at h
  | cons c r =>
    rw [e] at h hs
    have h1 := vl_low r c hs (trimL_head d 48 c (by rw [e]; rfl))
    refine Nat.le_trans ?_ h1
    rw [List.length_cons] at h
    exact Nat.le_trans (by decide) (Nat.pow_le_pow_right (show 0 < 10 by decide) (show 13 ≤ r.length by omega))
theorem fin_chk (neg : Bool) (v p : Nat) : fin neg (v * 256 + p) [] = chk neg (min v 1099511627776) p := by
  unfold fin chk
  by_cases h : v ≤ 1099511627776
  · rw [Nat.min_eq_left h]; simp
  · rw [Nat.min_eq_right (by omega), if_neg (by omega), if_neg (by omega)]
theorem fin_no (neg : Bool) (n : Nat) (r : List UInt8) (h : r ≠ []) : fin neg n r = none := by unfold fin; rw [if_neg (fun e => h e.1)]
theorem chk_no (neg : Bool) (v p : Nat) (h : 10000000000000 ≤ v) : chk neg (min v 1099511627776) p = none := by
  unfold chk
  rw [Nat.min_eq_right (by omega), if_neg (by omega)]
theorem stripz_mem (l : List UInt8) (b : UInt8) (hb : b ∈ l) (hd : ¬ IsDg b) : b ∈ stripz l := by
  obtain ⟨k, hk⟩ := trim_split l 48
  have h1 : b ∈ trimRightB l 48 := by
    rw [hk] at hb
    rcases List.mem_append.1 hb with h | h
    · exact h
    · rw [List.eq_of_mem_replicate h] at hd
      exact absurd (by unfold IsDg; decide) hd
  unfold stripz
  rw [if_neg (fun e => by rw [e] at h1; cases h1)]
  exact h1
theorem rpt_bad (neg : Bool) (s : Nat) (t : List UInt8) (b : UInt8) (hb : b ∈ t) (hd : ¬ IsDg b) : rpt neg s t = none := by
  unfold rpt
  split
  · rfl
  · rw [if_pos]
    intro e
    rw [← e] at hb
    exact hd (dgs_all t b hb)
theorem rpt_long (neg : Bool) (v : Nat) (t : List UInt8) (h : 10000000000000 ≤ v) : rpt neg (min v 1099511627776) t = none := by
  unfold rpt
  split
  · rfl
  · split
    · rfl
    · split
      · exact chk_no _ _ _ h
      · rfl
theorem vl_app_noughts (t : List UInt8) (k : Nat) (h : ∀ b ∈ t, IsDg b) : vl (t ++ List.replicate k 48) = vl t * 10 ^ k := by
  have := (vl_of t h).1
  unfold vl
  rw [decFrom_app, this]
  show (decFrom (vl t) _).getD 0 = _
  rw [decFrom_noughts]; rfl
theorem parts_same (num k : Nat) (hk : k ≤ 8) : (num * 256 % 10 ^ k = 0 ↔ num * 10 ^ (8 - k) % 390625 = 0) ∧ (num * 256 % 10 ^ k = 0 → num * 256 / 10 ^ k = num * 10 ^ (8 - k) / 390625) := by
  have hPQ : 10 ^ k * 10 ^ (8 - k) = 390625 * 256 := by
    rw [← Nat.pow_add, show k + (8 - k) = 8 by omega]
  have hQ : 0 < 10 ^ (8 - k) := Nat.pow_pos (by decide)
  have hN : num * 256 * 10 ^ (8 - k) = num * 10 ^ (8 - k) * 256 := Nat.mul_right_comm _ _ _
  have h1 := Nat.mul_mod_mul_right (10 ^ (8 - k)) (num * 256) (10 ^ k)
  have h2 := Nat.mul_mod_mul_right 256 (num * 10 ^ (8 - k)) 390625
  have h3 := Nat.mul_div_mul_right (num * 256) (10 ^ k) hQ
  have h4 := Nat.mul_div_mul_right (num * 10 ^ (8 - k)) 390625 (show 0 < 256 by decide)
  rw [hPQ, hN] at h1 h3
  rw [h1] at h2
  rw [h3] at h4
  refine ⟨⟨fun h => ?_, fun h => ?_⟩, fun _ => h4⟩
  · rw [h, Nat.zero_mul] at h2
    omega
  · rw [h, Nat.zero_mul] at h2
    exact (Nat.mul_eq_zero.1 h2).resolve_right (Nat.ne_of_gt hQ)
theorem rpt_fpt (neg : Bool) (v : Nat) (t : List UInt8) (hv : ¬ 13 < (trimLeftB t 48).length ∨ True) (hne : t ≠ []) : rpt neg (min v 1099511627776) (stripz t) = fpt neg (v * 256) (46 :: t) := by
  unfold fpt
  rw [if_pos (by rw [hasPrefix_one]; rfl)]
  show _ = if dgs t = [] then none else _
  show rpt neg (min v 1099511627776) (stripz t) = if dgs t = [] then none else if 8 < (trimRightB (dgs t) 48).length then none else if vl (eight (dgs t)) % 390625 = 0 then fin neg (v * 256 + vl (eight (dgs t)) / 390625) (rst t) else none
  by_cases hd : ∀ b ∈ t, IsDg b
  · obtain ⟨e1, e2⟩ := dgs_eq t hd
    rw [e1, e2, if_neg hne]
    have hs : ∀ b ∈ trimRightB t 48, IsDg b := fun b hb => hd b (trimR_sub t 48 b hb)
    by_cases h8 : 8 < (trimRightB t 48).length
    · rw [if_pos h8]
      have hz : trimRightB t 48 ≠ [] := fun h => by rw [h] at h8; simp at h8
      have hz' : stripz t = trimRightB t 48 := by unfold stripz; rw [if_neg hz]
      rw [hz']
      unfold rpt
      rw [if_pos h8]
    · rw [if_neg h8]
      have h8' : (trimRightB t 48).length ≤ 8 := by omega
      have hv : vl (eight t) = vl (trimRightB t 48) * 10 ^ (8 - (trimRightB t 48).length) := vl_app_noughts _ _ hs
      rw [hv]
      by_cases hz : trimRightB t 48 = []
      · obtain ⟨k, hk⟩ := trim_split t 48
        rw [hz, List.nil_append] at hk
        have ht1 : t.take 1 = [48] := by
          cases k with
          | zero => rw [hk] at hne; exact absurd rfl hne
          | succ k => rw [hk]; rfl
        unfold stripz
        rw [if_pos hz, ht1, hz]
        unfold rpt
        rw [if_neg (by decide), if_neg (by decide), show vl [48] = 0 from rfl, show vl ([] : List UInt8) = 0 from rfl]
        simp only [Nat.zero_mul, Nat.zero_mod, Nat.zero_div, if_true]
        exact (fin_chk neg v 0).symm
      · have hz' : stripz t = trimRightB t 48 := by unfold stripz; rw [if_neg hz]
        rw [hz']
        unfold rpt
        rw [if_neg h8, if_neg (by simpa using (dgs_eq _ hs).1)]
        obtain ⟨p1, p2⟩ := parts_same (vl (trimRightB t 48)) _ h8'
        by_cases hm : vl (trimRightB t 48) * 256 % 10 ^ (trimRightB t 48).length = 0
        · rw [if_pos hm, if_pos (p1.1 hm), p2 hm, fin_chk]
        · rw [if_neg hm, if_neg (fun e => hm (p1.2 e))]
  · obtain ⟨b, hb, hbd⟩ : ∃ b, b ∈ t ∧ ¬ IsDg b := Classical.byContradiction fun h => hd fun b hb => Classical.byContradiction fun h' => h ⟨b, hb, h'⟩
    rw [rpt_bad neg _ _ b (stripz_mem t b hb hbd) hbd]
    have hr : rst t ≠ [] := fun e => by
      have := dgs_rst t
      rw [e, List.append_nil] at this
      rw [← this] at hb
      exact hbd (dgs_all t b hb)
    split
    · rfl
    · split
      · rfl
      · split
        · exact (fin_no _ _ _ hr).symm
        · rfl
set_option maxRecDepth 10000 in
theorem rps_ps (l : List UInt8) : rps l = ps l := by
  unfold rps ps
  by_cases h30 : 30 < l.length
  · rw [if_pos h30, if_pos h30]
  rw [if_neg h30, if_neg h30]
  by_cases hd : dgs (unsg l) = []
  · rw [if_pos hd, if_pos hd]
  rw [if_neg hd, if_neg hd]
  have hda := dgs_all (unsg l)
  obtain ⟨neg, hneg⟩ : ∃ neg, neg = hasPrefix l [45] := ⟨_, rfl⟩
  rw [← hneg]
  generalize dgs (unsg l) = d at *
  generalize rst (unsg l) = r at *
  by_cases h13 : 13 < (trimLeftB d 48).length
  · rw [if_pos h13]
    have hv := vl_long d hda h13
    split
    · exact chk_no _ _ _ hv
    · split
      · exact rpt_long _ _ _ hv
      · rfl
  · rw [if_neg h13, vl_trimL]
    by_cases hr : r = []
    · subst hr
      rw [if_pos rfl]
      unfold fpt
      rw [if_neg (by simp [hasPrefix])]
      exact (fin_chk neg (vl d) 0).symm
    · rw [if_neg hr]
      by_cases hp : hasPrefix r [46] = true
      · cases r with
        | nil => exact absurd rfl hr
        | cons c t =>
          rw [hasPrefix_one] at hp
          obtain rfl : (46 : UInt8) = c := eq_of_beq hp
          by_cases ht : t = []
          · subst ht
            rw [if_neg (by simp)]
            unfold fpt
            rw [if_pos (by rw [hasPrefix_one]; rfl)]
            rw [show dgs (List.drop 1 [46]) = [] from rfl, if_pos rfl]
          · rw [if_pos ⟨by rw [hasPrefix_one]; rfl, by have := List.length_pos_iff.2 ht; rw [List.length_cons]; omega⟩]
            exact rpt_fpt neg (vl d) t (.inr trivial) ht
      · rw [if_neg (fun h => hp h.1)]
        unfold fpt
        rw [if_neg hp]
        exact (fin_no _ _ _ hr).symm
end Go.Proofs.YtjmagehfkcnjjaaDoor
