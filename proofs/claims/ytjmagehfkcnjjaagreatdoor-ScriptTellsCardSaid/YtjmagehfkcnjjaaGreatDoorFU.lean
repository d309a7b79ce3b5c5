/-
  The document's own Parse: digits, the sum, bytes of a text.
-/
import Derived.Test.YtjmagehfkcnjjaaGreatDoorFT
namespace Go.Proofs.YtjmagehfkcnjjaaGreatDoor
set_option linter.unusedVariables false
open Go.RowKit Go.Sort

/-- a byte of a text -/
theorem ix (l : List UInt8) (k : Nat) (b : UInt8) (h : l[k]? = some b) (W : World) : (Instr.index 9 (.string ⟨l.toArray⟩) (.int .i64 (k : Int))).run Tryz.prog W = .ok (.int .u8 (b.toNat : Int)) W := by
  obtain ⟨hk, e⟩ := List.getElem?_eq_some_iff.1 h
  rw [run_index_string W 9 _ .i64 _ Tryz.underlying9]
  have hk2 : (k : Int) < ((⟨l.toArray⟩ : ByteArray).size : Int) := by rw [ba_size]; omega
  rw [dif_pos ⟨by omega, hk2⟩]
  have e2 : ((⟨l.toArray⟩ : ByteArray)[(k : Int).toNat]'(by omega)) = b := by
    show l.toArray[(k : Int).toNat] = b
    simp [e]
  rw [e2]
theorem ix0 (l : List UInt8) (b : UInt8) (h : l[0]? = some b) (W : World) : (Instr.index 9 (.string ⟨l.toArray⟩) (.int .i64 0)).run Tryz.prog W = .ok (.int .u8 (b.toNat : Int)) W := ix l 0 b h W
set_option maxHeartbeats 400000 in
theorem digit_yes (c : Int) (h0 : 48 ≤ c) (h9 : c ≤ 57) (w : World) : Calls Tryz.prog 75 #[.int .u8 c] w fun e w' => e = .returned (.bool true) ∧ ∃ x : Later w, w' = x.out := by
  have d1 : decide (48 ≤ c) = true := by simp [h0]
  have d2 : decide (c ≤ 57) = true := by simp [h9]
  go_enter Tryz.func75, Tryz.ntmps75
  go_wp2_with (fail)
  exact bodyPost_ret (v := .bool true) (by simp [results, Tryz.results75, go_sem, *]) rfl ⟨rfl, (Later.mk_of (by repeat (first | (with_reducible assumption) | (with_reducible exact Below.refl _ _) | (with_reducible refine Later.after ?_ _) | (with_reducible refine Later.newer ?_ _) | (with_reducible refine Below.drew ?_) | (with_reducible refine Below.setCell ?_ (by first | exact Nat.le_refl _ | exact Nat.le_add_right _ _ | omega | (simp [go_sem]; done) | (simp [go_sem]; omega)) _))))⟩

set_option maxHeartbeats 400000 in
theorem digit_no1 (c : Int) (h0 : c < 48) (w : World) : Calls Tryz.prog 75 #[.int .u8 c] w fun e w' => e = .returned (.bool false) ∧ ∃ x : Later w, w' = x.out := by
  have d1 : decide (48 ≤ c) = false := by simp; omega
  go_enter Tryz.func75, Tryz.ntmps75
  go_wp2_with (fail)
  exact bodyPost_ret (v := .bool false) (by simp [results, Tryz.results75, go_sem, *]) rfl ⟨rfl, (Later.mk_of (by repeat (first | (with_reducible assumption) | (with_reducible exact Below.refl _ _) | (with_reducible refine Later.after ?_ _) | (with_reducible refine Later.newer ?_ _) | (with_reducible refine Below.drew ?_) | (with_reducible refine Below.setCell ?_ (by first | exact Nat.le_refl _ | exact Nat.le_add_right _ _ | omega | (simp [go_sem]; done) | (simp [go_sem]; omega)) _))))⟩

set_option maxHeartbeats 400000 in
theorem digit_no2 (c : Int) (h0 : 57 < c) (w : World) : Calls Tryz.prog 75 #[.int .u8 c] w fun e w' => e = .returned (.bool false) ∧ ∃ x : Later w, w' = x.out := by
  have d1 : decide (48 ≤ c) = true := by simp; omega
  have d2 : decide (c ≤ 57) = false := by simp; omega
  go_enter Tryz.func75, Tryz.ntmps75
  go_wp2_with (fail)
  exact bodyPost_ret (v := .bool false) (by simp [results, Tryz.results75, go_sem, *]) rfl ⟨rfl, (Later.mk_of (by repeat (first | (with_reducible assumption) | (with_reducible exact Below.refl _ _) | (with_reducible refine Later.after ?_ _) | (with_reducible refine Later.newer ?_ _) | (with_reducible refine Below.drew ?_) | (with_reducible refine Below.setCell ?_ (by first | exact Nat.le_refl _ | exact Nat.le_add_right _ _ | omega | (simp [go_sem]; done) | (simp [go_sem]; omega)) _))))⟩

theorem digit_any (b : UInt8) (w : World) : Calls Tryz.prog 75 #[.int .u8 (b.toNat : Int)] w fun e w' => e = .returned (.bool (isD b)) ∧ ∃ x : Later w, w' = x.out := by
  unfold isD
  by_cases h : 48 ≤ b.toNat ∧ b.toNat ≤ 57
  · rw [show decide (48 ≤ b.toNat ∧ b.toNat ≤ 57) = true by simp [h]]
    exact digit_yes _ (by omega) (by omega) w
  · rw [show decide (48 ≤ b.toNat ∧ b.toNat ≤ 57) = false by simp only [decide_eq_false_iff_not]; exact h]
    by_cases h1 : b.toNat < 48
    · exact digit_no1 _ (by omega) w
    · exact digit_no2 _ (by omega) w
def sgn (neg : Bool) : Int := if neg then -1 else 1
set_option maxHeartbeats 400000 in
theorem checked_no (g : Int) (s p : Nat) (hs : s ≤ 1099511627776) (hp : p ≤ 1000) (h : 1099511627776 < s * 256 + p) (w : World) : Calls Tryz.prog 76 #[.int .i64 g, .int .i64 (s : Int), .int .i64 (p : Int)] w fun e w' => e = .returned (.tuple #[.int .i64 0, .int .i64 30]) ∧ ∃ x : Later w, w' = x.out := by
  have e1 : IntKind.i64.wrap ((s : Int) * 256) = (s : Int) * 256 := by rw [IntWalk.i64_in _ (by omega)]
  have e2 : IntKind.i64.wrap ((s : Int) * 256 + (p : Int)) = (s : Int) * 256 + (p : Int) := by rw [IntWalk.i64_in _ (by omega)]
  have e3 : wrap64 ((s : Int) * 256) = (s : Int) * 256 := by unfold wrap64; omega
  have e4 : wrap64 ((s : Int) * 256 + (p : Int)) = (s : Int) * 256 + (p : Int) := by unfold wrap64; omega
  have d : decide (1099511627776 < (s : Int) * 256 + (p : Int)) = true := by simp; omega
  go_enter Tryz.func76, Tryz.ntmps76
  go_wp2_with (fail)
  exact bodyPost_ret (v := .tuple #[.int .i64 0, .int .i64 30]) (by simp [results, Tryz.results76, go_sem, *]) rfl ⟨rfl, (Later.mk_of (by repeat (first | (with_reducible assumption) | (with_reducible exact Below.refl _ _) | (with_reducible refine Later.after ?_ _) | (with_reducible refine Later.newer ?_ _) | (with_reducible refine Below.drew ?_) | (with_reducible refine Below.setCell ?_ (by first | exact Nat.le_refl _ | exact Nat.le_add_right _ _ | omega | (simp [go_sem]; done) | (simp [go_sem]; omega)) _))))⟩
set_option maxHeartbeats 400000 in
theorem checked_yes (g m : Int) (s p : Nat) (hs : s ≤ 1099511627776) (hp : p ≤ 1000) (h : ¬ 1099511627776 < s * 256 + p) (hm : IntKind.i64.wrap (g * ((s : Int) * 256 + (p : Int))) = m) (hm2 : wrap64 (g * ((s : Int) * 256 + (p : Int))) = m) (w : World) : Calls Tryz.prog 76 #[.int .i64 g, .int .i64 (s : Int), .int .i64 (p : Int)] w fun e w' => e = .returned (.tuple #[.int .i64 m, .int .i64 0]) ∧ ∃ x : Later w, w' = x.out := by
  have e1 : IntKind.i64.wrap ((s : Int) * 256) = (s : Int) * 256 := by rw [IntWalk.i64_in _ (by omega)]
  have e2 : IntKind.i64.wrap ((s : Int) * 256 + (p : Int)) = (s : Int) * 256 + (p : Int) := by rw [IntWalk.i64_in _ (by omega)]
  have e3 : wrap64 ((s : Int) * 256) = (s : Int) * 256 := by unfold wrap64; omega
  have e4 : wrap64 ((s : Int) * 256 + (p : Int)) = (s : Int) * 256 + (p : Int) := by unfold wrap64; omega
  have d : decide (1099511627776 < (s : Int) * 256 + (p : Int)) = false := by simp; omega
  go_enter Tryz.func76, Tryz.ntmps76
  go_wp2_with (fail)
  exact bodyPost_ret (v := .tuple #[.int .i64 m, .int .i64 0]) (by simp [results, Tryz.results76, go_sem, *]) rfl ⟨rfl, (Later.mk_of (by repeat (first | (with_reducible assumption) | (with_reducible exact Below.refl _ _) | (with_reducible refine Later.after ?_ _) | (with_reducible refine Later.newer ?_ _) | (with_reducible refine Below.drew ?_) | (with_reducible refine Below.setCell ?_ (by first | exact Nat.le_refl _ | exact Nat.le_add_right _ _ | omega | (simp [go_sem]; done) | (simp [go_sem]; omega)) _))))⟩
def chV (neg : Bool) (s p : Nat) : Int := (dck neg s p).getD 0
def chE (neg : Bool) (s p : Nat) : Int := if (dck neg s p).isSome then 0 else 30
theorem checked_c (neg : Bool) (s p : Nat) (hs : s ≤ 1099511627776) (hp : p ≤ 1000) (w : World) : Calls Tryz.prog 76 #[.int .i64 (sgn neg), .int .i64 (s : Int), .int .i64 (p : Int)] w fun e w' => e = .returned (.tuple #[.int .i64 (chV neg s p), .int .i64 (chE neg s p)]) ∧ ∃ x : Later w, w' = x.out := by
  unfold chV chE dck
  by_cases h : 1099511627776 < s * 256 + p
  · rw [if_neg (by omega)]
    exact checked_no _ s p hs hp h w
  · rw [if_pos (by omega)]
    refine checked_yes (sgn neg) _ s p hs hp h ?_ ?_ w
    · cases neg
      · show IntKind.i64.wrap (1 * ((s : Int) * 256 + (p : Int))) = ((s * 256 + p : Nat) : Int)
        rw [IntWalk.i64_in _ (by omega)]; omega
      · show IntKind.i64.wrap (-1 * ((s : Int) * 256 + (p : Int))) = -((s * 256 + p : Nat) : Int)
        rw [IntWalk.i64_in _ (by omega)]; omega
    · cases neg
      · show wrap64 (1 * ((s : Int) * 256 + (p : Int))) = ((s * 256 + p : Nat) : Int)
        unfold wrap64; omega
      · show wrap64 (-1 * ((s : Int) * 256 + (p : Int))) = -((s * 256 + p : Nat) : Int)
        unfold wrap64; omega
theorem sat_facts (W d : Nat) (hW : W ≤ 1099511627776) (hd : d ≤ 9) : IntKind.i64.wrap ((W : Int) * 10) = (W : Int) * 10 ∧ IntKind.i64.wrap ((W : Int) * 10 + (d : Int)) = ((W * 10 + d : Nat) : Int) ∧ wrap64 ((W : Int) * 10) = (W : Int) * 10 ∧ wrap64 ((W : Int) * 10 + (d : Int)) = ((W * 10 + d : Nat) : Int) ∧ min ((W * 10 + d : Nat) : Int) 1099511627776 = ((min (W * 10 + d) 1099511627776 : Nat) : Int) := by
  refine ⟨by rw [IntWalk.i64_in _ (by omega)], by rw [IntWalk.i64_in _ (by omega)]; omega, by unfold wrap64; omega, by unfold wrap64; omega, by omega⟩
theorem sat_min (v d : Nat) : min (min v 1099511627776 * 10 + d) 1099511627776 = min (v * 10 + d) 1099511627776 := by omega
theorem byte_facts (b : UInt8) (hb : IsDg b) (c : Int) (d : Nat) (hc : c = (b.toNat : Int)) (hd : d = b.toNat - 48) : d ≤ 9 ∧ c - 48 = (d : Int) ∧ IntKind.u8.wrap (c - 48) = (d : Int) ∧ IntKind.i64.wrap (d : Int) = (d : Int) := by
  unfold IsDg at hb
  have h : c - 48 = (d : Int) := by omega
  exact ⟨by omega, h, by rw [h, IntKind.wrap_u8]; omega, by rw [IntWalk.i64_in _ (by omega)]⟩
theorem num_facts (V d : Nat) (hV : V < 10000000000) (hd : d ≤ 9) : IntKind.i64.wrap ((V : Int) * 10) = (V : Int) * 10 ∧ IntKind.i64.wrap ((V : Int) * 10 + (d : Int)) = ((V * 10 + d : Nat) : Int) ∧ wrap64 ((V : Int) * 10) = (V : Int) * 10 ∧ wrap64 ((V : Int) * 10 + (d : Int)) = ((V * 10 + d : Nat) : Int) := by
  refine ⟨by rw [IntWalk.i64_in _ (by omega)], by rw [IntWalk.i64_in _ (by omega)]; omega, by unfold wrap64; omega, by unfold wrap64; omega⟩
theorem ten_facts (E : Nat) (hE : E ≤ 100000000) : IntKind.i64.wrap ((E : Int) * 10) = ((E * 10 : Nat) : Int) ∧ wrap64 ((E : Int) * 10) = ((E * 10 : Nat) : Int) := by
  refine ⟨by rw [IntWalk.i64_in _ (by omega)]; omega, by unfold wrap64; omega⟩
theorem end_facts (V A : Nat) (hV : V < 100000000) (hA : A = V * 256) : IntKind.i64.wrap ((V : Int) * 256) = (A : Int) ∧ wrap64 ((V : Int) * 256) = (A : Int) ∧ (V : Int) * 256 = (A : Int) := by
  refine ⟨by rw [IntWalk.i64_in _ (by omega)]; omega, by unfold wrap64; omega, by omega⟩
theorem small_wrap (A : Nat) (hA : A < 1000000000000) : wrap64 (A : Int) = (A : Int) ∧ IntKind.i64.wrap (A : Int) = (A : Int) := ⟨by unfold wrap64; omega, by rw [IntWalk.i64_in _ (by omega)]⟩
theorem byte_ne (b : UInt8) (c : Int) (n : UInt8) (m : Int) (hc : c = (b.toNat : Int)) (hm : (n.toNat : Int) = m) (h : b ≠ n) : ¬ c = m := fun e => h (UInt8.toNat_inj.1 (by omega))
/-- the least of a number and the greatest one, digit by digit -/
theorem sat_step (l : List UInt8) (b : UInt8) (hl : ∀ c ∈ l, IsDg c) (hb : IsDg b) : vl (l ++ [b]) = vl l * 10 + (b.toNat - 48) := by
  have h := decFrom_app 0 l [b]
  rw [(vl_of l hl).1] at h
  have e : Lib.decFrom 0 (l ++ [b]) = some (vl l * 10 + (b.toNat - 48)) := by
    rw [h]
    show Lib.decFrom (vl l) [b] = _
    unfold Lib.decFrom
    rw [dg_val b hb]; rfl
  unfold vl
  unfold vl at e
  rw [e]; rfl
end Go.Proofs.YtjmagehfkcnjjaaGreatDoor
