/-
  The parts of a pixel that digits tell.
-/
import Derived.Test.YtjmagehfkcnjjaaDoorFE
namespace Go.Proofs.YtjmagehfkcnjjaaDoor
set_option linter.unusedVariables false
open Go.RowKit Go.Sort

set_option maxRecDepth 100000 in
set_option maxHeartbeats 1000000 in
theorem parts_c (S T Z : ByteArray) (k : Nat) (N q : Int) (w : World) (hS : S.size ≤ 1000000) (hT : T = ⟨(Lib.trimRightB S.data.toList 48).toArray⟩) (hk : T.size + k = 8)
    (hZ : Z = ⟨(Lib.repeatL [48] k).toArray⟩) (hZs : Z.size = k) (hN : Lib.atoi (({data := #[48]} : ByteArray) ++ T ++ Z).data.toList = some N) (hq : N = 390625 * q) (q0 : 0 ≤ q) (q9 : q ≤ 1000000000) :
    Calls Tryd.prog 28 #[.string S] w fun e w' => e = .returned (.int .i64 q) ∧ ∃ x : Later w, w' = x.out := by
  have hc1 := fun v => Tryd.strings_TrimRight_one S 48 (by decide) v (by omega)
  rw [← hT] at hc1
  have hc2 : ∀ v, Calls Tryd.prog 46 #[.string ⟨#[48]⟩, .int .i64 k] v fun e w' => e = .returned (.string Z) ∧ ∃ x : Later v, w' = x.out := fun v =>
    (Tryd.strings_Repeat ⟨#[48]⟩ k v (by omega) (by show 1 * k ≤ _; omega)).mono fun e w' h => ⟨by rw [h.1, hZ], Later.mk_of h.2⟩
  have hsz : (({data := #[48]} : ByteArray) ++ T ++ Z).size ≤ 18 := by
    rw [ByteArray.size_append, ByteArray.size_append]
    show 1 + T.size + Z.size ≤ 18
    omega
  have hc3 := fun v => number_c (({data := #[48]} : ByteArray) ++ T ++ Z) N hsz hN v
  have h1 : (8 : Int) - (T.size : Int) = (k : Int) := by omega
  have h2 : IntKind.i64.wrap ((8 : Int) - (T.size : Int)) = (k : Int) := by rw [IntWalk.i64_in _ (by omega)]; omega
  have h3 : decide ((T.size : Int) ≤ 8) = true := by simp; omega
  have hTs : T.size ≤ 8 := by omega
  have hZ8 : Z.size ≤ 8 := by omega
  have r1 : N % 390625 = 0 := by omega
  have r2 : N.tmod 390625 = 0 := by rw [Int.tmod_eq_emod_of_nonneg (by omega)]; omega
  have r3 : N / 390625 = q := by omega
  have r4 : N.tdiv 390625 = q := by rw [Int.tdiv_eq_ediv_of_nonneg (by omega)]; omega
  have n0 : 0 ≤ N := by omega
  have n9 : N ≤ 390625000000000 := by omega
  have HC1 := Lib.hid hc1
  have HC2 := Lib.hid hc2
  have HC3 := Lib.hid hc3
  clear hc1 hc2 hc3 hT hZ hN hq hsz hZs hk
  go_enter Tryd.func28, Tryd.ntmps28
  go_wp2_with (first | (go_at_call 32; (with_reducible refine (HC1.out _).mono ?_); rintro e _ ⟨rfl, rfl⟩) | (go_at_call 23; (with_reducible refine (need_yes _).mono ?_); rintro e _ ⟨rfl, y, rfl⟩) | (go_at_call 46; (with_reducible refine (HC2.out _).mono ?_); rintro e _ ⟨rfl, x, rfl⟩) | (go_at_call 27; (with_reducible refine (HC3.out _).mono ?_); rintro e _ ⟨rfl, z, rfl⟩))
  exact bodyPost_ret (v := .int .i64 q) (by simp [results, Tryd.results28, go_sem, *]) rfl ⟨rfl, (Later.mk_of (by repeat (first | (with_reducible assumption) | (with_reducible exact Below.refl _ _) | (with_reducible refine Later.after ?_ _) | (with_reducible refine Later.newer ?_ _) | (with_reducible refine Below.drew ?_) | (with_reducible refine Below.setCell ?_ (by first | exact Nat.le_refl _ | exact Nat.le_add_right _ _ | omega | (simp [go_sem]; done) | (simp [go_sem]; omega)) _))))⟩
end Go.Proofs.YtjmagehfkcnjjaaDoor
