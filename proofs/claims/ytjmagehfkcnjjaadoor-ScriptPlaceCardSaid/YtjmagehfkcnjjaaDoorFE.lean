/-
  The reader's digits; a number of digits.
-/
import Derived.Test.YtjmagehfkcnjjaaDoorFD
import Derived.Lib.SmallJoins
namespace Go.Proofs.YtjmagehfkcnjjaaDoor
set_option linter.unusedVariables false
open Go.RowKit Go.Sort

def digs : List UInt8 := [48, 49, 50, 51, 52, 53, 54, 55, 56, 57]
theorem digs_low : ∀ b ∈ digs, b.toNat < 128 := by decide
theorem tl_c (S : ByteArray) (w : World) : Calls Tryd.prog 25 #[.string S, .string ⟨#[48, 49, 50, 51, 52, 53, 54, 55, 56, 57]⟩] w fun e w' => e = .returned (.string ⟨(Lib.trimLeftS S.data.toList digs).toArray⟩) ∧ ∃ x : Later w, w' = x.out :=
  (Any.strings_TrimLeft_laid Tryd.lays161 (by kernel_rfl) S ⟨#[48, 49, 50, 51, 52, 53, 54, 55, 56, 57]⟩ w (by decide) (fun j b hb => digs_low b (List.mem_of_getElem? hb))).mono fun e w' h => ⟨h.1, Later.mk_of h.2⟩
set_option maxRecDepth 100000 in
set_option maxHeartbeats 1000000 in
theorem digits_c (S R : ByteArray) (n : Nat) (t : Nat) (w : World) (h : Blk w t 51 #[.string S]) (hR : R = ⟨(Lib.trimLeftS S.data.toList digs).toArray⟩) (hn : R.size + n = S.size) (hn0 : 0 < n) (hS : S.size ≤ 1000000) :
    Calls Tryd.prog 26 #[.pointer (some ⟨t, 0, none⟩)] w fun e w' => e = .returned (.string (S.extract 0 n)) ∧ Blk w' t 51 #[.string (S.extract n S.size)] ∧ Below t w w' := by
  have f0 : w.cell? ⟨t, 0, none⟩ = some (.string S) := by rw [h.cell]; rfl
  have z0 : w.frozen? ⟨t, 0, none⟩ = false := h.frozen 0
  have lt := h.lt
  have hc := fun v => tl_c S v
  rw [← hR] at hc
  have HC := Lib.hid hc
  have hn1 : (S.size : Int) - (R.size : Int) = (n : Int) := by omega
  have hn2 : IntKind.i64.wrap ((S.size : Int) - (R.size : Int)) = (n : Int) := by rw [IntWalk.i64_in _ (by omega)]; omega
  have hn3 : decide ((0 : Int) < (n : Int)) = true := by simp; omega
  have hn4 : n ≤ S.size := by omega
  have hn5 : (n : Int) ≤ (S.size : Int) := by omega
  have hn6 : (0 : Int) ≤ (n : Int) := by omega
  have H := Lib.hid h
  have HN := Lib.hid hn
  clear hc hR h hn
  go_enter Tryd.func26, Tryd.ntmps26
  go_wp2_with (fail)
  refine wp_region_later (by kernel_rfl) (by kernel_rfl) ?_
  repeat (go_big_quiet_step ((first | (go_at_call 25; with_reducible exact Later.call _ (HC.out _)))))
  refine wpQuiet_nil ?_
  intro x
  go_wp2_with (go_at_call 23; (with_reducible refine (need_yes _).mono ?_); rintro e _ ⟨rfl, y, rfl⟩)
  exact bodyPost_ret (v := .string (S.extract 0 n)) (by simp [results, Tryd.results26, go_sem, *]) rfl ⟨rfl, (((H.out.later x).later y).set 0 _).eq (by simp), Below.setCell ((x.below.mono (Nat.le_of_lt lt)).trans (y.below.mono (Nat.le_of_lt (Nat.lt_of_lt_of_le lt x.size_le)))) (Nat.le_refl _) _⟩
set_option maxRecDepth 100000 in
set_option maxHeartbeats 1000000 in
theorem number_c (S : ByteArray) (n : Int) (hl : S.size ≤ 18) (h : Lib.atoi S.data.toList = some n) (w : World) : Calls Tryd.prog 27 #[.string S] w fun e w' => e = .returned (.int .i64 n) ∧ ∃ x : Later w, w' = x.out := by
  have hc : ∀ v, Calls Tryd.prog 45 #[.string S] v fun e w' => e = .returned (.tuple #[.int .i64 n, .nilIface]) ∧ ∃ x : Later v, w' = x.out := fun v => (Tryd.strconv_Atoi S n hl h v).mono fun e w' h => ⟨h.1, by obtain ⟨t, ht⟩ := h.2; rw [ht]; exact Later.mk_of (Go.Joins.below_bytesWorld _ _ _ _ (Nat.le_refl _))⟩
  have HC := Lib.hid hc
  clear hc h hl
  go_enter Tryd.func27, Tryd.ntmps27
  go_wp2_with (first | (go_at_call 45; (with_reducible refine (HC.out _).mono ?_); rintro e _ ⟨rfl, x, rfl⟩) | (go_at_call 23; (with_reducible refine (need_yes _).mono ?_); rintro e _ ⟨rfl, y, rfl⟩))
  exact bodyPost_ret (v := .int .i64 n) (by simp [results, Tryd.results27, go_sem, *]) rfl ⟨rfl, (Later.mk_of (by repeat (first | (with_reducible assumption) | (with_reducible exact Below.refl _ _) | (with_reducible refine Later.after ?_ _) | (with_reducible refine Later.newer ?_ _) | (with_reducible refine Below.drew ?_) | (with_reducible refine Below.setCell ?_ (by first | exact Nat.le_refl _ | exact Nat.le_add_right _ _ | omega | (simp [go_sem]; done) | (simp [go_sem]; omega)) _))))⟩
end Go.Proofs.YtjmagehfkcnjjaaDoor
