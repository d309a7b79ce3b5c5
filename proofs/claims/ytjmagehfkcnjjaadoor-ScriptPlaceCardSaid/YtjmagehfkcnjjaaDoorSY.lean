/-
  script.Print: a path that is refused.
-/
import Derived.Test.YtjmagehfkcnjjaaDoorSQ
namespace Go.Proofs.YtjmagehfkcnjjaaDoor
set_option linter.unusedVariables false
open Go.RowKit

theorem infoStr : ∃ i, Tryd.prog.info? 9 = some i ∧ i.zero = some (.string ⟨#[]⟩) ∧ i.size = 1 ∧ i.bytes = 16 := by
  have h : (Tryd.prog.info? 9).map (fun i => (i.size, i.bytes)) = some (1, 16) := by kernel_rfl
  have h2 : ((Tryd.prog.info? 9).bind fun i => i.zero) = some (.string ⟨#[]⟩) := by kernel_rfl
  cases e : Tryd.prog.info? 9 with
  | none => rw [e] at h; cases h
  | some i => rw [e] at h h2; simp at h h2; exact ⟨i, rfl, h2, h.1, h.2⟩
set_option maxRecDepth 100000 in
set_option maxHeartbeats 1000000 in
theorem sprint_bad (vs : List Int) (pts : List (Int × Int)) (vv sv : Value) (E : Int) (hE : chk vs pts = E) (h0 : E ≠ 0) (w : World) (hv : IntsAt w vv vs) (hp : PtsAt w sv pts) :
    Calls Tryd.prog 19 #[.agg #[vv, sv]] w fun e w' => e = .returned (.tuple #[.string ⟨#[]⟩, .int .i64 E]) ∧ ∃ x : Later w, w' = x.out := by
  have hck := fun v hv hp => check_c vs pts vv sv v hv hp
  rw [hE] at hck
  have HCK := Lib.hid hck
  have HV := Lib.hid hv
  have HP := Lib.hid hp
  have e1 : (E != 0) = true := by simpa using h0
  have e2 : (E == 0) = false := by simpa using h0
  obtain ⟨av, cv, rfl⟩ := hv.form
  obtain ⟨ap, cp, rfl⟩ := ptsAt_form hp
  clear hck hE h0 hv hp
  go_enter Tryd.func19, Tryd.ntmps19
  go_wp2_with (go_at_call 35; refine (HCK.out _ (HV.out.alloc _) (ptsAt_under HP.out ((Below.refl _ w).alloc (Nat.le_refl _) _) (Nat.le_refl _))).mono ?_; rintro e _ ⟨rfl, x, rfl⟩)
  exact bodyPost_ret (v := .tuple #[.string ⟨#[]⟩, .int .i64 E]) (by simp [results, Tryd.results19, go_sem, *]) rfl ⟨rfl, (Later.mk_of (by repeat (first | (with_reducible assumption) | (with_reducible exact Below.refl _ _) | (with_reducible refine Later.after ?_ _) | (with_reducible refine Later.newer ?_ _) | (with_reducible refine Below.drew ?_) | (with_reducible refine Below.setCell ?_ (by first | exact Nat.le_refl _ | exact Nat.le_add_right _ _ | omega | (simp [go_sem]; done) | (simp [go_sem]; omega)) _))))⟩
end Go.Proofs.YtjmagehfkcnjjaaDoor
