/-
  script.Print at any path; what layer 8's laws show first.
-/
import Derived.Test.YtjmagehfkcnjjaaGreatDoorSZ
import Derived.Test.YtjmagehfkcnjjaaGreatDoorSHP
import Derived.Test.YtjmagehfkcnjjaaGreatDoorSI
namespace Go.Proofs.YtjmagehfkcnjjaaGreatDoor
set_option linter.unusedVariables false
open Go.RowKit

/-- what script.Print tells of a path -/
def spS (vs : List Int) (pts : List (Int × Int)) : List UInt8 := if chk vs pts = 0 then joinB (pwords vs pts) else []
theorem sprint_c (vs : List Int) (pts : List (Int × Int)) (vv sv : Value) (w : World) (hv : IntsAt w vv vs) (hp : PtsAt w sv pts) (htab : Lib.TabIs Tryz.prog w "internal/strconv.uint64pow10" .u64 Lib.pow10Tab) :
    Calls Tryz.prog 18 #[.agg #[vv, sv]] w fun e w' => e = .returned (.tuple #[.string ⟨(spS vs pts).toArray⟩, .int .i64 (chk vs pts)]) ∧ ∃ x : Later w, w' = x.out := by
  unfold spS
  by_cases h : chk vs pts = 0
  · rw [if_pos h, h]
    exact sprint_ok vs pts vv sv h w hv hp htab
  · rw [if_neg h]
    exact sprint_bad vs pts vv sv _ rfl h w hv hp
theorem prn_0 : prn 0 = [48] := by unfold prn prU prF; simp [Lib.decDigits]
theorem prn_1 : prn 256 = [49] := by unfold prn prU prF; simp [Lib.decDigits]
theorem prn_2 : prn 512 = [50] := by unfold prn prU prF; simp [Lib.decDigits]
theorem prn_3 : prn 768 = [51] := by unfold prn prU prF; simp [Lib.decDigits]
theorem prn_4 : prn 1152 = [52, 46, 53] := by
  unfold prn prU prF
  simp [Lib.decDigits]
  rfl
theorem spS_1 : spS [1, 2, 3] [(0, 0), (256, 256), (256, 512), (768, 1152)] = [77, 32, 48, 32, 48, 32, 76, 32, 49, 32, 49, 32, 81, 32, 49, 32, 50, 32, 51, 32, 52, 46, 53] := by
  unfold spS
  rw [if_pos (by rfl)]
  show joinB [[77], prn 0, prn 0, [76], prn 256, prn 256, [81], prn 256, prn 512, prn 768, prn 1152] = _
  rw [prn_0, prn_1, prn_2, prn_3, prn_4]
  rfl
set_option maxRecDepth 100000 in
set_option maxHeartbeats 1000000 in
theorem shown_8 (mx : Int) (w : World) (hm : w.cell? ⟨2, 0, none⟩ = some (.int .i64 mx)) (htab : Lib.TabIs Tryz.prog w "internal/strconv.uint64pow10" .u64 Lib.pow10Tab) : Calls Tryz.prog 17 #[] w fun e w' => e = .returned (.bool true) ∧ ∃ x : Later w, w' = x.out := by
  have hmv : ∀ v, Below w.heap.size w v → v.cell? ⟨2, 0, none⟩ = some (.int .i64 mx) := fun v hb => (hb.cell (p := ⟨2, 0, none⟩) (World.block_lt_of_cell? w _ hm)).trans hm
  have h1 : ∀ v, Below w.heap.size w v → Calls Tryz.prog 21 #[.string ⟨#[77, 32, 48, 32, 48, 32, 49, 44, 49, 32, 81, 32, 49, 32, 50, 32, 51, 32, 52, 46, 53]⟩] v (SRet v ([1, 2, 3], [(0, 0), (256, 256), (256, 512), (768, 1152)], 0, 0)) := fun v hb => by
    have h := sparse_c txt1 mx (by decide) (by rw [wds_1]; decide) (iany_ascii txt1 (by decide) (by decide)) v (hmv v hb)
    rw [spR_1] at h
    exact h
  have h2 : ∀ v, Below w.heap.size w v → Calls Tryz.prog 21 #[.string ⟨#[77, 32, 48, 32, 120]⟩] v (SRet v ([], [], 4, 80)) := fun v hb => by
    have h := sparse_c txt2 mx (by decide) (by rw [wds_2]; decide) (iany_ascii txt2 (by decide) (by decide)) v (hmv v hb)
    rw [spR_2] at h
    exact h
  have h3 : ∀ (v : World) (vv sv : Value), Below w.heap.size w v → IntsAt v vv [1, 2, 3] → PtsAt v sv [(0, 0), (256, 256), (256, 512), (768, 1152)] → Calls Tryz.prog 18 #[.agg #[vv, sv]] v fun e w' => e = .returned (.tuple #[.string ⟨#[77, 32, 48, 32, 48, 32, 76, 32, 49, 32, 49, 32, 81, 32, 49, 32, 50, 32, 51, 32, 52, 46, 53]⟩, .int .i64 0]) ∧ ∃ x : Later v, w' = x.out := fun v vv sv hb hv hp => by
    have h := sprint_c [1, 2, 3] [(0, 0), (256, 256), (256, 512), (768, 1152)] vv sv v hv hp (Lib.tabBelow_of_tabIs htab v hb)
    rw [spS_1] at h
    exact h
  have H1 := Lib.hid h1
  have H2 := Lib.hid h2
  have H3 := Lib.hid h3
  clear h1 h2 h3 hm hmv htab
  go_enter Tryz.func17, Tryz.ntmps17
  go_wp2_with (first
    | (go_at_call 21; (with_reducible refine (H1.out _ (Below.refl _ _)).mono ?_); rintro e _ ⟨vv, pv, rfl, hv, hp, x1, rfl⟩; have HV := Lib.hid (intsAt_own hv); have HP := Lib.hid (ptsAt_own hp); obtain ⟨_, _, _, rfl⟩ := own_slice hv; obtain ⟨_, _, _, rfl⟩ := own_slice hp; clear hv hp)
    | (go_at_call 18; (with_reducible refine (H3.out _ _ _ (by repeat (first | (with_reducible assumption) | (with_reducible exact Below.refl _ _) | (with_reducible refine Later.after ?_ _) | (with_reducible refine Later.newer ?_ _) | (with_reducible refine Below.drew ?_) | (with_reducible refine Below.setCell ?_ (by first | exact Nat.le_refl _ | exact Nat.le_add_right _ _ | omega | (simp [go_sem]; done) | (simp [go_sem]; omega)) _))) (HV.out.alloc _) (ptsAt_under HP.out ((Below.refl _ _).alloc (Nat.le_refl _) _) (Nat.le_refl _))).mono ?_); rintro e _ ⟨rfl, x2, rfl⟩)
    | (go_at_call 21; (with_reducible refine (H2.out _ (by repeat (first | (with_reducible assumption) | (with_reducible exact Below.refl _ _) | (with_reducible refine Later.after ?_ _) | (with_reducible refine Later.newer ?_ _) | (with_reducible refine Below.drew ?_) | (with_reducible refine Below.setCell ?_ (by first | exact Nat.le_refl _ | exact Nat.le_add_right _ _ | omega | (simp [go_sem]; done) | (simp [go_sem]; omega)) _)))).mono ?_); rintro e _ ⟨_, _, rfl, hv, hp, x3, rfl⟩; obtain ⟨_, _, _, rfl⟩ := own_slice hv; obtain ⟨_, _, _, rfl⟩ := own_slice hp; clear hv hp))
  exact bodyPost_ret (v := .bool true) (by simp [results, Tryz.results17, go_sem, *]) rfl ⟨rfl, (Later.mk_of (by repeat (first | (with_reducible assumption) | (with_reducible exact Below.refl _ _) | (with_reducible refine Later.after ?_ _) | (with_reducible refine Later.newer ?_ _) | (with_reducible refine Below.drew ?_) | (with_reducible refine Below.setCell ?_ (by first | exact Nat.le_refl _ | exact Nat.le_add_right _ _ | omega | (simp [go_sem]; done) | (simp [go_sem]; omega)) _))))⟩
end Go.Proofs.YtjmagehfkcnjjaaGreatDoor
