/-
  Plain: what is told of the texts that layer 8's laws show first.
-/
import Derived.Test.YtjmagehfkcnjjaaGreatDoorSX
import Derived.Test.YtjmagehfkcnjjaaGreatDoorKS
namespace Go.Proofs.YtjmagehfkcnjjaaGreatDoor
set_option linter.unusedVariables false

theorem join_joinB : ∀ ws : List (List UInt8), Lib.join ws [32] = joinB ws := by
  intro ws
  induction ws with
  | nil => rfl
  | cons w r ih =>
    cases r with
    | nil => exact Lib.join_one w [32]
    | cons v t =>
      rw [joinB_cons w (v :: t) (by simp), ← ih]
      simp [Lib.join, List.intercalate, List.intersperse]
def txt1 : List UInt8 := [77, 32, 48, 32, 48, 32, 49, 44, 49, 32, 81, 32, 49, 32, 50, 32, 51, 32, 52, 46, 53]
def txt2 : List UInt8 := [77, 32, 48, 32, 120]
theorem wds_1 : wds 0 txt1 = [(0, [77]), (2, [48]), (4, [48]), (6, [49]), (8, [49]), (10, [81]), (12, [49]), (14, [50]), (16, [51]), (18, [52, 46, 53])] := by
  unfold txt1
  rw [wds_ne _ _ (by simp)]
  simp only [show wrd [77, 32, 48, 32, 48, 32, 49, 44, 49, 32, 81, 32, 49, 32, 50, 32, 51, 32, 52, 46, 53] = [77] from rfl, List.length_cons, List.length_nil, List.drop_succ_cons, List.drop_zero, List.drop_nil]
  rw [wds_ne _ _ (by simp)]
  simp only [show wrd [48, 32, 48, 32, 49, 44, 49, 32, 81, 32, 49, 32, 50, 32, 51, 32, 52, 46, 53] = [48] from rfl, List.length_cons, List.length_nil, List.drop_succ_cons, List.drop_zero, List.drop_nil]
  rw [wds_ne _ _ (by simp)]
  simp only [show wrd [48, 32, 49, 44, 49, 32, 81, 32, 49, 32, 50, 32, 51, 32, 52, 46, 53] = [48] from rfl, List.length_cons, List.length_nil, List.drop_succ_cons, List.drop_zero, List.drop_nil]
  rw [wds_ne _ _ (by simp)]
  simp only [show wrd [49, 44, 49, 32, 81, 32, 49, 32, 50, 32, 51, 32, 52, 46, 53] = [49] from rfl, List.length_cons, List.length_nil, List.drop_succ_cons, List.drop_zero, List.drop_nil]
  rw [wds_ne _ _ (by simp)]
  simp only [show wrd [49, 32, 81, 32, 49, 32, 50, 32, 51, 32, 52, 46, 53] = [49] from rfl, List.length_cons, List.length_nil, List.drop_succ_cons, List.drop_zero, List.drop_nil]
  rw [wds_ne _ _ (by simp)]
  simp only [show wrd [81, 32, 49, 32, 50, 32, 51, 32, 52, 46, 53] = [81] from rfl, List.length_cons, List.length_nil, List.drop_succ_cons, List.drop_zero, List.drop_nil]
  rw [wds_ne _ _ (by simp)]
  simp only [show wrd [49, 32, 50, 32, 51, 32, 52, 46, 53] = [49] from rfl, List.length_cons, List.length_nil, List.drop_succ_cons, List.drop_zero, List.drop_nil]
  rw [wds_ne _ _ (by simp)]
  simp only [show wrd [50, 32, 51, 32, 52, 46, 53] = [50] from rfl, List.length_cons, List.length_nil, List.drop_succ_cons, List.drop_zero, List.drop_nil]
  rw [wds_ne _ _ (by simp)]
  simp only [show wrd [51, 32, 52, 46, 53] = [51] from rfl, List.length_cons, List.length_nil, List.drop_succ_cons, List.drop_zero, List.drop_nil]
  rw [wds_ne _ _ (by simp)]
  simp only [show wrd [52, 46, 53] = [52, 46, 53] from rfl, List.length_cons, List.length_nil, List.drop_succ_cons, List.drop_zero, List.drop_nil]
  rw [wds_nil]
  rfl
theorem wds_2 : wds 0 txt2 = [(0, [77]), (2, [48]), (4, [120])] := by
  unfold txt2
  rw [wds_ne _ _ (by simp)]
  simp only [show wrd [77, 32, 48, 32, 120] = [77] from rfl, List.length_cons, List.length_nil, List.drop_succ_cons, List.drop_zero, List.drop_nil]
  rw [wds_ne _ _ (by simp)]
  simp only [show wrd [48, 32, 120] = [48] from rfl, List.length_cons, List.length_nil, List.drop_succ_cons, List.drop_zero, List.drop_nil]
  rw [wds_ne _ _ (by simp)]
  simp only [show wrd [120] = [120] from rfl, List.length_cons, List.length_nil, List.drop_succ_cons, List.drop_zero, List.drop_nil]
  rw [wds_nil]
  rfl
theorem spR_2 : spR txt2 = ([], [], 4, 80) := by
  unfold spR
  rw [wds_2]
  rfl
theorem spR_1 : spR txt1 = ([1, 2, 3], [(0, 0), (256, 256), (256, 512), (768, 1152)], 0, 0) := by
  unfold spR
  rw [wds_1]
  rfl
end Go.Proofs.YtjmagehfkcnjjaaGreatDoor
