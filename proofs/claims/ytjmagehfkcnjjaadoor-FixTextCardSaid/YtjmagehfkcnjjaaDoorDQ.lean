/-
  Plain words on a text that tells a number of parts: what Parse makes of it.
-/
import Derived.Test.YtjmagehfkcnjjaaDoorDP
import Derived.Lib.SlTrimSet
import Derived.Lib.Strings
namespace Go.Proofs.YtjmagehfkcnjjaaDoor
set_option linter.unusedVariables false
open Go.Lib

def isD (b : UInt8) : Bool := decide (48 ≤ b.toNat ∧ b.toNat ≤ 57)
theorem isD_iff (b : UInt8) : isD b = true ↔ IsDg b := by unfold isD IsDg; simp
/-- the digits ahead -/
def dgs (l : List UInt8) : List UInt8 := l.takeWhile isD
/-- what is behind the digits ahead -/
def rst (l : List UInt8) : List UInt8 := l.dropWhile isD
theorem dgs_rst (l : List UInt8) : dgs l ++ rst l = l := List.takeWhile_append_dropWhile
theorem dgs_all (l : List UInt8) : ∀ b ∈ dgs l, IsDg b := fun b hb => (isD_iff b).1 (List.all_eq_true.1 (List.all_takeWhile (p := isD) (l := l)) b hb)
theorem rst_len (l : List UInt8) : (dgs l).length + (rst l).length = l.length := by
  have := congrArg List.length (dgs_rst l)
  rw [List.length_append] at this
  exact this
theorem dgs_take (l : List UInt8) : l.take (dgs l).length = dgs l := by
  have h := dgs_rst l
  have : (dgs l ++ rst l).take (dgs l).length = dgs l := by simp
  rwa [h] at this
theorem rst_drop (l : List UInt8) : l.drop (dgs l).length = rst l := by
  have h := dgs_rst l
  have : (dgs l ++ rst l).drop (dgs l).length = rst l := by simp
  rwa [h] at this
/-- the number that digits tell -/
def vl (l : List UInt8) : Nat := (decFrom 0 l).getD 0
theorem vl_of (l : List UInt8) (h : ∀ b ∈ l, IsDg b) : decFrom 0 l = some (vl l) ∧ vl l < 10 ^ l.length := by
  obtain ⟨v, e, h1, _⟩ := decFrom_dg 0 l h
  unfold vl
  rw [e]
  exact ⟨rfl, by simpa using h1⟩
theorem atoi_vl (l : List UInt8) (h : ∀ b ∈ l, IsDg b) : atoi (48 :: l) = some ((vl l : Nat) : Int) := by
  show (decFrom (0 * 10 + 0) l).map (fun (m : Nat) => (m : Int)) = _
  rw [Nat.zero_mul, (vl_of l h).1]
  rfl
theorem trimL_sub (l : List UInt8) (c : UInt8) : ∀ b ∈ trimLeftB l c, b ∈ l := fun b hb => (List.dropWhile_sublist (· == c) (l := l)).mem hb
theorem trimR_sub (l : List UInt8) (c : UInt8) : ∀ b ∈ trimRightB l c, b ∈ l := fun b hb => by
  unfold trimRightB at hb
  have := (List.dropWhile_sublist (· == c) (l := l.reverse)).mem (List.mem_reverse.1 hb)
  exact List.mem_reverse.1 this
theorem trimL_len (l : List UInt8) (c : UInt8) : (trimLeftB l c).length ≤ l.length := (List.dropWhile_sublist (· == c) (l := l)).length_le
theorem trimR_len (l : List UInt8) (c : UInt8) : (trimRightB l c).length ≤ l.length := by
  unfold trimRightB
  rw [List.length_reverse]
  have := (List.dropWhile_sublist (· == c) (l := l.reverse)).length_le
  simpa using this
theorem noughts_dg (k : Nat) : ∀ b ∈ List.replicate k (48 : UInt8), IsDg b := fun b hb => by
  rw [List.eq_of_mem_replicate hb]; unfold IsDg; decide
theorem app_dg {l m : List UInt8} (h1 : ∀ b ∈ l, IsDg b) (h2 : ∀ b ∈ m, IsDg b) : ∀ b ∈ l ++ m, IsDg b := fun b hb => (List.mem_append.1 hb).elim (h1 b) (h2 b)

/-- the eight digits that are told by those behind the point, noughts behind them struck -/
def eight (d : List UInt8) : List UInt8 := trimRightB d 48 ++ List.replicate (8 - (trimRightB d 48).length) 48
def fin (neg : Bool) (n : Nat) (r : List UInt8) : Option Int := if r = [] ∧ n ≤ 1099511627776 then some (if neg then -(n : Int) else n) else none
/-- what Parse makes of what is behind the whole digits -/
def fpt (neg : Bool) (a : Nat) (r : List UInt8) : Option Int :=
  if hasPrefix r [46] = true then
    if dgs (r.drop 1) = [] then none
    else if 8 < (trimRightB (dgs (r.drop 1)) 48).length then none
    else if vl (eight (dgs (r.drop 1))) % 390625 = 0 then fin neg (a + vl (eight (dgs (r.drop 1))) / 390625) (rst (r.drop 1))
    else none
  else fin neg a r
/-- the text behind the sign -/
def unsg (l : List UInt8) : List UInt8 := if hasPrefix l [45] then l.drop 1 else l
/-- what Parse makes of a text -/
def ps (l : List UInt8) : Option Int :=
  if 30 < l.length then none
  else if dgs (unsg l) = [] then none
  else if 13 < (trimLeftB (dgs (unsg l)) 48).length then none
  else fpt (hasPrefix l [45]) (vl (trimLeftB (dgs (unsg l)) 48) * 256) (rst (unsg l))
/-- its two results -/
def psV (l : List UInt8) : Int := (ps l).getD 0
def psE (l : List UInt8) : Int := if (ps l).isSome then 0 else 30
theorem ps_none {l : List UInt8} (h : ps l = none) : psV l = 0 ∧ psE l = 30 := by unfold psV psE; rw [h]; exact ⟨rfl, rfl⟩
theorem ps_some {l : List UInt8} {n : Int} (h : ps l = some n) : psV l = n ∧ psE l = 0 := by unfold psV psE; rw [h]; exact ⟨rfl, rfl⟩
theorem unsg_len (l : List UInt8) : (unsg l).length ≤ l.length := by
  unfold unsg
  split
  · rw [List.length_drop]; omega
  · exact Nat.le_refl _
end Go.Proofs.YtjmagehfkcnjjaaDoor
