/-
  Texts that stand as one.
-/
import Derived.Test.YtjmagehfkcnjjaaGreatDoorSQ
import Derived.Test.YtjmagehfkcnjjaaGreatDoorKP
import Derived.Test.YtjmagehfkcnjjaaGreatDoorKS
/-
  script.Print: a path that is refused.
-/
namespace Go.Proofs.YtjmagehfkcnjjaaGreatDoor
set_option linter.unusedVariables false
open Go.RowKit

theorem infoStr : ∃ i, Tryz.prog.info? 9 = some i ∧ i.zero = some (.string ⟨#[]⟩) ∧ i.size = 1 ∧ i.bytes = 16 := by
  have h : (Tryz.prog.info? 9).map (fun i => (i.size, i.bytes)) = some (1, 16) := by kernel_rfl
  have h2 : ((Tryz.prog.info? 9).bind fun i => i.zero) = some (.string ⟨#[]⟩) := by kernel_rfl
  cases e : Tryz.prog.info? 9 with
  | none => rw [e] at h; cases h
  | some i => rw [e] at h h2; simp at h h2; exact ⟨i, rfl, h2, h.1, h.2⟩
set_option maxRecDepth 100000 in
set_option maxHeartbeats 1000000 in
theorem sprint_bad (vs : List Int) (pts : List (Int × Int)) (vv sv : Value) (E : Int) (hE : chk vs pts = E) (h0 : E ≠ 0) (w : World) (hv : IntsAt w vv vs) (hp : PtsAt w sv pts) :
    Calls Tryz.prog 18 #[.agg #[vv, sv]] w fun e w' => e = .returned (.tuple #[.string ⟨#[]⟩, .int .i64 E]) ∧ ∃ x : Later w, w' = x.out := by
  have hck := fun v hv hp => check_c vs pts vv sv v hv hp
  rw [hE] at hck
  have HCK := Lib.hid hck
  have HV := Lib.hid hv
  have HP := Lib.hid hp
  have e1 : (E != 0) = true := by simpa using h0
  have e2 : (E == 0) = false := by simpa using h0
  obtain ⟨av, cv, rfl⟩ := hv.form
  obtain ⟨ap, cp, rfl⟩ := ptsAt_form hp
  clear hck hE h0 hv hp
  go_enter Tryz.func18, Tryz.ntmps18
  go_wp2_with (go_at_call 33; refine (HCK.out _ (HV.out.alloc _) (ptsAt_under HP.out ((Below.refl _ w).alloc (Nat.le_refl _) _) (Nat.le_refl _))).mono ?_; rintro e _ ⟨rfl, x, rfl⟩)
  exact bodyPost_ret (v := .tuple #[.string ⟨#[]⟩, .int .i64 E]) (by simp [results, Tryz.results18, go_sem, *]) rfl ⟨rfl, (Later.mk_of (by repeat (first | (with_reducible assumption) | (with_reducible exact Below.refl _ _) | (with_reducible refine Later.after ?_ _) | (with_reducible refine Later.newer ?_ _) | (with_reducible refine Below.drew ?_) | (with_reducible refine Below.setCell ?_ (by first | exact Nat.le_refl _ | exact Nat.le_add_right _ _ | omega | (simp [go_sem]; done) | (simp [go_sem]; omega)) _))))⟩
end Go.Proofs.YtjmagehfkcnjjaaGreatDoor

/-
  Plain: the words that script.Print makes of a path.
-/
namespace Go.Proofs.YtjmagehfkcnjjaaGreatDoor
set_option linter.unusedVariables false

/-- a verb's letter -/
def lett (v : Int) : UInt8 := if v = 1 then 77 else if v = 2 then 76 else if v = 3 then 81 else if v = 4 then 67 else 90
/-- how many points a verb takes -/
def tkI (v : Int) : Nat := (tkV v).toNat
/-- the words of points -/
def ptW (l : List (Int × Int)) : List (List UInt8) := l.flatMap fun q => [prn q.1, prn q.2]
/-- the words of a path -/
def pwords : List Int → List (Int × Int) → List (List UInt8)
  | [], _ => []
  | v :: r, pts => [lett v] :: (ptW (pts.take (tkI v)) ++ pwords r (pts.drop (tkI v)))
/-- how many points these verbs take -/
def tot (vs : List Int) : Nat := (vs.map tkI).sum
theorem tot_nil : tot [] = 0 := rfl
theorem tot_snoc (vs : List Int) (v : Int) : tot (vs ++ [v]) = tot vs + tkI v := by simp [tot]
theorem pwords_snoc : ∀ (vs : List Int) (v : Int) (pts : List (Int × Int)), pwords (vs ++ [v]) pts = pwords vs pts ++ ([lett v] :: ptW ((pts.drop (tot vs)).take (tkI v))) := by
  intro vs
  induction vs with
  | nil => intro v pts; simp [pwords, tot]
  | cons u r ih =>
    intro v pts
    show [lett u] :: (ptW (pts.take (tkI u)) ++ pwords (r ++ [v]) (pts.drop (tkI u))) = ([lett u] :: (ptW (pts.take (tkI u)) ++ pwords r (pts.drop (tkI u)))) ++ _
    rw [ih, List.drop_drop]
    have : tot (u :: r) = tkI u + tot r := by simp [tot]
    rw [this]
    simp
theorem ptW_snoc (l : List (Int × Int)) (q : Int × Int) : ptW (l ++ [q]) = ptW l ++ [prn q.1, prn q.2] := by simp [ptW]
/-- what a check that is passed tells of the verbs -/
theorem chkL_ok : ∀ (vs : List Int) (left b : Int), chkL vs left b = .ok 0 → (∀ v ∈ vs, 1 ≤ v ∧ v ≤ 5) ∧ (tot vs : Int) = left := by
  intro vs
  induction vs with
  | nil => intro left b h; unfold chkL at h; injection h with h; exact ⟨by simp, by simp [tot, h]⟩
  | cons v r ih =>
    intro left b h
    unfold chkL at h
    split at h
    · cases h
    · rename_i hv
      split at h
      · cases h
      · obtain ⟨h1, h2⟩ := ih _ _ h
        have hv5 : 1 ≤ v ∧ v ≤ 5 := by
          refine Classical.byContradiction fun hn => hv ?_
          unfold tkV
          repeat (rw [if_neg (by omega)])
          decide
        refine ⟨fun u hu => ?_, ?_⟩
        · rcases List.mem_cons.1 hu with rfl | hu
          · exact hv5
          · exact h1 u hu
        · have e : tot (v :: r) = tkI v + tot r := by simp [tot]
          have e2 : (tkI v : Int) = tkV v := by unfold tkI; omega
          rw [e]
          omega
theorem chk_ok {vs : List Int} {pts : List (Int × Int)} (h : chk vs pts = 0) : vs.length ≤ 512 ∧ (∀ v ∈ vs, 1 ≤ v ∧ v ≤ 5) ∧ tot vs = pts.length ∧ ∀ q ∈ pts, farB q = false := by
  unfold chk at h
  split at h
  · cases h
  · rename_i h512
    cases e : chkL vs pts.length 5 with
    | error x =>
      rw [e] at h
      exfalso
      have key : ∀ (l : List Int) (a b x : Int), chkL l a b = .error x → x = 1 ∨ x = 70 := by
        intro l
        induction l with
        | nil => intro a b x h; unfold chkL at h; cases h
        | cons v r ih =>
          intro a b x h
          unfold chkL at h
          split at h
          · injection h with h; exact .inl h.symm
          · split at h
            · injection h with h; exact .inr h.symm
            · exact ih _ _ _ h
      have h' : x = 0 := h
      rcases key vs _ _ x e with k | k <;> omega
    | ok left =>
      rw [e] at h
      have h' : (if left ≠ 0 then (71 : Int) else if pts.any farB then 72 else 0) = 0 := h
      split at h'
      · cases h'
      · rename_i hl
        split at h'
        · cases h'
        · rename_i hf
          have hl0 : left = 0 := Classical.byContradiction fun k => hl k
          rw [hl0] at e
          obtain ⟨h1, h2⟩ := chkL_ok vs _ _ e
          refine ⟨by omega, h1, by omega, fun q hq => ?_⟩
          cases k : farB q with
          | false => rfl
          | true => exact absurd (List.any_eq_true.2 ⟨q, hq, k⟩) hf
theorem ptW_len (l : List (Int × Int)) : (ptW l).length = 2 * l.length := by
  induction l with
  | nil => rfl
  | cons q r ih => show (prn q.1 :: prn q.2 :: ptW r).length = _; rw [List.length_cons, List.length_cons, ih, List.length_cons]; omega
theorem pwords_len : ∀ (vs : List Int) (pts : List (Int × Int)), tot vs ≤ pts.length → (pwords vs pts).length = vs.length + 2 * tot vs := by
  intro vs
  induction vs with
  | nil => intro pts _; rfl
  | cons v r ih =>
    intro pts h
    have e0 : tot (v :: r) = tkI v + tot r := by simp [tot]
    rw [e0] at h ⊢
    show ([lett v] :: (ptW (pts.take (tkI v)) ++ pwords r (pts.drop (tkI v)))).length = _
    rw [List.length_cons, List.length_append, ptW_len, List.length_take, ih _ (by rw [List.length_drop]; omega), List.length_cons]
    omega
theorem tkI_le (v : Int) : tkI v ≤ 3 := by unfold tkI tkV; repeat (first | split | decide)
theorem tot_le (vs : List Int) : tot vs ≤ 3 * vs.length := by
  induction vs with
  | nil => decide
  | cons v r ih =>
    have e0 : tot (v :: r) = tkI v + tot r := by simp [tot]
    have := tkI_le v
    rw [e0, List.length_cons]; omega
theorem farB_no {q : Int × Int} (h : farB q = false) : (-268435456 ≤ q.1 ∧ q.1 ≤ 268435456) ∧ (-268435456 ≤ q.2 ∧ q.2 ≤ 268435456) := by
  unfold farB nrB at h
  simp only [Bool.or_eq_false_iff, Bool.not_eq_false', Bool.and_eq_true, decide_eq_true_eq] at h
  exact h
end Go.Proofs.YtjmagehfkcnjjaaGreatDoor
