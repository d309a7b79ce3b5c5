/-
  Split: walked.
-/
import Derived.Test.YtcdnekhpeghkiaaQI
namespace Go.Proofs.Ytcdnekhpeghkiaa
set_option linter.unusedVariables false
open Go.RowKit

theorem Subs.base {W : World} {B B' : Nat} {sv : Value} {l : List (SubP × Value)} (h : Subs W B sv l) (hb : B' ≤ B) : Subs W B' sv l := ⟨own_base h.own hb, fun p hp => own_base (h.rows p hp) hb, h.apart⟩
theorem chkL_ge : ∀ (vs : List Int) (x b : Int), chkL vs x b = .ok 0 → 0 ≤ x
  | [], x, b, h => by unfold chkL at h; simp only [Except.ok.injEq] at h; omega
  | v :: r, x, b, h => by
    unfold chkL at h
    by_cases h1 : tkV v < 0
    · rw [if_pos h1] at h; cases h
    · rw [if_neg h1] at h
      by_cases h2 : b = 5 ∧ v ≠ 1
      · rw [if_pos h2] at h; cases h
      · rw [if_neg h2] at h
        have := chkL_ge r _ _ h
        omega
theorem chkL_le : ∀ (vs : List Int) (x b : Int), chkL vs x b = .ok 0 → x ≤ 3 * vs.length
  | [], x, b, h => by unfold chkL at h; simp only [Except.ok.injEq] at h; omega
  | v :: r, x, b, h => by
    unfold chkL at h
    by_cases h1 : tkV v < 0
    · rw [if_pos h1] at h; cases h
    · rw [if_neg h1] at h
      by_cases h2 : b = 5 ∧ v ≠ 1
      · rw [if_pos h2] at h; cases h
      · rw [if_neg h2] at h
        have := chkL_le r _ _ h
        have := tkV_hi v
        rw [List.length_cons]
        omega
theorem chkL_step {v x b : Int} {r : List Int} (h : chkL (v :: r) x b = .ok 0) : 0 ≤ tkV v ∧ (b = 5 → v = 1) ∧ chkL r (x - tkV v) v = .ok 0 := by
  unfold chkL at h
  by_cases h1 : tkV v < 0
  · rw [if_pos h1] at h; cases h
  · rw [if_neg h1] at h
    by_cases h2 : b = 5 ∧ v ≠ 1
    · rw [if_pos h2] at h; cases h
    · rw [if_neg h2] at h
      exact ⟨by omega, fun hb => Classical.byContradiction fun hv => h2 ⟨hb, hv⟩, h⟩
theorem farB_not {p : Int × Int} (h : farB p = false) : nrP p := by
  unfold farB at h
  simp only [Bool.or_eq_false_iff, Bool.not_eq_false'] at h
  obtain ⟨h1, h2⟩ := h
  rw [nrB_iff] at h1 h2
  exact ⟨h1, h2⟩
theorem chk_ok {vs : List Int} {pts : List (Int × Int)} (h : chk vs pts = 0) : vs.length ≤ 512 ∧ chkL vs pts.length 5 = .ok 0 ∧ ∀ p ∈ pts, nrP p := by
  unfold chk at h
  by_cases h1 : 512 < vs.length
  · rw [if_pos h1] at h; omega
  · rw [if_neg h1] at h
    refine ⟨by omega, ?_⟩
    have hne : ∀ (l : List Int) (x b e : Int), chkL l x b = .error e → e ≠ 0 := by
      intro l
      induction l with
      | nil => intro x b e h; unfold chkL at h; cases h
      | cons v r ih =>
        intro x b e h
        unfold chkL at h
        by_cases h1 : tkV v < 0
        · rw [if_pos h1] at h; simp only [Except.error.injEq] at h; omega
        · rw [if_neg h1] at h
          by_cases h2 : b = 5 ∧ v ≠ 1
          · rw [if_pos h2] at h; simp only [Except.error.injEq] at h; omega
          · rw [if_neg h2] at h; exact ih _ _ _ h
    cases e : chkL vs pts.length 5 with
    | error z => rw [e] at h; exact absurd h (hne _ _ _ _ e)
    | ok left =>
      rw [e] at h
      simp only at h
      by_cases h2 : left = 0
      · subst h2
        refine ⟨rfl, fun p hp => ?_⟩
        rw [if_neg (by simp)] at h
        by_cases h3 : pts.any farB = true
        · rw [if_pos h3] at h; omega
        · have : farB p = false := by
            cases e : farB p
            · rfl
            · exact absurd (List.any_eq_true.2 ⟨p, hp, e⟩) h3
          exact farB_not this
      · rw [if_pos h2] at h; omega
/-- what Split hands back -/
def SplitRet (w : World) (c : Int) (e : Ending) (w' : World) : Prop :=
  (∃ x : Later w, w' = x.out) ∧ (c ≠ 0 → e = .returned (.tuple #[.slice none 0 0, .int .i64 c])) ∧
  (c = 0 → ∃ sv L, e = .returned (.tuple #[sv, .int .i64 0]) ∧ Subs w' w.heap.size sv L ∧ (∀ p ∈ L, GoodSub 600 p.1) ∧ L.length ≤ 600)
set_option maxRecDepth 100000 in
set_option maxHeartbeats 400000 in
theorem split_bad (z : Int) (n m : Nat) (av ap : Option Addr) (cv cp : Nat) (w : World) (hz : z ≠ 0)
    (hc : ∀ W', Below w.heap.size w W' → Calls Try.prog 45 #[.agg #[.slice av n cv, .slice ap m cp]] W' fun e w'' => e = .returned (.int .i64 z) ∧ ∃ x : Later W', w'' = x.out) :
    Calls Try.prog 24 #[.agg #[.slice av n cv, .slice ap m cp]] w (SplitRet w z) := by
  have hzb : (z != 0) = true := by simp [hz]
  have HC := Lib.hid hc
  clear hc
  go_enter Try.func24, Try.ntmps24
  go_wp2_with (go_at_call 45; (with_reducible refine (HC.out _ ((Below.refl _ _).alloc (Nat.le_refl _) _)).mono ?_); rintro e _ ⟨rfl, x, rfl⟩)
  exact bodyPost_ret (v := .tuple #[.slice none 0 0, .int .i64 z]) (by simp [results, Try.results24, go_sem, *]) rfl ⟨(Later.mk_of (by repeat (first | (with_reducible assumption) | (with_reducible exact Below.refl _ _) | (with_reducible refine Later.after ?_ _) | (with_reducible refine Later.newer ?_ _) | (with_reducible refine Below.drew ?_) | (with_reducible refine Below.setCell ?_ (by first | exact Nat.le_refl _ | exact Nat.le_add_right _ _ | omega | (simp [go_sem]; done) | (simp [go_sem]; omega)) _)))), fun _ => rfl, fun h => absurd h hz⟩
set_option maxRecDepth 100000 in
set_option maxHeartbeats 400000 in
theorem split_nil (m : Nat) (av ap : Option Addr) (cv cp : Nat) (w : World)
    (hc : ∀ W', Below w.heap.size w W' → Calls Try.prog 45 #[.agg #[.slice av 0 cv, .slice ap m cp]] W' fun e w'' => e = .returned (.int .i64 0) ∧ ∃ x : Later W', w'' = x.out) :
    Calls Try.prog 24 #[.agg #[.slice av 0 cv, .slice ap m cp]] w (SplitRet w 0) := by
  have HC := Lib.hid hc
  clear hc
  go_enter Try.func24, Try.ntmps24
  go_wp2_with (go_at_call 45; (with_reducible refine (HC.out _ ((Below.refl _ _).alloc (Nat.le_refl _) _)).mono ?_); rintro e _ ⟨rfl, x, rfl⟩)
  have hb : Blk (x.out.alloc (.cells #[.slice av 0 cv, .slice ap m cp, .slice none 0 0, .int .i64 0, .int .i64 0] 93)) x.out.heap.size 93 #[.slice av 0 cv, .slice ap m cp, .slice none 0 0, .int .i64 0, .int .i64 0] := Blk.new _ _ _
  go_loopw [19] (fun u wr => u = .int .i64 0 ∧ wr = x.out.alloc (.cells #[.slice av 0 cv, .slice ap m cp, .slice none 0 0, .int .i64 0, .int .i64 0] 93)) (fun _ _ => 0)
  case atStart => exact ⟨rfl, rfl⟩
  case round =>
    obtain ⟨rfl, rfl⟩ := hrel
    go_wp2_with (fail)
    exact bodyPost_ret (v := .tuple #[.slice none 0 0, .int .i64 0]) (by simp [results, Try.results24, go_sem, *]) rfl ⟨(Later.mk_of (by repeat (first | (with_reducible assumption) | (with_reducible exact Below.refl _ _) | (with_reducible refine Later.after ?_ _) | (with_reducible refine Later.newer ?_ _) | (with_reducible refine Below.drew ?_) | (with_reducible refine Below.setCell ?_ (by first | exact Nat.le_refl _ | exact Nat.le_add_right _ _ | omega | (simp [go_sem]; done) | (simp [go_sem]; omega)) _)))), fun h => absurd rfl h, fun _ => ⟨_, [], rfl, Subs.nil _ _, fun p hp => by simp at hp, by simp⟩⟩


/-- behind k verbs -/
structure SpInv (w : World) (t : Nat) (vv : Value) (vs : List Int) (k : Nat) (pl sv : Value) (rest : List (Int × Int)) (pt : Int × Int) (L : List (SubP × Value)) (b : Int) (W : World) : Prop where
  T : TkAt w t vv pl sv rest pt L W
  G : GoodS k pt rest L
  left : chkL (vs.drop k) rest.length b = .ok 0
  first : L ≠ [] ∨ b = 5
set_option maxRecDepth 100000 in
set_option maxHeartbeats 4000000 in
theorem split_cons (vs : List Int) (pts : List (Int × Int)) (n m : Nat) (av : Option Addr) (cv Bp o cp : Nat) (w : World) (hn : vs.length = n) (hm : pts.length = m) (n9 : n ≤ 512)
    (hv : IntsAt w (.slice av n cv) vs) (hp : Pl w (.slice (some ⟨Bp, o, none⟩) m cp) pts) (hl : chkL vs pts.length 5 = .ok 0) (hnr : ∀ p ∈ pts, nrP p)
    (hc : ∀ W', Below w.heap.size w W' → Calls Try.prog 45 #[.agg #[.slice av n cv, .slice (some ⟨Bp, o, none⟩) m cp]] W' fun e w'' => e = .returned (.int .i64 0) ∧ ∃ x : Later W', w'' = x.out) :
    Calls Try.prog 24 #[.agg #[.slice av n cv, .slice (some ⟨Bp, o, none⟩) m cp]] w (SplitRet w 0) := by
  have HC := Lib.hid hc
  have HV := Lib.hid hv
  have HP := Lib.hid hp
  have HL := Lib.hid hl
  have HNR := Lib.hid hnr
  have HN := Lib.hid hn
  clear hc hv hp hl hnr hn hm
  go_enter Try.func24, Try.ntmps24
  go_wp2_with (go_at_call 45; (with_reducible refine (HC.out _ ((Below.refl _ _).alloc (Nat.le_refl _) _)).mono ?_); rintro e _ ⟨rfl, x, rfl⟩)
  have xs := x.size_le
  simp only [World.size_alloc] at xs
  have hT : TkAt w x.out.heap.size (.slice av n cv) (.slice (some ⟨Bp, o, none⟩) m cp) (.slice none 0 0) pts (0, 0) [] (x.out.alloc (.cells #[.slice av n cv, .slice (some ⟨Bp, o, none⟩) m cp, .slice none 0 0, .int .i64 0, .int .i64 0] 93)) :=
    ⟨Blk.new _ _ _, HP.out, Subs.nil _ _, (by repeat (first | (with_reducible assumption) | (with_reducible exact Below.refl _ _) | (with_reducible refine Later.after ?_ _) | (with_reducible refine Later.newer ?_ _) | (with_reducible refine Below.drew ?_) | (with_reducible refine Below.setCell ?_ (by first | exact Nat.le_refl _ | exact Nat.le_add_right _ _ | omega | (simp [go_sem]; done) | (simp [go_sem]; omega)) _))), by omega, by simp⟩
  have hI : SpInv w x.out.heap.size (.slice av n cv) vs 0 (.slice (some ⟨Bp, o, none⟩) m cp) (.slice none 0 0) pts (0, 0) [] 5 (x.out.alloc (.cells #[.slice av n cv, .slice (some ⟨Bp, o, none⟩) m cp, .slice none 0 0, .int .i64 0, .int .i64 0] 93)) :=
    ⟨hT, ⟨by simp, fun p hp => by simp at hp, ⟨⟨by show (-268435456 : Int) ≤ 0; omega, by show (0 : Int) ≤ 268435456; omega⟩, ⟨by show (-268435456 : Int) ≤ 0; omega, by show (0 : Int) ≤ 268435456; omega⟩⟩, HNR.out⟩, HL.out, .inr rfl⟩
  have HI := Lib.hid hI
  clear hT hI xs
  generalize x.out.alloc (.cells #[.slice av n cv, .slice (some ⟨Bp, o, none⟩) m cp, .slice none 0 0, .int .i64 0, .int .i64 0] 93) = W4 at *
  generalize x.out.heap.size = t at *
  clear x
  go_loopw [19] (fun u wr => ∃ (k : Nat) (pl sv : Value) (rest : List (Int × Int)) (pt : Int × Int) (L : List (SubP × Value)) (b : Int), k ≤ n ∧ u = .int .i64 k ∧ Hid (SpInv w t (.slice av n cv) vs k pl sv rest pt L b wr)) (fun u _ => n - (intOf u).toNat)
  case atStart => exact ⟨0, _, _, _, _, _, _, by omega, rfl, HI⟩
  case round =>
    obtain ⟨k, pl, sv, rest, pt, L, b, hk, rfl, hI⟩ := hrel
    have T := hI.out.T
    have G := hI.out.G
    have hle := chkL_le _ _ _ hI.out.left
    have hdl : (vs.drop k).length ≤ 512 := by rw [List.length_drop, HN.out]; omega
    by_cases hlt : k < n
    · have hd : decide (k < n) = true := by simp [hlt]
      obtain ⟨v, hvk⟩ : ∃ p, vs[k]? = some p := ⟨_, List.getElem?_eq_getElem (by rw [HN.out]; exact hlt)⟩
      have hdr : vs.drop k = v :: vs.drop (k + 1) := by
        obtain ⟨hk', e⟩ := List.getElem?_eq_some_iff.1 hvk
        rw [List.drop_eq_getElem_cons hk', e]
      obtain ⟨Bv, ov, c, hvf, hbv, hcv, hmx, hcells⟩ := HV.out.cell (by intro e; have := HN.out; rw [e] at this; simp at this; omega)
      rw [HN.out] at hvf hcv
      simp only [Value.slice.injEq, true_and] at hvf
      obtain ⟨rfl, rfl⟩ := hvf
      have q0 := (T.below.cell (p := ⟨Bv, ov + k, none⟩) hbv).trans (hcells k _ hvk)
      have lp : Bv < wr.heap.size := Nat.lt_of_lt_of_le hbv T.below.size
      have hlf := hI.out.left
      rw [hdr] at hlf
      obtain ⟨tv, t1, hlf⟩ := chkL_step hlf
      have tge := chkL_ge _ _ _ hlf
      have hL : v = 1 ∨ L ≠ [] := by
        rcases hI.out.first with h | h
        · exact .inr h
        · exact .inl (t1 h)
      have tr : (tkV v).toNat ≤ rest.length := by omega
      have k9 : k ≤ 600 := by omega
      have r9 : rest.length ≤ 1000000 := by omega
      have HT := Lib.hid T
      have HG := Lib.hid G
      have HLF := Lib.hid hlf
      clear T G hlf tge t1 hdr hvk hcells hI hle hdl
      go_wp2_with (first | (go_at_call 46; (with_reducible refine (take_c v HT.out HG.out k9 r9 tv tr hL).mono ?_); rintro e w5 ⟨rfl, pl', sv', rest', pt', L', T', G', N', E'⟩; have HT5 := Lib.hid T'; have HG5 := Lib.hid G'; clear T' G'))
      have e9 : ((rest.length : Int) - tkV v) = rest'.length := by omega
      go_roundw
      case rel => exact ⟨k + 1, pl', sv', rest', pt', L', v, by omega, by go_num, Lib.hid ⟨HT5.out, HG5.out, by rw [← e9]; exact HLF.out, .inl N'⟩⟩
      case measure => simp [intOf]; omega
    · obtain rfl : k = n := by omega
      have hd : decide (k < k) = false := by simp
      obtain ⟨cb, zb, lb⟩ := T.blk.all
      obtain ⟨av2, nv2, cv2, hsv⟩ : ∃ a n c, sv = .slice a n c := by
        rcases Go.Joins.ownsRow_forms T.subs.own with ⟨h1, h2⟩ | ⟨g, cap, h⟩
        · exact ⟨_, _, _, h1⟩
        · exact ⟨_, _, _, h⟩
      have HT := Lib.hid T
      have HG := Lib.hid G
      have HSV := Lib.hid hsv
      clear T G hsv hI
      go_wp2_with (fail)
      exact bodyPost_ret (v := .tuple #[sv, .int .i64 0]) (by simp [results, Try.results24, go_sem, *]) rfl ⟨Later.mk_of HT.out.below, fun h => absurd rfl h, fun _ => ⟨sv, L, rfl, HT.out.subs.base (Nat.le_succ_of_le HT.out.t0), fun p hp => (HG.out.each p hp).mono (by omega), by have := HG.out.len; omega⟩⟩
theorem split_c (vs : List Int) (pts : List (Int × Int)) (vv sv : Value) (w : World) (hv : IntsAt w vv vs) (hp : PtsAt w sv pts) :
    Calls Try.prog 24 #[.agg #[vv, sv]] w (SplitRet w (chk vs pts)) := by
  have hc : ∀ W', Below w.heap.size w W' → Calls Try.prog 45 #[.agg #[vv, sv]] W' fun e w'' => e = .returned (.int .i64 (chk vs pts)) ∧ ∃ x : Later W', w'' = x.out :=
    fun W' k => check_c vs pts vv sv W' (hv.below k (Nat.le_refl _)) (ptsAt_under hp k (Nat.le_refl _))
  obtain ⟨av, cv, rfl⟩ := hv.form
  obtain ⟨ap, cp, rfl⟩ := ptsAt_form hp
  by_cases hz : chk vs pts = 0
  · rw [hz] at hc ⊢
    obtain ⟨h1, h2, h3⟩ := chk_ok hz
    cases vs with
    | nil => exact split_nil _ av ap cv cp w hc
    | cons v r =>
      cases pts with
      | nil =>
        exfalso
        obtain ⟨tv, t1, h4⟩ := chkL_step h2
        have := chkL_ge _ _ _ h4
        have e := t1 rfl
        subst e
        rw [show tkV 1 = 1 from rfl] at this
        simp at this
      | cons p q =>
        obtain ⟨b, o, c, hpv, hb, hl, c9, hcell⟩ := ptsAt_first hp
        simp only [Value.slice.injEq] at hpv
        obtain ⟨rfl, _, rfl⟩ := hpv
        exact split_cons (v :: r) (p :: q) _ _ av cv b o cp w rfl rfl h1 hv ⟨b, o, cp, rfl, hb, hl, c9, hcell⟩ h2 h3 hc
  · exact split_bad _ _ _ av ap cv cp w hz hc

end Go.Proofs.Ytcdnekhpeghkiaa
