/-
  The check of a path.
-/
import Derived.Test.YtcdnekhpeghkiaaQA
import Derived.Test.YtcdnekhpeghkiaaPathRow
namespace Go.Proofs.Ytcdnekhpeghkiaa
set_option linter.unusedVariables false
open Go.RowKit

/-- what is left of the points behind these verbs, or why they are no path -/
def chkL : List Int → Int → Int → Except Int Int
  | [], left, _ => .ok left
  | v :: r, left, b => if tkV v < 0 then .error 1 else if b = 5 ∧ v ≠ 1 then .error 70 else chkL r (left - tkV v) v
def chk (vs : List Int) (pts : List (Int × Int)) : Int :=
  if 512 < vs.length then 74 else
    match chkL vs pts.length 5 with
    | .error e => e
    | .ok left => if left ≠ 0 then 71 else if pts.any farB then 72 else 0
theorem tkV_lo (v : Int) : -1 ≤ tkV v := by unfold tkV; repeat (first | split | omega)
theorem tkV_hi (v : Int) : tkV v ≤ 3 := by unfold tkV; repeat (first | split | omega)
theorem ptsAt_under {w w' : World} {B : Nat} {v : Value} {pts : List (Int × Int)} (h : PtsAt w v pts) (k : Below B w w') (hB : w.heap.size ≤ B) : PtsAt w' v pts := by
  rcases h with h | h | ⟨b, o, c, rfl, hb, hc, hm, hp⟩
  · exact .inl h
  · exact .inr (.inl h)
  · refine .inr (.inr ⟨b, o, c, rfl, ?_, hc, hm, fun i p hi => ?_⟩)
    · have := k.block b (by omega)
      rw [Array.getElem?_eq_getElem hb] at this
      exact (Array.getElem?_eq_some_iff.1 this).1
    · obtain ⟨h1, h2⟩ := hp i p hi
      exact ⟨(k.cell (p := ⟨b, o + i * 2, none⟩) (by show b < B; omega)).trans h1, (k.cell (p := ⟨b, o + i * 2 + 1, none⟩) (by show b < B; omega)).trans h2⟩
set_option maxRecDepth 100000 in
set_option maxHeartbeats 400000 in
theorem check_many (vs : List Int) (n : Nat) (av : Option Addr) (cv : Nat) (sv : Value) (w : World) (h : 512 < n) (h9 : n ≤ maxLen) :
    Calls Try.prog 45 #[.agg #[.slice av n cv, sv]] w fun e w' => e = .returned (.int .i64 74) ∧ ∃ x : Later w, w' = x.out := by
  have hd : decide (512 < n) = true := by simp [h]
  unfold maxLen at h9
  go_enter Try.func45, Try.ntmps45
  go_wp2_with (fail)
  exact bodyPost_ret (v := .int .i64 74) (by simp [results, Try.results45, go_sem, *]) rfl ⟨rfl, (Later.mk_of (by repeat (first | (with_reducible assumption) | (with_reducible exact Below.refl _ _) | (with_reducible refine Later.after ?_ _) | (with_reducible refine Later.newer ?_ _) | (with_reducible refine Below.drew ?_) | (with_reducible refine Below.setCell ?_ (by first | exact Nat.le_refl _ | exact Nat.le_add_right _ _ | omega | (simp [go_sem]; done) | (simp [go_sem]; omega)) _))))⟩


set_option maxRecDepth 100000 in
set_option maxHeartbeats 4000000 in
theorem check_in (vs : List Int) (pts : List (Int × Int)) (n m : Nat) (av ap : Option Addr) (cv cp : Nat) (w : World) (hn : vs.length = n) (hm : pts.length = m) (h : n ≤ 512)
    (hv : IntsAt w (.slice av n cv) vs) (hp : PtsAt w (.slice ap m cp) pts) :
    Calls Try.prog 45 #[.agg #[.slice av n cv, .slice ap m cp]] w fun e w' => e = .returned (.int .i64 (chk vs pts)) ∧ ∃ x : Later w, w' = x.out := by
  have hm9 := ptsAt_le hp
  rw [hm] at hm9
  unfold maxLen at hm9
  have hd : decide (512 < n) = false := by simp; omega
  have HC : Hid (chk vs pts = match chkL vs m 5 with | .error e => e | .ok left => if left ≠ 0 then 71 else if pts.any farB then 72 else 0) := Lib.hid (by unfold chk; rw [if_neg (by omega), hm])
  have HV := Lib.hid hv
  have HP := Lib.hid hp
  have HN := Lib.hid hn
  clear hv hp hn hm
  go_enter Try.func45, Try.ntmps45
  go_wp2_with (fail)
  go_loopw [3, 4, 18] (fun u3 u4 u wr => ∃ (k : Nat) (left b : Int), k ≤ n ∧ u = .int .i64 k ∧ u3 = .int .i64 left ∧ u4 = .int .i64 b ∧ -(3 * k) ≤ left ∧ left ≤ m ∧ Hid (chkL vs m 5 = chkL (vs.drop k) left b) ∧ Blk wr w.heap.size 51 #[.slice av n cv, .slice ap m cp] ∧ Below w.heap.size w wr) (fun _ _ u _ => n - (intOf u).toNat)
  case atStart => exact ⟨0, m, 5, by omega, rfl, rfl, rfl, by omega, by omega, Lib.hid rfl, Blk.new _ _ _, (by repeat (first | (with_reducible exact Below.refl _ _) | (with_reducible refine Later.newer ?_ _)))⟩
  case round =>
    obtain ⟨k, left, b, hk, rfl, rfl, rfl, hl0, hl9, hpre, hb, hB⟩ := hrel
    have f0 : wr.cell? ⟨w.heap.size, 0, none⟩ = some (.slice av n cv) := by rw [hb.cell]; rfl
    have f1 : wr.cell? ⟨w.heap.size, 1, none⟩ = some (.slice ap m cp) := by rw [hb.cell]; rfl
    have lB := hb.lt
    have HK := Lib.hid hb
    have HB := Lib.hid hB
    clear hb hB
    by_cases hlt : k < n
    · have hdk : decide (k < n) = true := by simp [hlt]
      obtain ⟨v, hvk⟩ : ∃ p, vs[k]? = some p := ⟨_, List.getElem?_eq_getElem (by rw [HN.out]; exact hlt)⟩
      have hdr : vs.drop k = v :: vs.drop (k + 1) := by
        obtain ⟨hk', e⟩ := List.getElem?_eq_some_iff.1 hvk
        rw [List.drop_eq_getElem_cons hk', e]
      obtain ⟨Bp, o, c, hvf, hbp, hc, hmx, hcells⟩ := HV.out.cell (by intro e; have := HN.out; rw [e] at this; simp at this; omega)
      rw [HN.out] at hvf hc
      simp only [Value.slice.injEq, true_and] at hvf
      obtain ⟨rfl, rfl⟩ := hvf
      have q0 := (HB.out.cell (p := ⟨Bp, o + k, none⟩) hbp).trans (hcells k _ hvk)
      have lp : Bp < wr.heap.size := Nat.lt_of_lt_of_le hbp HB.out.size
      clear hcells
      have ht := fun x => tk_c v x
      have t0 := tkV_lo v
      have t9 := tkV_hi v
      have HN1 : Hid (chkL (vs.drop k) left b = if tkV v < 0 then .error 1 else if b = 5 ∧ v ≠ 1 then .error 70 else chkL (vs.drop (k + 1)) (left - tkV v) v) := Lib.hid (by rw [hdr, chkL])
      clear hdr hvk
      generalize tkV v = t at *
      have HT := Lib.hid ht
      clear ht
      by_cases tn : t < 0
      · have hdt : decide (t < 0) = true := by simp [tn]
        have HR : Hid (chk vs pts = 1) := Lib.hid (by rw [HC.out, hpre.out, HN1.out, if_pos tn])
        clear HN1 hpre HC
        go_wp2_with (first | (go_at_call 64; (with_reducible refine (HT.out _).mono ?_); rintro e _ ⟨rfl, x, rfl⟩))
        have hB := HB.out; exact bodyPost_ret (v := .int .i64 1) (by simp [results, Try.results45, go_sem, *]) rfl ⟨by rw [HR.out], (Later.mk_of (by repeat (first | (with_reducible assumption) | (with_reducible exact Below.refl _ _) | (with_reducible refine Later.after ?_ _) | (with_reducible refine Later.newer ?_ _) | (with_reducible refine Below.drew ?_) | (with_reducible refine Below.setCell ?_ (by first | exact Nat.le_refl _ | exact Nat.le_add_right _ _ | omega | (simp [go_sem]; done) | (simp [go_sem]; omega)) _))))⟩
      · have hdt : decide (t < 0) = false := by simp; omega
        rw [if_neg tn] at HN1
        by_cases b5 : b = 5
        · subst b5
          by_cases v1 : v = 1
          · subst v1
            rw [if_neg (by simp)] at HN1
            go_wp2_with (first | (go_at_call 64; (with_reducible refine (HT.out _).mono ?_); rintro e _ ⟨rfl, x, rfl⟩))
            go_roundw
            case rel => exact ⟨k + 1, left - t, 1, by omega, by go_num, by go_num, rfl, by omega, by omega, Lib.hid (by rw [hpre.out, HN1.out]), (by repeat (first | (with_reducible exact HK.out) | (with_reducible refine Blk.later ?_ _))), (by repeat (first | (with_reducible exact HB.out) | (with_reducible refine Later.trans _ (HB.out.size) ?_) | (with_reducible refine Later.after ?_ _)))⟩
            case measure => simp [intOf]; omega
          · have hv1 : (v != 1) = true := by simp [v1]
            have HR : Hid (chk vs pts = 70) := Lib.hid (by rw [HC.out, hpre.out, HN1.out, if_pos ⟨rfl, v1⟩])
            clear HN1 hpre HC
            go_wp2_with (first | (go_at_call 64; (with_reducible refine (HT.out _).mono ?_); rintro e _ ⟨rfl, x, rfl⟩))
            have hB := HB.out; exact bodyPost_ret (v := .int .i64 70) (by simp [results, Try.results45, go_sem, *]) rfl ⟨by rw [HR.out], (Later.mk_of (by repeat (first | (with_reducible assumption) | (with_reducible exact Below.refl _ _) | (with_reducible refine Later.after ?_ _) | (with_reducible refine Later.newer ?_ _) | (with_reducible refine Below.drew ?_) | (with_reducible refine Below.setCell ?_ (by first | exact Nat.le_refl _ | exact Nat.le_add_right _ _ | omega | (simp [go_sem]; done) | (simp [go_sem]; omega)) _))))⟩
        · have hb5 : (b == 5) = false := by simp [b5]
          rw [if_neg (fun e => b5 e.1)] at HN1
          go_wp2_with (first | (go_at_call 64; (with_reducible refine (HT.out _).mono ?_); rintro e _ ⟨rfl, x, rfl⟩))
          go_roundw
          case rel => exact ⟨k + 1, left - t, v, by omega, by go_num, by go_num, rfl, by omega, by omega, Lib.hid (by rw [hpre.out, HN1.out]), (by repeat (first | (with_reducible exact HK.out) | (with_reducible refine Blk.later ?_ _))), (by repeat (first | (with_reducible exact HB.out) | (with_reducible refine Later.trans _ (HB.out.size) ?_) | (with_reducible refine Later.after ?_ _)))⟩
          case measure => simp [intOf]; omega
    · obtain rfl : k = n := by omega
      have e9 : vs.drop k = [] := List.drop_of_length_le (by rw [HN.out]; exact Nat.le_refl _)
      have hE : chkL vs m 5 = .ok left := by rw [hpre.out, e9]; rfl
      have hF := fun x hx => cont_c pts (.slice ap m cp) x hx
      have HR0 : Hid (chk vs pts = if left ≠ 0 then 71 else if pts.any farB then 72 else 0) := Lib.hid (by rw [HC.out, hE])
      clear e9 hE HC hpre
      generalize pts.any farB = fb at *
      have HF := Lib.hid hF
      clear hF
      by_cases l0 : left = 0
      · subst l0
        cases fb
        · have HR : Hid (chk vs pts = 0) := Lib.hid (by rw [HR0.out]; rfl)
          go_wp2_with (first | (go_at_call 65; (with_reducible refine (HF.out _ (ptsAt_under HP.out HB.out (Nat.le_refl _))).mono ?_); rintro e _ ⟨rfl, x, rfl⟩))
          have hB := HB.out; exact bodyPost_ret (v := .int .i64 0) (by simp [results, Try.results45, go_sem, *]) rfl ⟨by rw [HR.out], (Later.mk_of (by repeat (first | (with_reducible assumption) | (with_reducible exact Below.refl _ _) | (with_reducible refine Later.after ?_ _) | (with_reducible refine Later.newer ?_ _) | (with_reducible refine Below.drew ?_) | (with_reducible refine Below.setCell ?_ (by first | exact Nat.le_refl _ | exact Nat.le_add_right _ _ | omega | (simp [go_sem]; done) | (simp [go_sem]; omega)) _))))⟩
        · have HR : Hid (chk vs pts = 72) := Lib.hid (by rw [HR0.out]; rfl)
          go_wp2_with (first | (go_at_call 65; (with_reducible refine (HF.out _ (ptsAt_under HP.out HB.out (Nat.le_refl _))).mono ?_); rintro e _ ⟨rfl, x, rfl⟩))
          have hB := HB.out; exact bodyPost_ret (v := .int .i64 72) (by simp [results, Try.results45, go_sem, *]) rfl ⟨by rw [HR.out], (Later.mk_of (by repeat (first | (with_reducible assumption) | (with_reducible exact Below.refl _ _) | (with_reducible refine Later.after ?_ _) | (with_reducible refine Later.newer ?_ _) | (with_reducible refine Below.drew ?_) | (with_reducible refine Below.setCell ?_ (by first | exact Nat.le_refl _ | exact Nat.le_add_right _ _ | omega | (simp [go_sem]; done) | (simp [go_sem]; omega)) _))))⟩
      · have hl : (left != 0) = true := by simp [l0]
        have HR : Hid (chk vs pts = 71) := Lib.hid (by rw [HR0.out, if_pos l0])
        go_wp2_with (fail)
        have hB := HB.out; exact bodyPost_ret (v := .int .i64 71) (by simp [results, Try.results45, go_sem, *]) rfl ⟨by rw [HR.out], (Later.mk_of (by repeat (first | (with_reducible assumption) | (with_reducible exact Below.refl _ _) | (with_reducible refine Later.after ?_ _) | (with_reducible refine Later.newer ?_ _) | (with_reducible refine Below.drew ?_) | (with_reducible refine Below.setCell ?_ (by first | exact Nat.le_refl _ | exact Nat.le_add_right _ _ | omega | (simp [go_sem]; done) | (simp [go_sem]; omega)) _))))⟩
theorem check_c (vs : List Int) (pts : List (Int × Int)) (vv sv : Value) (w : World) (hv : IntsAt w vv vs) (hp : PtsAt w sv pts) :
    Calls Try.prog 45 #[.agg #[vv, sv]] w fun e w' => e = .returned (.int .i64 (chk vs pts)) ∧ ∃ x : Later w, w' = x.out := by
  obtain ⟨av, cv, rfl⟩ := hv.form
  obtain ⟨ap, cp, rfl⟩ := ptsAt_form hp
  by_cases h : 512 < vs.length
  · have e : chk vs pts = 74 := by unfold chk; rw [if_pos h]
    rw [e]
    exact check_many vs _ av cv _ w h hv.le
  · exact check_in vs pts _ _ av ap cv cp w rfl rfl (by omega) hv hp
end Go.Proofs.Ytcdnekhpeghkiaa
