/-
  Which paths are meant: what a verb takes, and the check of a path.
-/
import Derived.Test.YtcdnekhpeghkiaaD2
import Derived.Test.YtcdnekhpeghkiaaG2
namespace Go.Proofs.Ytcdnekhpeghkiaa
set_option linter.unusedVariables false
open Go.RowKit

def tkV (v : Int) : Int := if v = 1 then 1 else if v = 2 then 1 else if v = 3 then 2 else if v = 4 then 3 else if v = 5 then 0 else -1


set_option maxRecDepth 100000 in
set_option maxHeartbeats 400000 in
theorem tk_lo (v : Int) (w : World)
    (h : v < 1) :
    Calls Try.prog 64 #[.int .i64 v] w fun e w' => e = .returned (.int .i64 (-1)) ∧ ∃ x : Later w, w' = x.out := by
  skip
  go_enter Try.func64, Try.ntmps64
  go_wp2_with (fail)
  exact bodyPost_ret (v := .int .i64 (-1)) (by simp [results, Try.results64, go_sem, *]) rfl ⟨rfl, (Later.mk_of (by repeat (first | (with_reducible assumption) | (with_reducible exact Below.refl _ _) | (with_reducible refine Later.after ?_ _) | (with_reducible refine Later.newer ?_ _) | (with_reducible refine Below.drew ?_) | (with_reducible refine Below.setCell ?_ (by first | exact Nat.le_refl _ | exact Nat.le_add_right _ _ | omega | (simp [go_sem]; done) | (simp [go_sem]; omega)) _))))⟩


set_option maxRecDepth 100000 in
set_option maxHeartbeats 400000 in
theorem tk_hi (v : Int) (w : World)
    (h : 5 < v) (d : decide (v < 1) = false) :
    Calls Try.prog 64 #[.int .i64 v] w fun e w' => e = .returned (.int .i64 (-1)) ∧ ∃ x : Later w, w' = x.out := by
  skip
  go_enter Try.func64, Try.ntmps64
  go_wp2_with (fail)
  exact bodyPost_ret (v := .int .i64 (-1)) (by simp [results, Try.results64, go_sem, *]) rfl ⟨rfl, (Later.mk_of (by repeat (first | (with_reducible assumption) | (with_reducible exact Below.refl _ _) | (with_reducible refine Later.after ?_ _) | (with_reducible refine Later.newer ?_ _) | (with_reducible refine Below.drew ?_) | (with_reducible refine Below.setCell ?_ (by first | exact Nat.le_refl _ | exact Nat.le_add_right _ _ | omega | (simp [go_sem]; done) | (simp [go_sem]; omega)) _))))⟩


set_option maxRecDepth 100000 in
set_option maxHeartbeats 400000 in
theorem tk_1  (w : World)
     :
    Calls Try.prog 64 #[.int .i64 1] w fun e w' => e = .returned (.int .i64 1) ∧ ∃ x : Later w, w' = x.out := by
  skip
  go_enter Try.func64, Try.ntmps64
  go_wp2_with (fail)
  exact bodyPost_ret (v := .int .i64 1) (by simp [results, Try.results64, go_sem, *]) rfl ⟨rfl, (Later.mk_of (by repeat (first | (with_reducible assumption) | (with_reducible exact Below.refl _ _) | (with_reducible refine Later.after ?_ _) | (with_reducible refine Later.newer ?_ _) | (with_reducible refine Below.drew ?_) | (with_reducible refine Below.setCell ?_ (by first | exact Nat.le_refl _ | exact Nat.le_add_right _ _ | omega | (simp [go_sem]; done) | (simp [go_sem]; omega)) _))))⟩


set_option maxRecDepth 100000 in
set_option maxHeartbeats 400000 in
theorem tk_2  (w : World)
     :
    Calls Try.prog 64 #[.int .i64 2] w fun e w' => e = .returned (.int .i64 1) ∧ ∃ x : Later w, w' = x.out := by
  skip
  go_enter Try.func64, Try.ntmps64
  go_wp2_with (fail)
  exact bodyPost_ret (v := .int .i64 1) (by simp [results, Try.results64, go_sem, *]) rfl ⟨rfl, (Later.mk_of (by repeat (first | (with_reducible assumption) | (with_reducible exact Below.refl _ _) | (with_reducible refine Later.after ?_ _) | (with_reducible refine Later.newer ?_ _) | (with_reducible refine Below.drew ?_) | (with_reducible refine Below.setCell ?_ (by first | exact Nat.le_refl _ | exact Nat.le_add_right _ _ | omega | (simp [go_sem]; done) | (simp [go_sem]; omega)) _))))⟩


set_option maxRecDepth 100000 in
set_option maxHeartbeats 400000 in
theorem tk_3  (w : World)
     :
    Calls Try.prog 64 #[.int .i64 3] w fun e w' => e = .returned (.int .i64 2) ∧ ∃ x : Later w, w' = x.out := by
  skip
  go_enter Try.func64, Try.ntmps64
  go_wp2_with (fail)
  exact bodyPost_ret (v := .int .i64 2) (by simp [results, Try.results64, go_sem, *]) rfl ⟨rfl, (Later.mk_of (by repeat (first | (with_reducible assumption) | (with_reducible exact Below.refl _ _) | (with_reducible refine Later.after ?_ _) | (with_reducible refine Later.newer ?_ _) | (with_reducible refine Below.drew ?_) | (with_reducible refine Below.setCell ?_ (by first | exact Nat.le_refl _ | exact Nat.le_add_right _ _ | omega | (simp [go_sem]; done) | (simp [go_sem]; omega)) _))))⟩


set_option maxRecDepth 100000 in
set_option maxHeartbeats 400000 in
theorem tk_4  (w : World)
     :
    Calls Try.prog 64 #[.int .i64 4] w fun e w' => e = .returned (.int .i64 3) ∧ ∃ x : Later w, w' = x.out := by
  skip
  go_enter Try.func64, Try.ntmps64
  go_wp2_with (fail)
  exact bodyPost_ret (v := .int .i64 3) (by simp [results, Try.results64, go_sem, *]) rfl ⟨rfl, (Later.mk_of (by repeat (first | (with_reducible assumption) | (with_reducible exact Below.refl _ _) | (with_reducible refine Later.after ?_ _) | (with_reducible refine Later.newer ?_ _) | (with_reducible refine Below.drew ?_) | (with_reducible refine Below.setCell ?_ (by first | exact Nat.le_refl _ | exact Nat.le_add_right _ _ | omega | (simp [go_sem]; done) | (simp [go_sem]; omega)) _))))⟩


set_option maxRecDepth 100000 in
set_option maxHeartbeats 400000 in
theorem tk_5  (w : World)
     :
    Calls Try.prog 64 #[.int .i64 5] w fun e w' => e = .returned (.int .i64 0) ∧ ∃ x : Later w, w' = x.out := by
  skip
  go_enter Try.func64, Try.ntmps64
  go_wp2_with (fail)
  exact bodyPost_ret (v := .int .i64 0) (by simp [results, Try.results64, go_sem, *]) rfl ⟨rfl, (Later.mk_of (by repeat (first | (with_reducible assumption) | (with_reducible exact Below.refl _ _) | (with_reducible refine Later.after ?_ _) | (with_reducible refine Later.newer ?_ _) | (with_reducible refine Below.drew ?_) | (with_reducible refine Below.setCell ?_ (by first | exact Nat.le_refl _ | exact Nat.le_add_right _ _ | omega | (simp [go_sem]; done) | (simp [go_sem]; omega)) _))))⟩


theorem tk_c (v : Int) (w : World) : Calls Try.prog 64 #[.int .i64 v] w fun e w' => e = .returned (.int .i64 (tkV v)) ∧ ∃ x : Later w, w' = x.out := by
  by_cases h0 : v < 1
  · rw [show tkV v = -1 by unfold tkV; rw [if_neg (by omega), if_neg (by omega), if_neg (by omega), if_neg (by omega), if_neg (by omega)]]
    exact tk_lo v w h0
  · by_cases h9 : 5 < v
    · rw [show tkV v = -1 by unfold tkV; rw [if_neg (by omega), if_neg (by omega), if_neg (by omega), if_neg (by omega), if_neg (by omega)]]
      exact tk_hi v w h9 (by simp; omega)
    · have : v = 1 ∨ v = 2 ∨ v = 3 ∨ v = 4 ∨ v = 5 := by omega
      rcases this with rfl | rfl | rfl | rfl | rfl
      · exact tk_1 w
      · exact tk_2 w
      · exact tk_3 w
      · exact tk_4 w
      · exact tk_5 w


set_option maxRecDepth 100000 in
set_option maxHeartbeats 400000 in
theorem pnr_yes (n : Int) (w : World)
    (h1 : -268435456 ≤ n) (h2 : n ≤ 268435456) :
    Calls Try.prog 67 #[.int .i64 n] w fun e w' => e = .returned (.bool true) ∧ ∃ x : Later w, w' = x.out := by
  skip
  go_enter Try.func67, Try.ntmps67
  go_wp2_with (fail)
  exact bodyPost_ret (v := .bool true) (by simp [results, Try.results67, go_sem, *]) rfl ⟨rfl, (Later.mk_of (by repeat (first | (with_reducible assumption) | (with_reducible exact Below.refl _ _) | (with_reducible refine Later.after ?_ _) | (with_reducible refine Later.newer ?_ _) | (with_reducible refine Below.drew ?_) | (with_reducible refine Below.setCell ?_ (by first | exact Nat.le_refl _ | exact Nat.le_add_right _ _ | omega | (simp [go_sem]; done) | (simp [go_sem]; omega)) _))))⟩


set_option maxRecDepth 100000 in
set_option maxHeartbeats 400000 in
theorem pnr_lo (n : Int) (w : World)
    (h1 : n < -268435456) :
    Calls Try.prog 67 #[.int .i64 n] w fun e w' => e = .returned (.bool false) ∧ ∃ x : Later w, w' = x.out := by
  skip
  go_enter Try.func67, Try.ntmps67
  go_wp2_with (fail)
  exact bodyPost_ret (v := .bool false) (by simp [results, Try.results67, go_sem, *]) rfl ⟨rfl, (Later.mk_of (by repeat (first | (with_reducible assumption) | (with_reducible exact Below.refl _ _) | (with_reducible refine Later.after ?_ _) | (with_reducible refine Later.newer ?_ _) | (with_reducible refine Below.drew ?_) | (with_reducible refine Below.setCell ?_ (by first | exact Nat.le_refl _ | exact Nat.le_add_right _ _ | omega | (simp [go_sem]; done) | (simp [go_sem]; omega)) _))))⟩


set_option maxRecDepth 100000 in
set_option maxHeartbeats 400000 in
theorem pnr_hi (n : Int) (w : World)
    (h1 : -268435456 ≤ n) (h2 : 268435456 < n) :
    Calls Try.prog 67 #[.int .i64 n] w fun e w' => e = .returned (.bool false) ∧ ∃ x : Later w, w' = x.out := by
  skip
  go_enter Try.func67, Try.ntmps67
  go_wp2_with (fail)
  exact bodyPost_ret (v := .bool false) (by simp [results, Try.results67, go_sem, *]) rfl ⟨rfl, (Later.mk_of (by repeat (first | (with_reducible assumption) | (with_reducible exact Below.refl _ _) | (with_reducible refine Later.after ?_ _) | (with_reducible refine Later.newer ?_ _) | (with_reducible refine Below.drew ?_) | (with_reducible refine Below.setCell ?_ (by first | exact Nat.le_refl _ | exact Nat.le_add_right _ _ | omega | (simp [go_sem]; done) | (simp [go_sem]; omega)) _))))⟩


theorem pnr_c (n : Int) (w : World) : Calls Try.prog 67 #[.int .i64 n] w fun e w' => e = .returned (.bool (nrB n)) ∧ ∃ x : Later w, w' = x.out := by
  unfold nrB
  by_cases h1 : -268435456 ≤ n
  · by_cases h2 : n ≤ 268435456
    · simpa [h1, h2] using pnr_yes n w h1 h2
    · simpa [h1, h2] using pnr_hi n w h1 (by omega)
  · simpa [h1] using pnr_lo n w (by omega)
def farB (p : Int × Int) : Bool := !nrB p.1 || !nrB p.2


set_option maxRecDepth 100000 in
set_option maxHeartbeats 400000 in
theorem far_1 (p q : Int) (w : World)
    (c1 : ∀ w', Calls Try.prog 67 #[.int .i64 p] w' fun e w'' => e = .returned (.bool false) ∧ ∃ x : Later w', w'' = x.out) :
    Calls Try.prog 66 #[.agg #[.int .i64 p, .int .i64 q]] w fun e w' => e = .returned (.bool true) ∧ ∃ x : Later w, w' = x.out := by
  have Hc1 := Lib.hid c1; clear c1
  go_enter Try.func66, Try.ntmps66
  go_wp2_with (first | (go_at_call 67; (with_reducible refine (Hc1.out _).mono ?_); rintro e _ ⟨rfl, x, rfl⟩))
  exact bodyPost_ret (v := .bool true) (by simp [results, Try.results66, go_sem, *]) rfl ⟨rfl, (Later.mk_of (by repeat (first | (with_reducible assumption) | (with_reducible exact Below.refl _ _) | (with_reducible refine Later.after ?_ _) | (with_reducible refine Later.newer ?_ _) | (with_reducible refine Below.drew ?_) | (with_reducible refine Below.setCell ?_ (by first | exact Nat.le_refl _ | exact Nat.le_add_right _ _ | omega | (simp [go_sem]; done) | (simp [go_sem]; omega)) _))))⟩


set_option maxRecDepth 100000 in
set_option maxHeartbeats 400000 in
theorem far_2 (p q : Int) (b : Bool) (w : World)
    (c1 : ∀ w', Calls Try.prog 67 #[.int .i64 p] w' fun e w'' => e = .returned (.bool true) ∧ ∃ x : Later w', w'' = x.out) (c2 : ∀ w', Calls Try.prog 67 #[.int .i64 q] w' fun e w'' => e = .returned (.bool b) ∧ ∃ x : Later w', w'' = x.out) :
    Calls Try.prog 66 #[.agg #[.int .i64 p, .int .i64 q]] w fun e w' => e = .returned (.bool (!b)) ∧ ∃ x : Later w, w' = x.out := by
  have Hc1 := Lib.hid c1; clear c1
  have Hc2 := Lib.hid c2; clear c2
  go_enter Try.func66, Try.ntmps66
  go_wp2_with (first | (go_at_call 67; (with_reducible refine (Hc1.out _).mono ?_); rintro e _ ⟨rfl, x, rfl⟩) | (go_at_call 67; (with_reducible refine (Hc2.out _).mono ?_); rintro e _ ⟨rfl, x, rfl⟩))
  exact bodyPost_ret (v := .bool (!b)) (by simp [results, Try.results66, go_sem, *]) rfl ⟨rfl, (Later.mk_of (by repeat (first | (with_reducible assumption) | (with_reducible exact Below.refl _ _) | (with_reducible refine Later.after ?_ _) | (with_reducible refine Later.newer ?_ _) | (with_reducible refine Below.drew ?_) | (with_reducible refine Below.setCell ?_ (by first | exact Nat.le_refl _ | exact Nat.le_add_right _ _ | omega | (simp [go_sem]; done) | (simp [go_sem]; omega)) _))))⟩


theorem far_c (p q : Int) (w : World) : Calls Try.prog 66 #[.agg #[.int .i64 p, .int .i64 q]] w fun e w' => e = .returned (.bool (farB (p, q))) ∧ ∃ x : Later w, w' = x.out := by
  have c1 := fun v => pnr_c p v
  have c2 := fun v => pnr_c q v
  unfold farB
  cases e : nrB p
  · rw [e] at c1
    simpa [e] using far_1 p q w c1
  · rw [e] at c1
    simpa [e] using far_2 p q (nrB q) w c1 c2
theorem ptsAt_form {W : World} {v : Value} {l : List (Int × Int)} (h : PtsAt W v l) : ∃ a c, v = .slice a l.length c := by
  rcases h with ⟨rfl, rfl⟩ | ⟨a, c, rfl, rfl⟩ | ⟨b, o, c, rfl, _⟩ <;> exact ⟨_, _, rfl⟩
theorem ptsAt_le {W : World} {v : Value} {l : List (Int × Int)} (h : PtsAt W v l) : l.length ≤ maxLen := by
  rcases h with ⟨h1, rfl⟩ | ⟨a, c, h1, rfl⟩ | ⟨b, o, c, h1, _, h2, h3, _⟩
  · simp
  · simp
  · omega
/-- the first point that is too far away -/
def farI : List (Int × Int) → Nat → Int
  | [], _ => -1
  | p :: r, i => if farB p then i else farI r (i + 1)
theorem farI_any : ∀ (l : List (Int × Int)) (i : Nat), decide (0 ≤ farI l i) = l.any farB
  | [], i => rfl
  | p :: r, i => by
    unfold farI
    rw [List.any_cons]
    cases e : farB p
    · simpa using farI_any r (i + 1)
    · simp
set_option maxRecDepth 100000 in
set_option maxHeartbeats 2000000 in
theorem idx_c (l : List (Int × Int)) (sv : Value) (w : World) (h : PtsAt w sv l) : Calls Try.prog 83 #[sv, .func (.func 66) #[] #[]] w fun e w' => e = .returned (.int .i64 (farI l 0)) ∧ ∃ x : Later w, w' = x.out := by
  obtain ⟨av, cv, hsv⟩ := ptsAt_form h
  have hl9 := ptsAt_le h
  unfold maxLen at hl9
  obtain ⟨n, hn⟩ : ∃ n, l.length = n := ⟨_, rfl⟩
  rw [hn] at hsv hl9
  subst hsv
  have H := Lib.hid h
  have HN := Lib.hid hn
  clear h hn
  go_enter Try.func83, Try.ntmps83
  go_wp2
  go_loopw [8] (fun u wr => ∃ k : Nat, k ≤ n ∧ u = .int .i64 k ∧ Hid (farI l 0 = farI (l.drop k) k) ∧ ∃ y : Later w, wr = y.out) (fun u _ => n - (intOf u).toNat)
  case atStart => exact ⟨0, by omega, rfl, Lib.hid rfl, ⟨w, Below.refl _ _⟩, rfl⟩
  case round =>
    obtain ⟨k, hk, rfl, hpre, y, rfl⟩ := hrel
    by_cases hlt : k < n
    · have hd : decide (k < n) = true := by simp [hlt]
      obtain ⟨⟨p0, p1⟩, hp0⟩ : ∃ p, l[k]? = some p := ⟨_, List.getElem?_eq_getElem (by rw [HN.out]; exact hlt)⟩
      obtain ⟨Bp, o, c, hv, hc, hm, hp⟩ := H.out.ptsB (by rw [HN.out]; omega)
      rw [HN.out] at hv hc
      simp only [Value.slice.injEq, true_and] at hv
      obtain ⟨rfl, rfl⟩ := hv
      obtain ⟨q0, q1⟩ := hp.cell k _ hp0
      have lp := hp.lt
      simp only [] at q0 q1
      have hdr : l.drop k = (p0, p1) :: l.drop (k + 1) := by
        obtain ⟨hk', e⟩ := List.getElem?_eq_some_iff.1 hp0
        rw [List.drop_eq_getElem_cons hk', e]
      have hf := fun v => far_c p0 p1 v
      have HDR := Lib.hid hdr
      cases e : farB (p0, p1)
      · rw [e] at hf
        have HF := Lib.hid hf
        have HE := Lib.hid e
        clear hf hp0 hp hdr e
        go_wp2_with (first | (go_at_call 66; (with_reducible refine (HF.out _).mono ?_); rintro e _ ⟨rfl, x, rfl⟩))
        go_roundw
        case rel => exact ⟨k + 1, by omega, by go_num, Lib.hid (by rw [hpre.out, HDR.out, farI, if_neg (by rw [HE.out]; simp)]), ⟨x.out, y.below.trans (x.below.mono y.below.size)⟩, rfl⟩
        case measure => simp [intOf]; omega
      · rw [e] at hf
        have HF := Lib.hid hf
        have hr : farI l 0 = k := by rw [hpre.out, hdr]; unfold farI; rw [e]; rfl
        have HR := Lib.hid hr
        clear hf hp0 hp hdr e hr
        go_wp2_with (first | (go_at_call 66; (with_reducible refine (HF.out _).mono ?_); rintro e _ ⟨rfl, x, rfl⟩))
        exact bodyPost_ret (v := .int .i64 k) (by simp [results, Try.results83, go_sem, *]) rfl ⟨by rw [HR.out], (Later.mk_of (by repeat (first | (with_reducible assumption) | (with_reducible exact Below.refl _ _) | (with_reducible refine Later.after ?_ _) | (with_reducible refine Later.newer ?_ _) | (with_reducible refine Below.drew ?_) | (with_reducible refine Below.setCell ?_ (by first | exact Nat.le_refl _ | exact Nat.le_add_right _ _ | omega | (simp [go_sem]; done) | (simp [go_sem]; omega)) _))))⟩
    · obtain rfl : k = n := by omega
      have hr : farI l 0 = -1 := by rw [hpre.out, List.drop_of_length_le (by rw [HN.out]; exact Nat.le_refl _)]; rfl
      have HR := Lib.hid hr
      clear hr
      go_wp2_with (fail)
      exact bodyPost_ret (v := .int .i64 (-1)) (by simp [results, Try.results83, go_sem, *]) rfl ⟨by rw [HR.out], (Later.mk_of (by repeat (first | (with_reducible assumption) | (with_reducible exact Below.refl _ _) | (with_reducible refine Later.after ?_ _) | (with_reducible refine Later.newer ?_ _) | (with_reducible refine Below.drew ?_) | (with_reducible refine Below.setCell ?_ (by first | exact Nat.le_refl _ | exact Nat.le_add_right _ _ | omega | (simp [go_sem]; done) | (simp [go_sem]; omega)) _))))⟩
set_option maxHeartbeats 400000 in
theorem cont_c (l : List (Int × Int)) (sv : Value) (w : World) (h : PtsAt w sv l) : Calls Try.prog 65 #[sv, .func (.func 66) #[] #[]] w fun e w' => e = .returned (.bool (l.any farB)) ∧ ∃ x : Later w, w' = x.out := by
  have hc := fun w' h' => idx_c l sv w' h'
  rw [← farI_any l 0]
  generalize farI l 0 = z at *
  have HC := Lib.hid hc
  have H := Lib.hid h
  clear hc h
  go_enter Try.func65, Try.ntmps65
  go_wp2_with (first | (go_at_call 83; (with_reducible refine (HC.out _ H.out).mono ?_); rintro e _ ⟨rfl, x, rfl⟩))
  exact bodyPost_ret (v := .bool (decide (0 ≤ z))) (by simp [results, Try.results65, go_sem, *]) rfl ⟨rfl, (Later.mk_of (by repeat (first | (with_reducible assumption) | (with_reducible exact Below.refl _ _) | (with_reducible refine Later.after ?_ _) | (with_reducible refine Later.newer ?_ _) | (with_reducible refine Below.drew ?_) | (with_reducible refine Below.setCell ?_ (by first | exact Nat.le_refl _ | exact Nat.le_add_right _ _ | omega | (simp [go_sem]; done) | (simp [go_sem]; omega)) _))))⟩
end Go.Proofs.Ytcdnekhpeghkiaa
