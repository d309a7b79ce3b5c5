/-
  Which chains are meant (the laws' own test, of layer 12).
-/
import Derived.Test.YtcdnekhpeghkiaaD7
namespace Go.Proofs.Ytcdnekhpeghkiaa
set_option linter.unusedVariables false
open Go.RowKit

def nearB (p q : Int) : Bool := decide (-268435456 ≤ p) && decide (p ≤ 268435456) && (decide (-268435456 ≤ q) && decide (q ≤ 268435456))
theorem nearB_iff (p q : Int) : nearB p q = true ↔ nearP (p, q) := by unfold nearB nearP; simp [and_assoc]


set_option maxRecDepth 100000 in
set_option maxHeartbeats 400000 in
theorem half12_0 (p q : Int) (w : World)
     (h0 : p < -268435456) :
    Calls Try.prog 36 #[.agg #[.int .i64 p, .int .i64 q]] w fun e w' => e = .returned (.bool false) ∧ ∃ x : Later w, w' = x.out := by
  skip
  go_enter Try.func36, Try.ntmps36
  go_wp2_with (fail)
  exact bodyPost_ret (v := .bool false) (by simp [results, Try.results36, go_sem, *]) rfl ⟨rfl, (Later.mk_of (by repeat (first | (with_reducible assumption) | (with_reducible exact Below.refl _ _) | (with_reducible refine Later.after ?_ _) | (with_reducible refine Later.newer ?_ _) | (with_reducible refine Below.drew ?_) | (with_reducible refine Below.setCell ?_ (by first | exact Nat.le_refl _ | exact Nat.le_add_right _ _ | omega | (simp [go_sem]; done) | (simp [go_sem]; omega)) _))))⟩


set_option maxRecDepth 100000 in
set_option maxHeartbeats 400000 in
theorem half12_1 (p q : Int) (w : World)
    (h0 : -268435456 ≤ p) (h1 : 268435456 < p) :
    Calls Try.prog 36 #[.agg #[.int .i64 p, .int .i64 q]] w fun e w' => e = .returned (.bool false) ∧ ∃ x : Later w, w' = x.out := by
  skip
  go_enter Try.func36, Try.ntmps36
  go_wp2_with (fail)
  exact bodyPost_ret (v := .bool false) (by simp [results, Try.results36, go_sem, *]) rfl ⟨rfl, (Later.mk_of (by repeat (first | (with_reducible assumption) | (with_reducible exact Below.refl _ _) | (with_reducible refine Later.after ?_ _) | (with_reducible refine Later.newer ?_ _) | (with_reducible refine Below.drew ?_) | (with_reducible refine Below.setCell ?_ (by first | exact Nat.le_refl _ | exact Nat.le_add_right _ _ | omega | (simp [go_sem]; done) | (simp [go_sem]; omega)) _))))⟩


set_option maxRecDepth 100000 in
set_option maxHeartbeats 400000 in
theorem half12_2 (p q : Int) (w : World)
    (h0 : -268435456 ≤ p) (h1 : p ≤ 268435456) (h2 : q < -268435456) :
    Calls Try.prog 36 #[.agg #[.int .i64 p, .int .i64 q]] w fun e w' => e = .returned (.bool false) ∧ ∃ x : Later w, w' = x.out := by
  skip
  go_enter Try.func36, Try.ntmps36
  go_wp2_with (fail)
  exact bodyPost_ret (v := .bool false) (by simp [results, Try.results36, go_sem, *]) rfl ⟨rfl, (Later.mk_of (by repeat (first | (with_reducible assumption) | (with_reducible exact Below.refl _ _) | (with_reducible refine Later.after ?_ _) | (with_reducible refine Later.newer ?_ _) | (with_reducible refine Below.drew ?_) | (with_reducible refine Below.setCell ?_ (by first | exact Nat.le_refl _ | exact Nat.le_add_right _ _ | omega | (simp [go_sem]; done) | (simp [go_sem]; omega)) _))))⟩


set_option maxRecDepth 100000 in
set_option maxHeartbeats 400000 in
theorem half12_3 (p q : Int) (w : World)
    (h0 : -268435456 ≤ p) (h1 : p ≤ 268435456) (h2 : -268435456 ≤ q) (h3 : 268435456 < q) :
    Calls Try.prog 36 #[.agg #[.int .i64 p, .int .i64 q]] w fun e w' => e = .returned (.bool false) ∧ ∃ x : Later w, w' = x.out := by
  skip
  go_enter Try.func36, Try.ntmps36
  go_wp2_with (fail)
  exact bodyPost_ret (v := .bool false) (by simp [results, Try.results36, go_sem, *]) rfl ⟨rfl, (Later.mk_of (by repeat (first | (with_reducible assumption) | (with_reducible exact Below.refl _ _) | (with_reducible refine Later.after ?_ _) | (with_reducible refine Later.newer ?_ _) | (with_reducible refine Below.drew ?_) | (with_reducible refine Below.setCell ?_ (by first | exact Nat.le_refl _ | exact Nat.le_add_right _ _ | omega | (simp [go_sem]; done) | (simp [go_sem]; omega)) _))))⟩


set_option maxRecDepth 100000 in
set_option maxHeartbeats 400000 in
theorem half12_4 (p q : Int) (w : World)
    (h0 : -268435456 ≤ p) (h1 : p ≤ 268435456) (h2 : -268435456 ≤ q) (h3 : q ≤ 268435456) :
    Calls Try.prog 36 #[.agg #[.int .i64 p, .int .i64 q]] w fun e w' => e = .returned (.bool true) ∧ ∃ x : Later w, w' = x.out := by
  skip
  go_enter Try.func36, Try.ntmps36
  go_wp2_with (fail)
  exact bodyPost_ret (v := .bool true) (by simp [results, Try.results36, go_sem, *]) rfl ⟨rfl, (Later.mk_of (by repeat (first | (with_reducible assumption) | (with_reducible exact Below.refl _ _) | (with_reducible refine Later.after ?_ _) | (with_reducible refine Later.newer ?_ _) | (with_reducible refine Below.drew ?_) | (with_reducible refine Below.setCell ?_ (by first | exact Nat.le_refl _ | exact Nat.le_add_right _ _ | omega | (simp [go_sem]; done) | (simp [go_sem]; omega)) _))))⟩


theorem half12_c (p q : Int) (w : World) : Calls Try.prog 36 #[.agg #[.int .i64 p, .int .i64 q]] w fun e w' => e = .returned (.bool (nearB p q)) ∧ ∃ x : Later w, w' = x.out := by
  unfold nearB
  by_cases h0 : -268435456 ≤ p
  · by_cases h1 : p ≤ 268435456
    · by_cases h2 : -268435456 ≤ q
      · by_cases h3 : q ≤ 268435456
        · simpa [h0, h1, h2, h3] using half12_4 p q w h0 h1 h2 h3
        · simpa [h0, h1, h2, h3] using half12_3 p q w h0 h1 h2 (by omega)
      · simpa [h0, h1, h2] using half12_2 p q w h0 h1 (by omega)
    · simpa [h0, h1] using half12_1 p q w h0 (by omega)
  · simpa [h0] using half12_0 p q w (by omega)
theorem pre_one {pts : List (Int × Int)} {k : Nat} {p : Int × Int} (hk : k = 0) (hp : pts[k]? = some p) (hn : nearP p) :
    (∀ i p, i < k + 1 → pts[i]? = some p → nearP p) ∧ (∀ i a b, i + 1 < k + 1 → pts[i]? = some a → pts[i + 1]? = some b → a ≠ b) := by
  refine ⟨fun i q hi hq => ?_, fun i a b hi => by omega⟩
  obtain rfl : i = k := by omega
  rw [hp] at hq
  rw [← Option.some.inj hq]
  exact hn
theorem pre_more {pts : List (Int × Int)} {m k : Nat} {p z : Int × Int} (h : (∀ i p, i < k → pts[i]? = some p → nearP p) ∧ (∀ i a b, i + 1 < k → pts[i]? = some a → pts[i + 1]? = some b → a ≠ b)) (hK : k = m + 1) (hz : pts[m]? = some z) (hp : pts[k]? = some p) (hn : nearP p) (hne : z ≠ p) :
    (∀ i p, i < k + 1 → pts[i]? = some p → nearP p) ∧ (∀ i a b, i + 1 < k + 1 → pts[i]? = some a → pts[i + 1]? = some b → a ≠ b) := by
  refine ⟨fun i q hi hq => ?_, fun i a b hi ha hb => ?_⟩
  · by_cases e : i = k
    · subst e; rw [hp] at hq; rw [← Option.some.inj hq]; exact hn
    · exact h.1 i q (by omega) hq
  · by_cases e : i = m
    · subst e; rw [hz] at ha; rw [← hK, hp] at hb; rw [← Option.some.inj ha, ← Option.some.inj hb]; exact hne
    · exact h.2 i a b (by omega) ha hb
noncomputable def gdB (cl : Bool) (pts : List (Int × Int)) : Bool := @decide (GoodC cl pts) (Classical.propDecidable _)
theorem gdB_yes {cl : Bool} {pts : List (Int × Int)} (h : GoodC cl pts) : gdB cl pts = true := by unfold gdB; simpa using h
theorem gdB_no {cl : Bool} {pts : List (Int × Int)} (h : ¬ GoodC cl pts) : gdB cl pts = false := by unfold gdB; simpa using h
theorem gdB_is {cl : Bool} {pts : List (Int × Int)} (h : gdB cl pts = true) : GoodC cl pts := by unfold gdB at h; simpa using h


set_option maxRecDepth 100000 in
set_option maxHeartbeats 4000000 in
theorem good12_c (cl : Bool) (pts : List (Int × Int)) (sv : Value) (w : World) (h : PtsAt w sv pts) : Calls Try.prog 16 #[.agg #[sv, .bool cl]] w fun e w' => e = .returned (.bool (gdB cl pts)) ∧ ∃ x : Later w, w' = x.out := by
  have H := Lib.hid h
  obtain ⟨n, hn⟩ : ∃ n, pts.length = n := ⟨_, rfl⟩
  obtain ⟨av, cv, rfl⟩ : ∃ a c, sv = .slice a n c := by
    rcases h with ⟨rfl, rfl⟩ | ⟨a, c, rfl, rfl⟩ | ⟨b, o, c, rfl, _⟩
    · exact ⟨_, _, by rw [← hn]; rfl⟩
    · exact ⟨_, _, by rw [← hn]; rfl⟩
    · exact ⟨_, _, by rw [hn]⟩
  have hn0 : n ≤ maxLen := by
    rcases h with ⟨h1, rfl⟩ | ⟨a, c, h1, rfl⟩ | ⟨b, o, c, h1, _, h2, h3, _⟩
    · rw [← hn]; simp
    · rw [← hn]; simp
    · omega
  unfold maxLen at hn0
  have HN := Lib.hid hn
  clear h hn
  go_enter Try.func16, Try.ntmps16
  go_upto_region 2 with (fail)
  go_cut [34] from 8 to 33 (fun s34 wx => ∃ b : Bool, s34 = .bool b ∧ Blk wx w.heap.size 36 #[.slice av n cv, .bool cl] ∧ Below w.heap.size w wx ∧ (b = true → ¬ GoodC cl pts) ∧ (b = false → 1 ≤ n ∧ n ≤ 100 ∧ (cl = true → 1 < n → pts.getLast? ≠ pts.head?)))
  case first =>
    by_cases c0 : n = 0
    · have HC := Lib.hid c0
      have f1 : (n == 0) = true := by simp [c0]
      have f2 : ((n : Int) == 0) = true := by simp [c0]
      clear c0
      refine wp_region_later (by kernel_rfl) (by kernel_rfl) ?_
      repeat (go_big_quiet_step ((first | fail)))
      refine wpQuiet_nil ?_
      intro x
      go_wp2_with (fail)
      go_meet
      exact ⟨_, rfl, (by repeat (first | (with_reducible assumption) | (with_reducible refine Blk.later ?_ _) | (with_reducible refine Blk.drew ?_) | ((with_reducible refine Blk.new' ?_); (simp; done)) | (with_reducible refine Blk.alloc ?_ _))), (by repeat (first | (with_reducible assumption) | (with_reducible exact Below.refl _ _) | (with_reducible refine Later.after ?_ _) | (with_reducible refine Later.newer ?_ _) | (with_reducible refine Below.drew ?_) | (with_reducible refine Below.setCell ?_ (by first | exact Nat.le_refl _ | exact Nat.le_add_right _ _ | omega | (simp [go_sem]; done) | (simp [go_sem]; omega)) _))), fun _ g => by have := g.n1; have := HN.out; have := HC.out; omega, fun h => by cases h⟩
    have f1 : (n == 0) = false := by simp [c0]
    have f2 : ((n : Int) == 0) = false := by simp; omega
    by_cases c1 : 100 < n
    · have HC := Lib.hid c1
      have f3 : decide (100 < n) = true := by simp [c1]
      have f4 : decide ((100 : Int) < n) = true := by simp; omega
      clear c0 c1
      refine wp_region_later (by kernel_rfl) (by kernel_rfl) ?_
      repeat (go_big_quiet_step ((first | fail)))
      refine wpQuiet_nil ?_
      intro x
      go_wp2_with (fail)
      go_meet
      exact ⟨_, rfl, (by repeat (first | (with_reducible assumption) | (with_reducible refine Blk.later ?_ _) | (with_reducible refine Blk.drew ?_) | ((with_reducible refine Blk.new' ?_); (simp; done)) | (with_reducible refine Blk.alloc ?_ _))), (by repeat (first | (with_reducible assumption) | (with_reducible exact Below.refl _ _) | (with_reducible refine Later.after ?_ _) | (with_reducible refine Later.newer ?_ _) | (with_reducible refine Below.drew ?_) | (with_reducible refine Below.setCell ?_ (by first | exact Nat.le_refl _ | exact Nat.le_add_right _ _ | omega | (simp [go_sem]; done) | (simp [go_sem]; omega)) _))), fun _ g => by have := g.n9; have := HN.out; have := HC.out; omega, fun h => by cases h⟩
    have f3 : decide (100 < n) = false := by simp; omega
    have f4 : decide ((100 : Int) < n) = false := by simp; omega
    by_cases c2 : cl = false
    · have HC := Lib.hid c0
      have HC1 := Lib.hid c1
      clear c0 c1
      subst c2
      refine wp_region_later (by kernel_rfl) (by kernel_rfl) ?_
      repeat (go_big_quiet_step ((first | fail)))
      refine wpQuiet_nil ?_
      intro x
      go_wp2_with (fail)
      go_meet
      exact ⟨_, rfl, (by repeat (first | (with_reducible assumption) | (with_reducible refine Blk.later ?_ _) | (with_reducible refine Blk.drew ?_) | ((with_reducible refine Blk.new' ?_); (simp; done)) | (with_reducible refine Blk.alloc ?_ _))), (by repeat (first | (with_reducible assumption) | (with_reducible exact Below.refl _ _) | (with_reducible refine Later.after ?_ _) | (with_reducible refine Later.newer ?_ _) | (with_reducible refine Below.drew ?_) | (with_reducible refine Below.setCell ?_ (by first | exact Nat.le_refl _ | exact Nat.le_add_right _ _ | omega | (simp [go_sem]; done) | (simp [go_sem]; omega)) _))), fun h => (by cases h), fun _ => ⟨by have := HC.out; omega, by have := HC1.out; omega, fun h => by cases h⟩⟩
    obtain rfl : cl = true := by simpa using c2
    by_cases c3 : 1 < n
    · have f5 : decide (1 < n) = true := by simp [c3]
      have f6 : decide ((1 : Int) < n) = true := by simp; omega
      obtain ⟨Bp, o, c, hv, hc, hm, hp⟩ := H.out.ptsB (by have := HN.out; omega)
      rw [HN.out] at hv hc
      simp only [Value.slice.injEq, true_and] at hv
      obtain ⟨rfl, rfl⟩ := hv
      obtain ⟨m, hm'⟩ : ∃ m, n = m + 1 := ⟨n - 1, by omega⟩
      obtain ⟨q0, q1⟩ := hp.cell m _ (cor_at pts m (by rw [HN.out]; omega))
      obtain ⟨q2, q3⟩ := hp.cell 0 _ (cor_at pts 0 (by rw [HN.out]; omega))
      have lp := hp.lt
      have d3 : (n : Int) - 1 = (m : Int) := by omega
      have d1 : IntKind.i64.wrap ((n : Int) - 1) = (m : Int) := by rw [IntWalk.i64_in _ (by omega)]; omega
      have d2 : wrap64 ((n : Int) - 1) = (m : Int) := by unfold wrap64; omega
      have mn : m < n := by omega
      have m0 : (0 : Int) ≤ m := by omega
      have n0 : 0 < n := by omega
      have HLA : Hid (pts.getLast? = some (cor pts m)) := Lib.hid (by rw [List.getLast?_eq_getElem?, HN.out, show n - 1 = m by omega]; exact cor_at pts m (by rw [HN.out]; omega))
      have HHD : Hid (pts.head? = some (cor pts 0)) := Lib.hid (by rw [List.head?_eq_getElem?]; exact cor_at pts 0 (by rw [HN.out]; omega))
      simp only [Nat.zero_mul, Nat.add_zero] at q2 q3
      generalize cor pts m = p at *
      generalize cor pts 0 = q at *
      obtain ⟨p0, p1⟩ := p
      obtain ⟨z0, z1⟩ := q
      simp only [] at q0 q1 q2 q3
      have HC := Lib.hid c0
      have HC1 := Lib.hid c1
      have HC3 := Lib.hid c3
      have HM := Lib.hid hm'
      clear c0 c1 c3 hm' hp c2
      by_cases ex : p0 = z0
      · by_cases ey : p1 = z1
        · subst ex
          subst ey
          refine wp_region_later (by kernel_rfl) (by kernel_rfl) ?_
          repeat (go_big_quiet_step ((first | fail)))
          refine wpQuiet_nil ?_
          intro x
          go_wp2_with (fail)
          go_meet
          exact ⟨_, rfl, (by repeat (first | (with_reducible assumption) | (with_reducible refine Blk.later ?_ _) | (with_reducible refine Blk.drew ?_) | ((with_reducible refine Blk.new' ?_); (simp; done)) | (with_reducible refine Blk.alloc ?_ _))), (by repeat (first | (with_reducible assumption) | (with_reducible exact Below.refl _ _) | (with_reducible refine Later.after ?_ _) | (with_reducible refine Later.newer ?_ _) | (with_reducible refine Below.drew ?_) | (with_reducible refine Below.setCell ?_ (by first | exact Nat.le_refl _ | exact Nat.le_add_right _ _ | omega | (simp [go_sem]; done) | (simp [go_sem]; omega)) _))), fun _ g => by have h := g.shut rfl (by rw [HN.out]; exact HC3.out); rw [HLA.out, HHD.out] at h; exact h rfl, fun h => by cases h⟩
        · have ey' : (p1 == z1) = false := by simp [ey]
          have HE := Lib.hid ey
          subst ex
          clear ey
          refine wp_region_later (by kernel_rfl) (by kernel_rfl) ?_
          repeat (go_big_quiet_step ((first | fail)))
          refine wpQuiet_nil ?_
          intro x
          go_wp2_with (fail)
          go_meet
          exact ⟨_, rfl, (by repeat (first | (with_reducible assumption) | (with_reducible refine Blk.later ?_ _) | (with_reducible refine Blk.drew ?_) | ((with_reducible refine Blk.new' ?_); (simp; done)) | (with_reducible refine Blk.alloc ?_ _))), (by repeat (first | (with_reducible assumption) | (with_reducible exact Below.refl _ _) | (with_reducible refine Later.after ?_ _) | (with_reducible refine Later.newer ?_ _) | (with_reducible refine Below.drew ?_) | (with_reducible refine Below.setCell ?_ (by first | exact Nat.le_refl _ | exact Nat.le_add_right _ _ | omega | (simp [go_sem]; done) | (simp [go_sem]; omega)) _))), fun h => (by cases h), fun _ => ⟨by have := HC.out; omega, by have := HC1.out; omega, fun _ _ => by rw [HLA.out, HHD.out]; intro e; exact HE.out (congrArg (fun x => (x.getD (0, 0)).2) e)⟩⟩
      · have ex' : (p0 == z0) = false := by simp [ex]
        have HE := Lib.hid ex
        clear ex
        refine wp_region_later (by kernel_rfl) (by kernel_rfl) ?_
        repeat (go_big_quiet_step ((first | fail)))
        refine wpQuiet_nil ?_
        intro x
        go_wp2_with (fail)
        go_meet
        exact ⟨_, rfl, (by repeat (first | (with_reducible assumption) | (with_reducible refine Blk.later ?_ _) | (with_reducible refine Blk.drew ?_) | ((with_reducible refine Blk.new' ?_); (simp; done)) | (with_reducible refine Blk.alloc ?_ _))), (by repeat (first | (with_reducible assumption) | (with_reducible exact Below.refl _ _) | (with_reducible refine Later.after ?_ _) | (with_reducible refine Later.newer ?_ _) | (with_reducible refine Below.drew ?_) | (with_reducible refine Below.setCell ?_ (by first | exact Nat.le_refl _ | exact Nat.le_add_right _ _ | omega | (simp [go_sem]; done) | (simp [go_sem]; omega)) _))), fun h => (by cases h), fun _ => ⟨by have := HC.out; omega, by have := HC1.out; omega, fun _ _ => by rw [HLA.out, HHD.out]; intro e; exact HE.out (congrArg (fun x => (x.getD (0, 0)).1) e)⟩⟩
    · have f5 : decide (1 < n) = false := by simp; omega
      have f6 : decide ((1 : Int) < n) = false := by simp; omega
      have HC := Lib.hid c0
      have HC1 := Lib.hid c1
      have HC3 := Lib.hid c3
      clear c0 c1 c3 c2
      refine wp_region_later (by kernel_rfl) (by kernel_rfl) ?_
      repeat (go_big_quiet_step ((first | fail)))
      refine wpQuiet_nil ?_
      intro x
      go_wp2_with (fail)
      go_meet
      exact ⟨_, rfl, (by repeat (first | (with_reducible assumption) | (with_reducible refine Blk.later ?_ _) | (with_reducible refine Blk.drew ?_) | ((with_reducible refine Blk.new' ?_); (simp; done)) | (with_reducible refine Blk.alloc ?_ _))), (by repeat (first | (with_reducible assumption) | (with_reducible exact Below.refl _ _) | (with_reducible refine Later.after ?_ _) | (with_reducible refine Later.newer ?_ _) | (with_reducible refine Below.drew ?_) | (with_reducible refine Below.setCell ?_ (by first | exact Nat.le_refl _ | exact Nat.le_add_right _ _ | omega | (simp [go_sem]; done) | (simp [go_sem]; omega)) _))), fun h => (by cases h), fun _ => ⟨by have := HC.out; omega, by have := HC1.out; omega, fun _ h => absurd h HC3.out⟩⟩
  case rest =>
    obtain ⟨b, rfl, hbx, hB, hyes, hno⟩ := hcut
    cases b
    · obtain ⟨n1, n9, hsh⟩ := hno rfl
      have HSH := Lib.hid hsh
      clear hyes hno hsh
      have HBX := Lib.hid hbx
      have HBB := Lib.hid hB
      clear hbx hB
      go_wp2_with (fail)
      obtain ⟨Bp, o, c, hv, hc, hm, hp⟩ := H.out.ptsB (by have := HN.out; omega)
      rw [HN.out] at hv hc
      simp only [Value.slice.injEq, true_and] at hv
      obtain ⟨rfl, rfl⟩ := hv
      have HP := Lib.hid hp
      have lp := hp.lt
      clear hp
      go_loopw [4] (fun u wr => ∃ k : Nat, k ≤ n ∧ u = .int .i64 k ∧ Hid ((∀ i p, i < k → pts[i]? = some p → nearP p) ∧ (∀ i a b, i + 1 < k → pts[i]? = some a → pts[i + 1]? = some b → a ≠ b)) ∧ Hid (Blk wr w.heap.size 36 #[.slice (some ⟨Bp, o, none⟩) n cv, .bool cl]) ∧ Hid (Below w.heap.size w wr)) (fun u _ => n - (intOf u).toNat)
      case atStart => exact ⟨0, by omega, rfl, Lib.hid ⟨fun i p h => by omega, fun i a b h => by omega⟩, HBX, HBB⟩
      case round =>
        obtain ⟨k, hk, rfl, hpre, hbx, hB⟩ := hrel
        by_cases hlt : k < n
        · have hd : decide (k < n) = true := by simp [hlt]
          obtain ⟨⟨p0, p1⟩, hp0⟩ : ∃ p, pts[k]? = some p := ⟨_, List.getElem?_eq_getElem (by rw [HN.out]; exact hlt)⟩
          have hpk := HP.out.below hB.out lp
          obtain ⟨q0, q1⟩ := hpk.cell k _ hp0
          have lpk := hpk.lt
          obtain ⟨b1, b2, b3⟩ := hbx.out.all
          simp only [] at q0 q1
          have hh := fun v => half12_c p0 p1 v
          have HP0 := Lib.hid hp0
          clear hp0
          cases eh : nearB p0 p1
          · rw [eh] at hh
            have hg : gdB cl pts = false := gdB_no (fun g => by
              have := g.near _ (List.mem_of_getElem? HP0.out)
              rw [← nearB_iff, eh] at this
              cases this)
            have HH := Lib.hid hh
            have HG := Lib.hid hg
            clear hh hpk eh hg
            go_wp2_with (fail)
            refine wp_region_later (by kernel_rfl) (by kernel_rfl) ?_
            repeat (go_big_quiet_step ((first | (go_at_call 36; with_reducible exact Later.call _ (HH.out _)))))
            refine wpQuiet_nil ?_
            intro x
            have hBB := hB.out
            go_wp2_with (fail)
            exact bodyPost_ret (v := .bool false) (by simp [results, Try.results16, go_sem, *]) rfl ⟨by rw [HG.out], (Later.mk_of (by repeat (first | (with_reducible assumption) | (with_reducible exact Below.refl _ _) | (with_reducible refine Later.after ?_ _) | (with_reducible refine Later.newer ?_ _) | (with_reducible refine Below.drew ?_) | (with_reducible refine Below.setCell ?_ (by first | exact Nat.le_refl _ | exact Nat.le_add_right _ _ | omega | (simp [go_sem]; done) | (simp [go_sem]; omega)) _))))⟩
          · rw [eh] at hh
            have hnp := (nearB_iff p0 p1).1 eh
            have HNP := Lib.hid hnp
            have HH := Lib.hid hh
            clear hh eh hnp
            by_cases hk0 : k = 0
            · have k1 : decide (0 < k) = false := by simp [hk0]
              have k2 : decide ((0 : Int) < k) = false := by simp [hk0]
              have HK0 := Lib.hid hk0
              clear hpk hk0
              go_wp2_with (fail)
              refine wp_region_later (by kernel_rfl) (by kernel_rfl) ?_
              repeat (go_big_quiet_step ((first | (go_at_call 36; with_reducible exact Later.call _ (HH.out _)))))
              refine wpQuiet_nil ?_
              intro x
              go_wp2_with (fail)
              go_roundw
              case rel => exact ⟨k + 1, by omega, by go_num, Lib.hid (pre_one HK0.out HP0.out HNP.out), Lib.hid ((Blk.later hbx.out x)), Lib.hid (by have hBB := hB.out; (repeat (first | (with_reducible assumption) | (with_reducible exact Below.refl _ _) | (with_reducible refine Later.after ?_ _) | (with_reducible refine Later.newer ?_ _) | (with_reducible refine Below.drew ?_) | (with_reducible refine Below.setCell ?_ (by first | exact Nat.le_refl _ | exact Nat.le_add_right _ _ | omega | (simp [go_sem]; done) | (simp [go_sem]; omega)) _))))⟩
              case measure => simp [intOf]; omega
            · obtain ⟨m, hK⟩ : ∃ m, k = m + 1 := ⟨k - 1, by omega⟩
              obtain ⟨⟨z0, z1⟩, hz0⟩ : ∃ p, pts[m]? = some p := ⟨_, List.getElem?_eq_getElem (by rw [HN.out]; omega)⟩
              obtain ⟨q2, q3⟩ := hpk.cell m _ hz0
              simp only [] at q2 q3
              have HZ0 := Lib.hid hz0
              have d3 : (k : Int) - 1 = (m : Int) := by omega
              have d1 : IntKind.i64.wrap ((k : Int) - 1) = (m : Int) := by rw [IntWalk.i64_in _ (by omega)]; omega
              have d2 : wrap64 ((k : Int) - 1) = (m : Int) := by unfold wrap64; omega
              have mn : m < n := by omega
              have m0 : (0 : Int) ≤ m := by omega
              have K1 : decide (0 < k) = true := by simp; omega
              have K2 : decide ((0 : Int) < k) = true := by simp; omega
              have HK := Lib.hid hK
              clear hpk hz0 hK hk0
              by_cases ex : p0 = z0
              · by_cases ey : p1 = z1
                · subst ex
                  subst ey
                  have hg : gdB cl pts = false := gdB_no (fun g => g.apart m _ _ HZ0.out (by rw [← HK.out]; exact HP0.out) rfl)
                  have HG := Lib.hid hg
                  clear hg
                  go_wp2_with (fail)
                  refine wp_region_later (by kernel_rfl) (by kernel_rfl) ?_
                  repeat (go_big_quiet_step ((first | (go_at_call 36; with_reducible exact Later.call _ (HH.out _)))))
                  refine wpQuiet_nil ?_
                  intro x
                  have hBB := hB.out
                  go_wp2_with (fail)
                  exact bodyPost_ret (v := .bool false) (by simp [results, Try.results16, go_sem, *]) rfl ⟨by rw [HG.out], (Later.mk_of (by repeat (first | (with_reducible assumption) | (with_reducible exact Below.refl _ _) | (with_reducible refine Later.after ?_ _) | (with_reducible refine Later.newer ?_ _) | (with_reducible refine Below.drew ?_) | (with_reducible refine Below.setCell ?_ (by first | exact Nat.le_refl _ | exact Nat.le_add_right _ _ | omega | (simp [go_sem]; done) | (simp [go_sem]; omega)) _))))⟩
                · have ey' : (p1 == z1) = false := by simp [ey]
                  have HE : Hid ((z0, z1) ≠ (p0, p1)) := Lib.hid (fun e => ey (congrArg Prod.snd e).symm)
                  subst ex
                  clear ey
                  go_wp2_with (fail)
                  refine wp_region_later (by kernel_rfl) (by kernel_rfl) ?_
                  repeat (go_big_quiet_step ((first | (go_at_call 36; with_reducible exact Later.call _ (HH.out _)))))
                  refine wpQuiet_nil ?_
                  intro x
                  go_wp2_with (fail)
                  go_roundw
                  case rel => exact ⟨k + 1, by omega, by go_num, Lib.hid (pre_more hpre.out HK.out HZ0.out HP0.out HNP.out HE.out), Lib.hid ((Blk.later hbx.out x)), Lib.hid (by have hBB := hB.out; (repeat (first | (with_reducible assumption) | (with_reducible exact Below.refl _ _) | (with_reducible refine Later.after ?_ _) | (with_reducible refine Later.newer ?_ _) | (with_reducible refine Below.drew ?_) | (with_reducible refine Below.setCell ?_ (by first | exact Nat.le_refl _ | exact Nat.le_add_right _ _ | omega | (simp [go_sem]; done) | (simp [go_sem]; omega)) _))))⟩
                  case measure => simp [intOf]; omega
              · have ex' : (p0 == z0) = false := by simp [ex]
                have HE : Hid ((z0, z1) ≠ (p0, p1)) := Lib.hid (fun e => ex (congrArg Prod.fst e).symm)
                clear ex
                go_wp2_with (fail)
                refine wp_region_later (by kernel_rfl) (by kernel_rfl) ?_
                repeat (go_big_quiet_step ((first | (go_at_call 36; with_reducible exact Later.call _ (HH.out _)))))
                refine wpQuiet_nil ?_
                intro x
                go_wp2_with (fail)
                go_roundw
                case rel => exact ⟨k + 1, by omega, by go_num, Lib.hid (pre_more hpre.out HK.out HZ0.out HP0.out HNP.out HE.out), Lib.hid ((Blk.later hbx.out x)), Lib.hid (by have hBB := hB.out; (repeat (first | (with_reducible assumption) | (with_reducible exact Below.refl _ _) | (with_reducible refine Later.after ?_ _) | (with_reducible refine Later.newer ?_ _) | (with_reducible refine Below.drew ?_) | (with_reducible refine Below.setCell ?_ (by first | exact Nat.le_refl _ | exact Nat.le_add_right _ _ | omega | (simp [go_sem]; done) | (simp [go_sem]; omega)) _))))⟩
                case measure => simp [intOf]; omega
        · obtain rfl : k = n := by omega
          have hg : gdB cl pts = true := gdB_yes ⟨by rw [HN.out]; exact n1, by rw [HN.out]; exact n9, fun p hp => by
            obtain ⟨i, hi, e⟩ := List.getElem_of_mem hp
            exact hpre.out.1 i p (by rw [← HN.out]; exact hi) (by rw [List.getElem?_eq_getElem hi, e]), fun i a b ha hb => hpre.out.2 i a b (by rw [← HN.out]; exact (List.getElem?_eq_some_iff.1 hb).1) ha hb, fun h1 h2 => HSH.out h1 (by rw [← HN.out]; exact h2)⟩
          have HG := Lib.hid hg
          clear hg
          have hBB := hB.out
          go_wp2_with (fail)
          exact bodyPost_ret (v := .bool true) (by simp [results, Try.results16, go_sem, *]) rfl ⟨by rw [HG.out], (Later.mk_of (by repeat (first | (with_reducible assumption) | (with_reducible exact Below.refl _ _) | (with_reducible refine Later.after ?_ _) | (with_reducible refine Later.newer ?_ _) | (with_reducible refine Below.drew ?_) | (with_reducible refine Below.setCell ?_ (by first | exact Nat.le_refl _ | exact Nat.le_add_right _ _ | omega | (simp [go_sem]; done) | (simp [go_sem]; omega)) _))))⟩
    · have hg := gdB_no (hyes rfl)
      have HG := Lib.hid hg
      clear hyes hno hbx hg
      go_wp2_with (fail)
      exact bodyPost_ret (v := .bool false) (by simp [results, Try.results16, go_sem, *]) rfl ⟨by rw [HG.out], (Later.mk_of (by repeat (first | (with_reducible assumption) | (with_reducible exact Below.refl _ _) | (with_reducible refine Later.after ?_ _) | (with_reducible refine Later.newer ?_ _) | (with_reducible refine Below.drew ?_) | (with_reducible refine Below.setCell ?_ (by first | exact Nat.le_refl _ | exact Nat.le_add_right _ _ | omega | (simp [go_sem]; done) | (simp [go_sem]; omega)) _))))⟩
end Go.Proofs.Ytcdnekhpeghkiaa
