/-
  Print, for every number; noughts; FixBack walked.
-/
import Derived.Test.YtjmagehfkcnjjaaDoorFQ
import Derived.Test.YtjmagehfkcnjjaaDoorFI
import Derived.Test.YtjmagehfkcnjjaaDoorKP
import Derived.OwnWalk
namespace Go.Proofs.YtjmagehfkcnjjaaDoor
set_option linter.unusedVariables false
open Go.RowKit Go.Sort

theorem print_l (n : Int) (n0 : -9223372036854775808 ≤ n) (n9 : n ≤ 9223372036854775807) (w : World) (htab : Lib.TabIs Tryd.prog w "internal/strconv.uint64pow10" .u64 Lib.pow10Tab) : Calls Tryd.prog 12 #[.int .i64 n] w fun e w' => e = .returned (.string ⟨(prn n).toArray⟩) ∧ ∃ x : Later w, w' = x.out := by
  by_cases h : n < 0
  · obtain ⟨u, rfl⟩ : ∃ u : Nat, n = -(u : Int) := ⟨n.natAbs, by omega⟩
    have e : prn (-(u : Int)) = 45 :: (Lib.decDigits (u / 256) ++ prF (u % 256)) := by unfold prn prU; rw [if_pos h]; simp
    rw [e]
    by_cases hr : u % 256 = 0
    · have hc := print_n0 u (u / 256) (u % 256) (by omega) (by omega) (by omega) hr w htab
      unfold prF
      rw [if_pos hr, List.append_nil]
      exact hc
    · have hc := print_n1 u (u / 256) (u % 256) _ (by omega) (by omega) (by omega) (by omega) (by omega) rfl w htab
      unfold prF
      rw [if_neg hr]
      exact hc
  · obtain ⟨u, rfl⟩ : ∃ u : Nat, n = (u : Int) := ⟨n.natAbs, by omega⟩
    have e : prn (u : Int) = Lib.decDigits (u / 256) ++ prF (u % 256) := by unfold prn prU; rw [if_neg h]; simp
    rw [e]
    by_cases hr : u % 256 = 0
    · have hc := print_p0 u (u / 256) (u % 256) (by omega) (by omega) hr w htab
      unfold prF
      rw [if_pos hr, List.append_nil]
      exact hc
    · have hc := print_p1 u (u / 256) (u % 256) _ (by omega) (by omega) (by omega) (by omega) rfl w htab
      unfold prF
      rw [if_neg hr]
      exact hc
theorem prn_len (n : Int) (n0 : -9223372036854775808 ≤ n) (n9 : n ≤ 9223372036854775807) : 1 ≤ (prn n).length ∧ (prn n).length ≤ 30 := by
  obtain ⟨D, G, e, _, d1, d9, _, _, hG⟩ := prU_facts n.natAbs (by omega)
  have hl : (prU n.natAbs).length ≤ 29 ∧ 1 ≤ (prU n.natAbs).length := by
    rw [e, List.length_append]
    by_cases h : n.natAbs % 256 = 0
    · rw [if_pos h]; simp; omega
    · rw [if_neg h, List.length_cons]
      have := (hG h).2.1
      omega
  unfold prn
  split
  · rw [List.length_cons]; omega
  · omega
theorem infoU8 : ∃ i, Tryd.prog.info? 5 = some i ∧ i.zero = some (.int .u8 0) ∧ i.size = 1 ∧ i.bytes = 1 := by
  have h : (Tryd.prog.info? 5).map (fun i => (i.zero, i.size, i.bytes)) = some (some (.int .u8 0), 1, 1) := by kernel_rfl
  cases e : Tryd.prog.info? 5 with
  | none => rw [e] at h; cases h
  | some i => rw [e] at h; simp at h; exact ⟨i, rfl, h.1, h.2.1, h.2.2⟩
/-- a row of bytes that turns into a text -/
def NRet (w : World) (Z : ByteArray) : Ending → World → Prop := fun e w' => ∃ v, e = .returned v ∧ (convert 28 9 v).run Tryd.prog w' = .ok (.string Z) w' ∧ ∃ x : Later w, w' = x.out
structure NInv (w : World) (k : Nat) (v : Value) (W : World) : Prop where
  own : W.ownsRow w.heap.size 5 1 v k (List.replicate k (.int .u8 48))
  form : ∃ g c, v = .slice (some ⟨g, 0, none⟩) k c
  below : Below w.heap.size w W
theorem own_empty1 (W : World) (base g : Nat) (T : TypeId) (hg : g = W.heap.size) (h : base ≤ W.heap.size) : (W.alloc (.cells #[] T)).ownsRow base T 1 (.slice (some ⟨g, 0, none⟩) 0 0) 0 [] :=
  hg ▸ World.ownsRow_made W #[] 0 h (by unfold maxLen; omega) rfl
theorem one48 : ∀ x ∈ ([.int .u8 48] : List Value), x.oneCell' = true := by intro x hx; simp at hx; subst hx; rfl
theorem one48_at (W : World) (T : TypeId) : ∀ j u, ([.int .u8 48] : List Value)[j]? = some u → (W.alloc (.cells #[.int .u8 48] T)).cell? ((⟨W.heap.size, 0, none⟩ : Addr).add j) = some u := by
  intro j u h
  rw [Addr.add_mid, Nat.zero_add, (Blk.new W T #[.int .u8 48]).cell]
  simpa using h
set_option maxRecDepth 100000 in
set_option maxHeartbeats 1000000 in
theorem noughts_c (n : Nat) (hn : n ≤ 1000) (w : World) : Calls Tryd.prog 14 #[.int .i64 (n : Nat)] w (NRet w ⟨(List.replicate n 48).toArray⟩) := by
  obtain ⟨i0, hi0, hz0, hz1, hz2⟩ := infoU8
  go_enter Tryd.func14, Tryd.ntmps14
  go_wp2_with (fail)
  go_loopw [3, 4] (fun v u wr => ∃ k : Nat, k ≤ n ∧ u = .int .i64 k ∧ NInv w k v wr) (fun _ u _ => n - (intOf u).toNat)
  case atStart => exact ⟨0, by omega, rfl, ⟨own_empty1 _ _ _ _ rfl (Nat.le_refl _), ⟨_, _, rfl⟩, (Below.refl _ w).alloc (Nat.le_refl _) _⟩⟩
  case round =>
    obtain ⟨k, hk, rfl, hI⟩ := hrel
    have HI := Lib.hid hI
    have hbs := hI.below.size
    clear hI
    by_cases hlt : k < n
    · have hd : decide ((k : Int) < (n : Int)) = true := by simp [hlt]
      go_wp2_with (at_builtin; refine wpList_append_own _ rfl _ _ 28 rfl w.heap.size 5 i0 (.int .u8 0) 1 1 Tryd.underlying28 hi0 hz0 hz1 hz2 rfl (by decide) _ _ _ rfl (HI.out.own.alloc _) ⟨wr.heap.size, 0, none⟩ 1 1 [.int .u8 48] rfl rfl (one48_at _ _) one48 (by unfold maxLen; omega) (by omega) (by simp; omega) ?_; intro v' w3 hown hgrow hnil; have HO := Lib.hid hown; have HW := Lib.hid hgrow; clear hown hgrow hnil)
      go_roundw
      case rel => exact ⟨k + 1, by omega, by go_num, ⟨(by have h := HO.out; rw [List.replicate_succ']; exact h), Go.Joins.ownsRow_form HO.out (by omega), Below.grown (HI.out.below.alloc HI.out.below.size _) HW.out (by simp only [World.size_alloc]; omega) (fun j hj => (HI.out.own.lt j hj).1)⟩⟩
      case measure => simp [intOf]; omega
    · obtain rfl : k = n := by omega
      go_wp2_with (fail)
      refine bodyPost_ret (v := _) (by simp [results, Tryd.results14, go_sem]; rfl) rfl ⟨_, rfl, ?_, Later.mk_of HI.out.below⟩
      obtain ⟨g, cap, h⟩ := HI.out.form
      have ho := HI.out.own
      rw [h] at ho ⊢
      have hcv := run_convert_bytes_back (P := Tryd.prog) wr 28 9 5 ⟨g, 0, none⟩ cap (List.replicate k 48) Tryd.underlying28 Tryd.underlying5 Tryd.underlying9 (fun j hj => by
        rw [Addr.add_mid, Nat.zero_add]
        rw [List.length_replicate] at hj
        have := ho.cellAt j (by omega)
        rw [this]
        simp [hj])
      rw [List.length_replicate] at hcv
      exact hcv
set_option maxRecDepth 100000 in
set_option maxHeartbeats 1000000 in
theorem back_p0 (n a b : Int) (ka : Nat) (P Za : ByteArray) (n0 : -1099511627776 ≤ n) (n9 : n ≤ 1099511627776) (hneg : decide (n < 0) = false) (a0 : 0 ≤ a) (a9 : a ≤ 255) (b0 : 0 ≤ b) (b9 : b ≤ 255) (ha : a % 4 = (ka : Int)) 
    (hP1 : 1 ≤ P.size) (hP : P.size ≤ 30) (hZa : Za.size ≤ 3)  (hf : n % 256 = 0) (w : World) (htab : Lib.TabIs Tryd.prog w "internal/strconv.uint64pow10" .u64 Lib.pow10Tab)
    (c1 : ∀ w', Below w.heap.size w w' → Calls Tryd.prog 12 #[.int .i64 n] w' fun e w'' => e = .returned (.string P) ∧ ∃ x : Later w', w'' = x.out)
    (c2 : ∀ w', Calls Tryd.prog 10 #[.string P] w' fun e w'' => e = .returned (.tuple #[.int .i64 n, .int .i64 0]) ∧ ∃ x : Later w', w'' = x.out)
    (c3 : ∀ w', Calls Tryd.prog 14 #[.int .i64 (ka : Nat)] w' (NRet w' Za)) 
    (c5 : ∀ w', Calls Tryd.prog 10 #[.string ((⟨#[]⟩ : ByteArray) ++ Za ++ P)] w' fun e w'' => e = .returned (.tuple #[.int .i64 n, .int .i64 0]) ∧ ∃ x : Later w', w'' = x.out) :
    Calls Tryd.prog 4 #[.int .i64 n, .int .u8 a, .int .u8 b] w fun e w' => e = .returned (.bool true) ∧ ∃ x : Later w, w' = x.out := by
  have hs := fun v hb => shown_3 v (Lib.tabBelow_of_tabIs htab v hb)
  have HS := Lib.hid hs
  have HC1 := Lib.hid c1
  have HC2 := Lib.hid c2
  have HC3 := Lib.hid c3
  
  have HC5 := Lib.hid c5
  clear hs htab c1 c2 c3  c5
  have d1 : decide (1099511627776 < n) = false := by simp; omega
  have d2 : decide (n < -1099511627776) = false := by simp; omega
  have ha' : a.tmod 4 = (ka : Int) := by rw [Int.tmod_eq_emod_of_nonneg a0]; exact ha
  
  have hf1 : (n % 256 != 0) = false := by simp [hf]
  have hf0 : n.tmod 256 = 0 ↔ n % 256 = 0 := by rw [← Int.dvd_iff_tmod_eq_zero, Int.dvd_iff_emod_eq_zero]
  have hf2 : (n.tmod 256 != 0) = false := by simp [hf0, hf]
  have hf3 : (n.tmod 256 == 0) = true := by simp [hf0, hf]
  have hf4 : (n % 256 == 0) = true := by simp [hf]
  have hP2 : (1 : Int) ≤ (P.size : Int) := by omega
  clear hf hf0
  go_enter Tryd.func4, Tryd.ntmps4
  go_wp2_with (first | (go_at_call 9; (with_reducible refine (HS.out _ (Below.refl _ _)).mono ?_); rintro e _ ⟨rfl, y0, rfl⟩) | (go_at_call 12; (with_reducible refine (HC1.out _ y0.below).mono ?_); rintro e _ ⟨rfl, y1, rfl⟩) | (go_at_call 10; (with_reducible refine (HC2.out _).mono ?_); rintro e _ ⟨rfl, y2, rfl⟩) | (go_at_call 14; (with_reducible refine (HC3.out _).mono ?_); rintro e _ ⟨v3, rfl, hv3, x3, rfl⟩) | (go_at_call 10; (with_reducible refine (HC5.out _).mono ?_); rintro e _ ⟨rfl, y5, rfl⟩))
  exact bodyPost_ret (v := .bool true) (by simp [results, Tryd.results4, go_sem, *]) rfl ⟨rfl, (Later.mk_of (by repeat (first | (with_reducible assumption) | (with_reducible exact Below.refl _ _) | (with_reducible refine Later.after ?_ _) | (with_reducible refine Later.newer ?_ _) | (with_reducible refine Below.drew ?_) | (with_reducible refine Below.setCell ?_ (by first | exact Nat.le_refl _ | exact Nat.le_add_right _ _ | omega | (simp [go_sem]; done) | (simp [go_sem]; omega)) _))))⟩

set_option maxRecDepth 100000 in
set_option maxHeartbeats 1000000 in
theorem back_p1 (n a b : Int) (ka kb : Nat) (P Za Zb : ByteArray) (n0 : -1099511627776 ≤ n) (n9 : n ≤ 1099511627776) (hneg : decide (n < 0) = false) (a0 : 0 ≤ a) (a9 : a ≤ 255) (b0 : 0 ≤ b) (b9 : b ≤ 255) (ha : a % 4 = (ka : Int)) (hb : b % 4 = (kb : Int))
    (hP1 : 1 ≤ P.size) (hP : P.size ≤ 30) (hZa : Za.size ≤ 3) (hZb : Zb.size ≤ 3) (hf : ¬ n % 256 = 0) (w : World) (htab : Lib.TabIs Tryd.prog w "internal/strconv.uint64pow10" .u64 Lib.pow10Tab)
    (c1 : ∀ w', Below w.heap.size w w' → Calls Tryd.prog 12 #[.int .i64 n] w' fun e w'' => e = .returned (.string P) ∧ ∃ x : Later w', w'' = x.out)
    (c2 : ∀ w', Calls Tryd.prog 10 #[.string P] w' fun e w'' => e = .returned (.tuple #[.int .i64 n, .int .i64 0]) ∧ ∃ x : Later w', w'' = x.out)
    (c3 : ∀ w', Calls Tryd.prog 14 #[.int .i64 (ka : Nat)] w' (NRet w' Za)) (c4 : ∀ w', Calls Tryd.prog 14 #[.int .i64 (kb : Nat)] w' (NRet w' Zb))
    (c5 : ∀ w', Calls Tryd.prog 10 #[.string (((⟨#[]⟩ : ByteArray) ++ Za ++ P) ++ Zb)] w' fun e w'' => e = .returned (.tuple #[.int .i64 n, .int .i64 0]) ∧ ∃ x : Later w', w'' = x.out) :
    Calls Tryd.prog 4 #[.int .i64 n, .int .u8 a, .int .u8 b] w fun e w' => e = .returned (.bool true) ∧ ∃ x : Later w, w' = x.out := by
  have hs := fun v hb => shown_3 v (Lib.tabBelow_of_tabIs htab v hb)
  have HS := Lib.hid hs
  have HC1 := Lib.hid c1
  have HC2 := Lib.hid c2
  have HC3 := Lib.hid c3
  have HC4 := Lib.hid c4
  have HC5 := Lib.hid c5
  clear hs htab c1 c2 c3 c4 c5
  have d1 : decide (1099511627776 < n) = false := by simp; omega
  have d2 : decide (n < -1099511627776) = false := by simp; omega
  have ha' : a.tmod 4 = (ka : Int) := by rw [Int.tmod_eq_emod_of_nonneg a0]; exact ha
  have hb2 : b.tmod 4 = (kb : Int) := by rw [Int.tmod_eq_emod_of_nonneg b0]; exact hb
  have hf1 : (n % 256 != 0) = true := by simp [hf]
  have hf0 : n.tmod 256 = 0 ↔ n % 256 = 0 := by rw [← Int.dvd_iff_tmod_eq_zero, Int.dvd_iff_emod_eq_zero]
  have hf2 : (n.tmod 256 != 0) = true := by simp [hf0, hf]
  have hf3 : (n.tmod 256 == 0) = false := by simp [hf0, hf]
  have hf4 : (n % 256 == 0) = false := by simp [hf]
  have hP2 : (1 : Int) ≤ (P.size : Int) := by omega
  clear hf hf0
  go_enter Tryd.func4, Tryd.ntmps4
  go_wp2_with (first | (go_at_call 9; (with_reducible refine (HS.out _ (Below.refl _ _)).mono ?_); rintro e _ ⟨rfl, y0, rfl⟩) | (go_at_call 12; (with_reducible refine (HC1.out _ y0.below).mono ?_); rintro e _ ⟨rfl, y1, rfl⟩) | (go_at_call 10; (with_reducible refine (HC2.out _).mono ?_); rintro e _ ⟨rfl, y2, rfl⟩) | (go_at_call 14; (with_reducible refine (HC3.out _).mono ?_); rintro e _ ⟨v3, rfl, hv3, x3, rfl⟩) | (go_at_call 14; (with_reducible refine (HC4.out _).mono ?_); rintro e _ ⟨v4, rfl, hv4, x4, rfl⟩) | (go_at_call 10; (with_reducible refine (HC5.out _).mono ?_); rintro e _ ⟨rfl, y5, rfl⟩))
  exact bodyPost_ret (v := .bool true) (by simp [results, Tryd.results4, go_sem, *]) rfl ⟨rfl, (Later.mk_of (by repeat (first | (with_reducible assumption) | (with_reducible exact Below.refl _ _) | (with_reducible refine Later.after ?_ _) | (with_reducible refine Later.newer ?_ _) | (with_reducible refine Below.drew ?_) | (with_reducible refine Below.setCell ?_ (by first | exact Nat.le_refl _ | exact Nat.le_add_right _ _ | omega | (simp [go_sem]; done) | (simp [go_sem]; omega)) _))))⟩

set_option maxRecDepth 100000 in
set_option maxHeartbeats 1000000 in
theorem back_n0 (n a b : Int) (ka : Nat) (P Za : ByteArray) (n0 : -1099511627776 ≤ n) (n9 : n ≤ 1099511627776) (hneg : decide (n < 0) = true) (a0 : 0 ≤ a) (a9 : a ≤ 255) (b0 : 0 ≤ b) (b9 : b ≤ 255) (ha : a % 4 = (ka : Int)) 
    (hP1 : 1 ≤ P.size) (hP : P.size ≤ 30) (hZa : Za.size ≤ 3)  (hf : n % 256 = 0) (w : World) (htab : Lib.TabIs Tryd.prog w "internal/strconv.uint64pow10" .u64 Lib.pow10Tab)
    (c1 : ∀ w', Below w.heap.size w w' → Calls Tryd.prog 12 #[.int .i64 n] w' fun e w'' => e = .returned (.string P) ∧ ∃ x : Later w', w'' = x.out)
    (c2 : ∀ w', Calls Tryd.prog 10 #[.string P] w' fun e w'' => e = .returned (.tuple #[.int .i64 n, .int .i64 0]) ∧ ∃ x : Later w', w'' = x.out)
    (c3 : ∀ w', Calls Tryd.prog 14 #[.int .i64 (ka : Nat)] w' (NRet w' Za)) 
    (c5 : ∀ w', Calls Tryd.prog 10 #[.string ((⟨#[45]⟩ : ByteArray) ++ Za ++ (P.extract 1 P.size))] w' fun e w'' => e = .returned (.tuple #[.int .i64 n, .int .i64 0]) ∧ ∃ x : Later w', w'' = x.out) :
    Calls Tryd.prog 4 #[.int .i64 n, .int .u8 a, .int .u8 b] w fun e w' => e = .returned (.bool true) ∧ ∃ x : Later w, w' = x.out := by
  have hs := fun v hb => shown_3 v (Lib.tabBelow_of_tabIs htab v hb)
  have HS := Lib.hid hs
  have HC1 := Lib.hid c1
  have HC2 := Lib.hid c2
  have HC3 := Lib.hid c3
  
  have HC5 := Lib.hid c5
  clear hs htab c1 c2 c3  c5
  have d1 : decide (1099511627776 < n) = false := by simp; omega
  have d2 : decide (n < -1099511627776) = false := by simp; omega
  have ha' : a.tmod 4 = (ka : Int) := by rw [Int.tmod_eq_emod_of_nonneg a0]; exact ha
  
  have hf1 : (n % 256 != 0) = false := by simp [hf]
  have hf0 : n.tmod 256 = 0 ↔ n % 256 = 0 := by rw [← Int.dvd_iff_tmod_eq_zero, Int.dvd_iff_emod_eq_zero]
  have hf2 : (n.tmod 256 != 0) = false := by simp [hf0, hf]
  have hf3 : (n.tmod 256 == 0) = true := by simp [hf0, hf]
  have hf4 : (n % 256 == 0) = true := by simp [hf]
  have hP2 : (1 : Int) ≤ (P.size : Int) := by omega
  clear hf hf0
  go_enter Tryd.func4, Tryd.ntmps4
  go_wp2_with (first | (go_at_call 9; (with_reducible refine (HS.out _ (Below.refl _ _)).mono ?_); rintro e _ ⟨rfl, y0, rfl⟩) | (go_at_call 12; (with_reducible refine (HC1.out _ y0.below).mono ?_); rintro e _ ⟨rfl, y1, rfl⟩) | (go_at_call 10; (with_reducible refine (HC2.out _).mono ?_); rintro e _ ⟨rfl, y2, rfl⟩) | (go_at_call 14; (with_reducible refine (HC3.out _).mono ?_); rintro e _ ⟨v3, rfl, hv3, x3, rfl⟩) | (go_at_call 10; (with_reducible refine (HC5.out _).mono ?_); rintro e _ ⟨rfl, y5, rfl⟩))
  exact bodyPost_ret (v := .bool true) (by simp [results, Tryd.results4, go_sem, *]) rfl ⟨rfl, (Later.mk_of (by repeat (first | (with_reducible assumption) | (with_reducible exact Below.refl _ _) | (with_reducible refine Later.after ?_ _) | (with_reducible refine Later.newer ?_ _) | (with_reducible refine Below.drew ?_) | (with_reducible refine Below.setCell ?_ (by first | exact Nat.le_refl _ | exact Nat.le_add_right _ _ | omega | (simp [go_sem]; done) | (simp [go_sem]; omega)) _))))⟩

set_option maxRecDepth 100000 in
set_option maxHeartbeats 1000000 in
theorem back_n1 (n a b : Int) (ka kb : Nat) (P Za Zb : ByteArray) (n0 : -1099511627776 ≤ n) (n9 : n ≤ 1099511627776) (hneg : decide (n < 0) = true) (a0 : 0 ≤ a) (a9 : a ≤ 255) (b0 : 0 ≤ b) (b9 : b ≤ 255) (ha : a % 4 = (ka : Int)) (hb : b % 4 = (kb : Int))
    (hP1 : 1 ≤ P.size) (hP : P.size ≤ 30) (hZa : Za.size ≤ 3) (hZb : Zb.size ≤ 3) (hf : ¬ n % 256 = 0) (w : World) (htab : Lib.TabIs Tryd.prog w "internal/strconv.uint64pow10" .u64 Lib.pow10Tab)
    (c1 : ∀ w', Below w.heap.size w w' → Calls Tryd.prog 12 #[.int .i64 n] w' fun e w'' => e = .returned (.string P) ∧ ∃ x : Later w', w'' = x.out)
    (c2 : ∀ w', Calls Tryd.prog 10 #[.string P] w' fun e w'' => e = .returned (.tuple #[.int .i64 n, .int .i64 0]) ∧ ∃ x : Later w', w'' = x.out)
    (c3 : ∀ w', Calls Tryd.prog 14 #[.int .i64 (ka : Nat)] w' (NRet w' Za)) (c4 : ∀ w', Calls Tryd.prog 14 #[.int .i64 (kb : Nat)] w' (NRet w' Zb))
    (c5 : ∀ w', Calls Tryd.prog 10 #[.string (((⟨#[45]⟩ : ByteArray) ++ Za ++ (P.extract 1 P.size)) ++ Zb)] w' fun e w'' => e = .returned (.tuple #[.int .i64 n, .int .i64 0]) ∧ ∃ x : Later w', w'' = x.out) :
    Calls Tryd.prog 4 #[.int .i64 n, .int .u8 a, .int .u8 b] w fun e w' => e = .returned (.bool true) ∧ ∃ x : Later w, w' = x.out := by
  have hs := fun v hb => shown_3 v (Lib.tabBelow_of_tabIs htab v hb)
  have HS := Lib.hid hs
  have HC1 := Lib.hid c1
  have HC2 := Lib.hid c2
  have HC3 := Lib.hid c3
  have HC4 := Lib.hid c4
  have HC5 := Lib.hid c5
  clear hs htab c1 c2 c3 c4 c5
  have d1 : decide (1099511627776 < n) = false := by simp; omega
  have d2 : decide (n < -1099511627776) = false := by simp; omega
  have ha' : a.tmod 4 = (ka : Int) := by rw [Int.tmod_eq_emod_of_nonneg a0]; exact ha
  have hb2 : b.tmod 4 = (kb : Int) := by rw [Int.tmod_eq_emod_of_nonneg b0]; exact hb
  have hf1 : (n % 256 != 0) = true := by simp [hf]
  have hf0 : n.tmod 256 = 0 ↔ n % 256 = 0 := by rw [← Int.dvd_iff_tmod_eq_zero, Int.dvd_iff_emod_eq_zero]
  have hf2 : (n.tmod 256 != 0) = true := by simp [hf0, hf]
  have hf3 : (n.tmod 256 == 0) = false := by simp [hf0, hf]
  have hf4 : (n % 256 == 0) = false := by simp [hf]
  have hP2 : (1 : Int) ≤ (P.size : Int) := by omega
  clear hf hf0
  go_enter Tryd.func4, Tryd.ntmps4
  go_wp2_with (first | (go_at_call 9; (with_reducible refine (HS.out _ (Below.refl _ _)).mono ?_); rintro e _ ⟨rfl, y0, rfl⟩) | (go_at_call 12; (with_reducible refine (HC1.out _ y0.below).mono ?_); rintro e _ ⟨rfl, y1, rfl⟩) | (go_at_call 10; (with_reducible refine (HC2.out _).mono ?_); rintro e _ ⟨rfl, y2, rfl⟩) | (go_at_call 14; (with_reducible refine (HC3.out _).mono ?_); rintro e _ ⟨v3, rfl, hv3, x3, rfl⟩) | (go_at_call 14; (with_reducible refine (HC4.out _).mono ?_); rintro e _ ⟨v4, rfl, hv4, x4, rfl⟩) | (go_at_call 10; (with_reducible refine (HC5.out _).mono ?_); rintro e _ ⟨rfl, y5, rfl⟩))
  exact bodyPost_ret (v := .bool true) (by simp [results, Tryd.results4, go_sem, *]) rfl ⟨rfl, (Later.mk_of (by repeat (first | (with_reducible assumption) | (with_reducible exact Below.refl _ _) | (with_reducible refine Later.after ?_ _) | (with_reducible refine Later.newer ?_ _) | (with_reducible refine Below.drew ?_) | (with_reducible refine Below.setCell ?_ (by first | exact Nat.le_refl _ | exact Nat.le_add_right _ _ | omega | (simp [go_sem]; done) | (simp [go_sem]; omega)) _))))⟩

end Go.Proofs.YtjmagehfkcnjjaaDoor
