/-
  What is printed, byte by byte: walked.
-/
import Derived.Test.YtjmagehfkcnjjaaDoorFU
namespace Go.Proofs.YtjmagehfkcnjjaaDoor
set_option linter.unusedVariables false
open Go.RowKit Go.Sort

/-- k digits, the first one no nought if there are more; and, if it is not whole, a point and one to eight digits, the last one no nought -/
structure Shape (l : List UInt8) (k : Nat) (wh : Bool) : Prop where
  pos : 1 ≤ k
  le : k ≤ l.length
  len : l.length ≤ 30
  at_ : ∀ (j : Nat) (b : UInt8), l[j]? = some b → (j = k → b = 46) ∧ (j ≠ k → IsDg b)
  first : k ≠ 1 → ∃ b, l[0]? = some b ∧ b ≠ 48
  allw : wh = true → k = l.length
  frac : wh = false → k < l.length ∧ 1 ≤ l.length - k - 1 ∧ l.length - k - 1 ≤ 8 ∧ ∃ b, l.getLast? = some b ∧ b ≠ 48
theorem prU_shape (u : Nat) (hu : u ≤ 9223372036854775808) : ∃ k, Shape (prU u) k (decide (u % 256 = 0)) := by
  obtain ⟨D, G, e, _, d1, d9, dd, df, hG⟩ := prU_facts u hu
  refine ⟨D.length, ?_⟩
  have hfirst : ∀ (X : List UInt8), D.length ≠ 1 → ∃ b, (D ++ X)[0]? = some b ∧ b ≠ 48 := fun X h => by
    have h2 := df.resolve_left h
    cases D with
    | nil => simp at d1
    | cons c r => exact ⟨c, rfl, fun e => h2 (by rw [e]; rfl)⟩
  by_cases h : u % 256 = 0
  · rw [if_pos h, List.append_nil] at e
    have hf := hfirst []
    rw [List.append_nil] at hf
    rw [e, show decide (u % 256 = 0) = true by simp [h]]
    exact ⟨d1, Nat.le_refl _, by omega, fun j b hb => ⟨fun hj => by rw [hj] at hb; simp at hb, fun _ => dd b (List.mem_of_getElem? hb)⟩, hf, fun _ => rfl, fun h => by cases h⟩
  · obtain ⟨g1, g8, gd, gl, _⟩ := hG h
    rw [if_neg h] at e
    rw [e, show decide (u % 256 = 0) = false by simp [h]]
    have hlen : (D ++ 46 :: G).length = D.length + 1 + G.length := by rw [List.length_append, List.length_cons]; omega
    refine ⟨d1, by omega, by omega, fun j b hb => ⟨fun hj => ?_, fun hj => ?_⟩, hfirst _, fun h => (by cases h), fun _ => ⟨by omega, by omega, by omega, ?_⟩⟩
    · rw [hj] at hb
      rw [List.getElem?_append_right (Nat.le_refl _), Nat.sub_self] at hb
      exact (Option.some.inj hb).symm
    · by_cases hjl : j < D.length
      · rw [List.getElem?_append_left hjl] at hb
        exact dd b (List.mem_of_getElem? hb)
      · rw [List.getElem?_append_right (by omega)] at hb
        obtain ⟨i, hi⟩ : ∃ i, j - D.length = i + 1 := ⟨j - D.length - 1, by omega⟩
        rw [hi, List.getElem?_cons_succ] at hb
        exact gd b (List.mem_of_getElem? hb)
    · cases hg : G.getLast? with
      | none => rw [List.getLast?_eq_none_iff.1 hg] at g1; simp at g1
      | some b =>
        refine ⟨b, ?_, gl b hg⟩
        rw [List.getLast?_append, List.getLast?_cons]
        simp [hg]
set_option maxRecDepth 100000 in
set_option maxHeartbeats 2000000 in
theorem digs_pw1 (n : Int) (l : List UInt8) (k : Nat) (T : ByteArray) (hneg : decide (n < 0) = false) (hT : T = ⟨l.toArray⟩)  (hm : n % 256 = 0) (hs : Shape l k true) (hk1 : k = 1) (w : World) (htab : Lib.TabIs Tryd.prog w "internal/strconv.uint64pow10" .u64 Lib.pow10Tab)
    (c1 : ∀ w', Below w.heap.size w w' → Calls Tryd.prog 12 #[.int .i64 n] w' fun e w'' => e = .returned (.string T) ∧ ∃ x : Later w', w'' = x.out) :
    Calls Tryd.prog 5 #[.int .i64 n] w fun e w' => e = .returned (.bool true) ∧ ∃ x : Later w, w' = x.out := by
  have hsh := fun v hb => shown_3 v (Lib.tabBelow_of_tabIs htab v hb)
  have HS := Lib.hid hsh
  have Hc1 := Lib.hid c1
  clear hsh htab c1
  have hTs : T.size = l.length := by rw [hT, ba_size]
  have HTs := Lib.hid hTs
  have HSh := Lib.hid hs
  have hk0 := hs.pos
  have hkl := hs.le
  have hl30 := hs.len
  have hf0 : n.tmod 256 = 0 ↔ n % 256 = 0 := by rw [← Int.dvd_iff_tmod_eq_zero, Int.dvd_iff_emod_eq_zero]
  have hf1 : (n.tmod 256 == 0) = true := by simp [hf0, hm]
  have hf2 : (n % 256 == 0) = true := by simp [hm]
  have hTe : T.toList.isEmpty = false := by
    rw [hT, isEmpty_ba]
    cases l with
    | nil => simp at hkl; omega
    | cons _ _ => rfl
  have HT := Lib.hid hT
  have hwh : k = T.size := by rw [hTs]; exact hs.allw rfl
  have HWH := Lib.hid hwh
  have hkT : k ≤ T.size := by rw [hTs]; exact hkl
  have hT30 : T.size ≤ 30 := by rw [hTs]; exact hl30
  clear hT hTs hs hm hf0  hwh hkl
  go_enter Tryd.func5, Tryd.ntmps5
  go_wp2_with (first | (go_at_call 9; (with_reducible refine (HS.out _ (by repeat (first | (with_reducible assumption) | (with_reducible exact Below.refl _ _) | (with_reducible refine Later.after ?_ _) | (with_reducible refine Later.newer ?_ _) | (with_reducible refine Below.drew ?_) | (with_reducible refine Below.setCell ?_ (by first | exact Nat.le_refl _ | exact Nat.le_add_right _ _ | omega | (simp [go_sem]; done) | (simp [go_sem]; omega)) _)))).mono ?_); rintro e _ ⟨rfl, y0, rfl⟩) | (go_at_call 12; (with_reducible refine (Hc1.out _ (by repeat (first | (with_reducible assumption) | (with_reducible exact Below.refl _ _) | (with_reducible refine Later.after ?_ _) | (with_reducible refine Later.newer ?_ _) | (with_reducible refine Below.drew ?_) | (with_reducible refine Below.setCell ?_ (by first | exact Nat.le_refl _ | exact Nat.le_add_right _ _ | omega | (simp [go_sem]; done) | (simp [go_sem]; omega)) _)))).mono ?_); rintro e _ ⟨rfl, y1, rfl⟩))
  go_loopw [5, 6] (fun dv iv wr => ∃ j dn : Nat, j ≤ T.size ∧ iv = .int .i64 (j : Int) ∧ dv = .int .i64 (dn : Int) ∧ ((j ≤ k ∧ dn = T.size) ∨ (k < j ∧ dn = k)) ∧ ∃ y : Later w, wr = y.out) (fun _ iv _ => T.size - (intOf iv).toNat)
  case atStart => exact ⟨0, T.size, by omega, rfl, rfl, .inl ⟨by omega, rfl⟩, ⟨_, by repeat (first | (with_reducible assumption) | (with_reducible exact Below.refl _ _) | (with_reducible refine Later.after ?_ _) | (with_reducible refine Later.newer ?_ _) | (with_reducible refine Below.drew ?_) | (with_reducible refine Below.setCell ?_ (by first | exact Nat.le_refl _ | exact Nat.le_add_right _ _ | omega | (simp [go_sem]; done) | (simp [go_sem]; omega)) _))⟩, rfl⟩
  case round =>
    obtain ⟨j, dn, hj, rfl, rfl, hd, y, rfl⟩ := hrel
    by_cases hlt : j < T.size
    · have hd1 : decide ((j : Int) < (T.size : Int)) = true := by simp; exact hlt
      have hd2 : decide (j < T.size) = true := by simp; exact hlt
      obtain ⟨b, hb⟩ : ∃ b, l[j]? = some b := ⟨_, List.getElem?_eq_getElem (by rw [← HTs.out]; exact hlt)⟩
      obtain ⟨s1, s2⟩ := HSh.out.at_ j b hb
      have hix2 := fun W => ix l j b hb W
      rw [← HT.out] at hix2
      obtain ⟨c, hc⟩ : ∃ c : Int, c = (b.toNat : Int) := ⟨_, rfl⟩
      rw [← hc] at hix2
      have hj0 : ((j : Nat) : Int) < (T.size : Int) := by omega
      by_cases hjk : j = k
      · have hc46 : c = 46 := by rw [hc, s1 hjk]; rfl
        subst hc46
        have hdn : dn = T.size := by omega
        subst hdn
        have HJK := Lib.hid hjk
        clear s1 s2 hc hb hd hjk
        go_wp2_with (fail)
        go_roundw
        case rel => exact ⟨j + 1, j, by omega, by go_num, rfl, .inr ⟨by have := HJK.out; omega, HJK.out⟩, y, rfl⟩
        case measure => simp [intOf]; omega
      · have hbd := s2 hjk
        have hc8 : 48 ≤ c ∧ c ≤ 57 := by unfold IsDg at hbd; omega
        have hcn : ¬ c = 46 := by omega
        have e1 : (c == 46) = false := by simpa using hcn
        have e2 : decide (c < 48) = false := by simp; omega
        have e3 : decide (57 < c) = false := by simp; omega
        have e4 : decide (c = 46) = false := by simpa using hcn
        have HD := Lib.hid hd
        have HJK := Lib.hid hjk
        clear s1 s2 hc hb hbd hd hjk
        go_wp2_with (fail)
        go_roundw
        case rel => exact ⟨j + 1, dn, by omega, by go_num, rfl, by rcases HD.out with h | h; exact .inl ⟨by have := HJK.out; omega, h.2⟩; exact .inr ⟨by omega, h.2⟩, y, rfl⟩
        case measure => simp [intOf]; omega
    · have hjT : j = T.size := by omega
      have hdk : dn = k := by
        have := HWH.out
        omega
      subst hdk
      subst hjT
      have hd1 : decide ((T.size : Int) < (T.size : Int)) = false := by simp
      have hd2 : decide (T.size < T.size) = false := by simp
      clear hd
      have g1 : decide ((1 : Int) ≤ (dn : Int)) = true := by simp; omega
      have g1' : decide (1 ≤ dn) = true := by simp; omega
      have g2 : ((dn : Int) == (T.size : Int)) = true := by rw [HWH.out]; simp
      have g2' : decide (dn = T.size) = true := by rw [HWH.out]; simp
      have g2'' : (dn == T.size) = true := by rw [HWH.out]; simp
      have g3 : ((dn : Int) == 1) = true := by rw [hk1]; rfl
      have g3' : decide ((dn : Int) = 1) = true := by rw [hk1]; rfl
      have g3'' : (dn == 1) = true := by rw [hk1]; rfl
      
      clear hk1
      go_wp2_with (fail)
      exact bodyPost_ret (v := .bool true) (by simp [results, Tryd.results5, go_sem, *]) rfl ⟨rfl, (Later.mk_of (by repeat (first | (with_reducible assumption) | (with_reducible exact Below.refl _ _) | (with_reducible refine Later.after ?_ _) | (with_reducible refine Later.newer ?_ _) | (with_reducible refine Below.drew ?_) | (with_reducible refine Below.setCell ?_ (by first | exact Nat.le_refl _ | exact Nat.le_add_right _ _ | omega | (simp [go_sem]; done) | (simp [go_sem]; omega)) _))))⟩
set_option maxRecDepth 100000 in
set_option maxHeartbeats 2000000 in
theorem digs_pw2 (n : Int) (l : List UInt8) (k : Nat) (T : ByteArray) (hneg : decide (n < 0) = false) (hT : T = ⟨l.toArray⟩)  (hm : n % 256 = 0) (hs : Shape l k true) (hk1 : k ≠ 1) (w : World) (htab : Lib.TabIs Tryd.prog w "internal/strconv.uint64pow10" .u64 Lib.pow10Tab)
    (c1 : ∀ w', Below w.heap.size w w' → Calls Tryd.prog 12 #[.int .i64 n] w' fun e w'' => e = .returned (.string T) ∧ ∃ x : Later w', w'' = x.out) :
    Calls Tryd.prog 5 #[.int .i64 n] w fun e w' => e = .returned (.bool true) ∧ ∃ x : Later w, w' = x.out := by
  have hsh := fun v hb => shown_3 v (Lib.tabBelow_of_tabIs htab v hb)
  have HS := Lib.hid hsh
  have Hc1 := Lib.hid c1
  clear hsh htab c1
  have hTs : T.size = l.length := by rw [hT, ba_size]
  have HTs := Lib.hid hTs
  have HSh := Lib.hid hs
  have hk0 := hs.pos
  have hkl := hs.le
  have hl30 := hs.len
  have hf0 : n.tmod 256 = 0 ↔ n % 256 = 0 := by rw [← Int.dvd_iff_tmod_eq_zero, Int.dvd_iff_emod_eq_zero]
  have hf1 : (n.tmod 256 == 0) = true := by simp [hf0, hm]
  have hf2 : (n % 256 == 0) = true := by simp [hm]
  have hTe : T.toList.isEmpty = false := by
    rw [hT, isEmpty_ba]
    cases l with
    | nil => simp at hkl; omega
    | cons _ _ => rfl
  have HT := Lib.hid hT
  have hwh : k = T.size := by rw [hTs]; exact hs.allw rfl
  have HWH := Lib.hid hwh
  have hkT : k ≤ T.size := by rw [hTs]; exact hkl
  have hT30 : T.size ≤ 30 := by rw [hTs]; exact hl30
  clear hT hTs hs hm hf0  hwh hkl
  go_enter Tryd.func5, Tryd.ntmps5
  go_wp2_with (first | (go_at_call 9; (with_reducible refine (HS.out _ (by repeat (first | (with_reducible assumption) | (with_reducible exact Below.refl _ _) | (with_reducible refine Later.after ?_ _) | (with_reducible refine Later.newer ?_ _) | (with_reducible refine Below.drew ?_) | (with_reducible refine Below.setCell ?_ (by first | exact Nat.le_refl _ | exact Nat.le_add_right _ _ | omega | (simp [go_sem]; done) | (simp [go_sem]; omega)) _)))).mono ?_); rintro e _ ⟨rfl, y0, rfl⟩) | (go_at_call 12; (with_reducible refine (Hc1.out _ (by repeat (first | (with_reducible assumption) | (with_reducible exact Below.refl _ _) | (with_reducible refine Later.after ?_ _) | (with_reducible refine Later.newer ?_ _) | (with_reducible refine Below.drew ?_) | (with_reducible refine Below.setCell ?_ (by first | exact Nat.le_refl _ | exact Nat.le_add_right _ _ | omega | (simp [go_sem]; done) | (simp [go_sem]; omega)) _)))).mono ?_); rintro e _ ⟨rfl, y1, rfl⟩))
  go_loopw [5, 6] (fun dv iv wr => ∃ j dn : Nat, j ≤ T.size ∧ iv = .int .i64 (j : Int) ∧ dv = .int .i64 (dn : Int) ∧ ((j ≤ k ∧ dn = T.size) ∨ (k < j ∧ dn = k)) ∧ ∃ y : Later w, wr = y.out) (fun _ iv _ => T.size - (intOf iv).toNat)
  case atStart => exact ⟨0, T.size, by omega, rfl, rfl, .inl ⟨by omega, rfl⟩, ⟨_, by repeat (first | (with_reducible assumption) | (with_reducible exact Below.refl _ _) | (with_reducible refine Later.after ?_ _) | (with_reducible refine Later.newer ?_ _) | (with_reducible refine Below.drew ?_) | (with_reducible refine Below.setCell ?_ (by first | exact Nat.le_refl _ | exact Nat.le_add_right _ _ | omega | (simp [go_sem]; done) | (simp [go_sem]; omega)) _))⟩, rfl⟩
  case round =>
    obtain ⟨j, dn, hj, rfl, rfl, hd, y, rfl⟩ := hrel
    by_cases hlt : j < T.size
    · have hd1 : decide ((j : Int) < (T.size : Int)) = true := by simp; exact hlt
      have hd2 : decide (j < T.size) = true := by simp; exact hlt
      obtain ⟨b, hb⟩ : ∃ b, l[j]? = some b := ⟨_, List.getElem?_eq_getElem (by rw [← HTs.out]; exact hlt)⟩
      obtain ⟨s1, s2⟩ := HSh.out.at_ j b hb
      have hix2 := fun W => ix l j b hb W
      rw [← HT.out] at hix2
      obtain ⟨c, hc⟩ : ∃ c : Int, c = (b.toNat : Int) := ⟨_, rfl⟩
      rw [← hc] at hix2
      have hj0 : ((j : Nat) : Int) < (T.size : Int) := by omega
      by_cases hjk : j = k
      · have hc46 : c = 46 := by rw [hc, s1 hjk]; rfl
        subst hc46
        have hdn : dn = T.size := by omega
        subst hdn
        have HJK := Lib.hid hjk
        clear s1 s2 hc hb hd hjk
        go_wp2_with (fail)
        go_roundw
        case rel => exact ⟨j + 1, j, by omega, by go_num, rfl, .inr ⟨by have := HJK.out; omega, HJK.out⟩, y, rfl⟩
        case measure => simp [intOf]; omega
      · have hbd := s2 hjk
        have hc8 : 48 ≤ c ∧ c ≤ 57 := by unfold IsDg at hbd; omega
        have hcn : ¬ c = 46 := by omega
        have e1 : (c == 46) = false := by simpa using hcn
        have e2 : decide (c < 48) = false := by simp; omega
        have e3 : decide (57 < c) = false := by simp; omega
        have e4 : decide (c = 46) = false := by simpa using hcn
        have HD := Lib.hid hd
        have HJK := Lib.hid hjk
        clear s1 s2 hc hb hbd hd hjk
        go_wp2_with (fail)
        go_roundw
        case rel => exact ⟨j + 1, dn, by omega, by go_num, rfl, by rcases HD.out with h | h; exact .inl ⟨by have := HJK.out; omega, h.2⟩; exact .inr ⟨by omega, h.2⟩, y, rfl⟩
        case measure => simp [intOf]; omega
    · have hjT : j = T.size := by omega
      have hdk : dn = k := by
        have := HWH.out
        omega
      subst hdk
      subst hjT
      have hd1 : decide ((T.size : Int) < (T.size : Int)) = false := by simp
      have hd2 : decide (T.size < T.size) = false := by simp
      clear hd
      have g1 : decide ((1 : Int) ≤ (dn : Int)) = true := by simp; omega
      have g1' : decide (1 ≤ dn) = true := by simp; omega
      have g2 : ((dn : Int) == (T.size : Int)) = true := by rw [HWH.out]; simp
      have g2' : decide (dn = T.size) = true := by rw [HWH.out]; simp
      have g2'' : (dn == T.size) = true := by rw [HWH.out]; simp
      have g3 : ((dn : Int) == 1) = false := by simp; omega
      have g3' : decide ((dn : Int) = 1) = false := by simp; omega
      have g3'' : (dn == 1) = false := by simp; omega
      obtain ⟨b0, hb0, hb0n⟩ := HSh.out.first hk1
      have hix0 := fun W => ix0 l b0 hb0 W
      rw [← HT.out] at hix0
      obtain ⟨c0, hc0⟩ : ∃ c : Int, c = (b0.toNat : Int) := ⟨_, rfl⟩
      rw [← hc0] at hix0
      have hc0n : ¬ c0 = 48 := byte_ne b0 c0 48 48 hc0 rfl hb0n
      have g4 : (c0 != 48) = true := by simpa using hc0n
      have g4' : (c0 == 48) = false := by simpa using hc0n
      have hT0 : (0 : Int) < (T.size : Int) := by omega
      clear hc0 hb0 hb0n
      
      clear hk1
      go_wp2_with (fail)
      exact bodyPost_ret (v := .bool true) (by simp [results, Tryd.results5, go_sem, *]) rfl ⟨rfl, (Later.mk_of (by repeat (first | (with_reducible assumption) | (with_reducible exact Below.refl _ _) | (with_reducible refine Later.after ?_ _) | (with_reducible refine Later.newer ?_ _) | (with_reducible refine Below.drew ?_) | (with_reducible refine Below.setCell ?_ (by first | exact Nat.le_refl _ | exact Nat.le_add_right _ _ | omega | (simp [go_sem]; done) | (simp [go_sem]; omega)) _))))⟩
set_option maxRecDepth 100000 in
set_option maxHeartbeats 2000000 in
theorem digs_pf1 (n : Int) (l : List UInt8) (k : Nat) (T : ByteArray) (hneg : decide (n < 0) = false) (hT : T = ⟨l.toArray⟩)  (hm : ¬ n % 256 = 0) (hs : Shape l k false) (hk1 : k = 1) (w : World) (htab : Lib.TabIs Tryd.prog w "internal/strconv.uint64pow10" .u64 Lib.pow10Tab)
    (c1 : ∀ w', Below w.heap.size w w' → Calls Tryd.prog 12 #[.int .i64 n] w' fun e w'' => e = .returned (.string T) ∧ ∃ x : Later w', w'' = x.out) :
    Calls Tryd.prog 5 #[.int .i64 n] w fun e w' => e = .returned (.bool true) ∧ ∃ x : Later w, w' = x.out := by
  have hsh := fun v hb => shown_3 v (Lib.tabBelow_of_tabIs htab v hb)
  have HS := Lib.hid hsh
  have Hc1 := Lib.hid c1
  clear hsh htab c1
  have hTs : T.size = l.length := by rw [hT, ba_size]
  have HTs := Lib.hid hTs
  have HSh := Lib.hid hs
  have hk0 := hs.pos
  have hkl := hs.le
  have hl30 := hs.len
  have hf0 : n.tmod 256 = 0 ↔ n % 256 = 0 := by rw [← Int.dvd_iff_tmod_eq_zero, Int.dvd_iff_emod_eq_zero]
  have hf1 : (n.tmod 256 == 0) = false := by simp [hf0, hm]
  have hf2 : (n % 256 == 0) = false := by simp [hm]
  have hTe : T.toList.isEmpty = false := by
    rw [hT, isEmpty_ba]
    cases l with
    | nil => simp at hkl; omega
    | cons _ _ => rfl
  have HT := Lib.hid hT
  have hwh : k < T.size := by rw [hTs]; exact (hs.frac rfl).1
  have HWH := Lib.hid hwh
  have hkT : k ≤ T.size := by rw [hTs]; exact hkl
  have hT30 : T.size ≤ 30 := by rw [hTs]; exact hl30
  clear hT hTs hs hm hf0  hwh hkl
  go_enter Tryd.func5, Tryd.ntmps5
  go_wp2_with (first | (go_at_call 9; (with_reducible refine (HS.out _ (by repeat (first | (with_reducible assumption) | (with_reducible exact Below.refl _ _) | (with_reducible refine Later.after ?_ _) | (with_reducible refine Later.newer ?_ _) | (with_reducible refine Below.drew ?_) | (with_reducible refine Below.setCell ?_ (by first | exact Nat.le_refl _ | exact Nat.le_add_right _ _ | omega | (simp [go_sem]; done) | (simp [go_sem]; omega)) _)))).mono ?_); rintro e _ ⟨rfl, y0, rfl⟩) | (go_at_call 12; (with_reducible refine (Hc1.out _ (by repeat (first | (with_reducible assumption) | (with_reducible exact Below.refl _ _) | (with_reducible refine Later.after ?_ _) | (with_reducible refine Later.newer ?_ _) | (with_reducible refine Below.drew ?_) | (with_reducible refine Below.setCell ?_ (by first | exact Nat.le_refl _ | exact Nat.le_add_right _ _ | omega | (simp [go_sem]; done) | (simp [go_sem]; omega)) _)))).mono ?_); rintro e _ ⟨rfl, y1, rfl⟩))
  go_loopw [5, 6] (fun dv iv wr => ∃ j dn : Nat, j ≤ T.size ∧ iv = .int .i64 (j : Int) ∧ dv = .int .i64 (dn : Int) ∧ ((j ≤ k ∧ dn = T.size) ∨ (k < j ∧ dn = k)) ∧ ∃ y : Later w, wr = y.out) (fun _ iv _ => T.size - (intOf iv).toNat)
  case atStart => exact ⟨0, T.size, by omega, rfl, rfl, .inl ⟨by omega, rfl⟩, ⟨_, by repeat (first | (with_reducible assumption) | (with_reducible exact Below.refl _ _) | (with_reducible refine Later.after ?_ _) | (with_reducible refine Later.newer ?_ _) | (with_reducible refine Below.drew ?_) | (with_reducible refine Below.setCell ?_ (by first | exact Nat.le_refl _ | exact Nat.le_add_right _ _ | omega | (simp [go_sem]; done) | (simp [go_sem]; omega)) _))⟩, rfl⟩
  case round =>
    obtain ⟨j, dn, hj, rfl, rfl, hd, y, rfl⟩ := hrel
    by_cases hlt : j < T.size
    · have hd1 : decide ((j : Int) < (T.size : Int)) = true := by simp; exact hlt
      have hd2 : decide (j < T.size) = true := by simp; exact hlt
      obtain ⟨b, hb⟩ : ∃ b, l[j]? = some b := ⟨_, List.getElem?_eq_getElem (by rw [← HTs.out]; exact hlt)⟩
      obtain ⟨s1, s2⟩ := HSh.out.at_ j b hb
      have hix2 := fun W => ix l j b hb W
      rw [← HT.out] at hix2
      obtain ⟨c, hc⟩ : ∃ c : Int, c = (b.toNat : Int) := ⟨_, rfl⟩
      rw [← hc] at hix2
      have hj0 : ((j : Nat) : Int) < (T.size : Int) := by omega
      by_cases hjk : j = k
      · have hc46 : c = 46 := by rw [hc, s1 hjk]; rfl
        subst hc46
        have hdn : dn = T.size := by omega
        subst hdn
        have HJK := Lib.hid hjk
        clear s1 s2 hc hb hd hjk
        go_wp2_with (fail)
        go_roundw
        case rel => exact ⟨j + 1, j, by omega, by go_num, rfl, .inr ⟨by have := HJK.out; omega, HJK.out⟩, y, rfl⟩
        case measure => simp [intOf]; omega
      · have hbd := s2 hjk
        have hc8 : 48 ≤ c ∧ c ≤ 57 := by unfold IsDg at hbd; omega
        have hcn : ¬ c = 46 := by omega
        have e1 : (c == 46) = false := by simpa using hcn
        have e2 : decide (c < 48) = false := by simp; omega
        have e3 : decide (57 < c) = false := by simp; omega
        have e4 : decide (c = 46) = false := by simpa using hcn
        have HD := Lib.hid hd
        have HJK := Lib.hid hjk
        clear s1 s2 hc hb hbd hd hjk
        go_wp2_with (fail)
        go_roundw
        case rel => exact ⟨j + 1, dn, by omega, by go_num, rfl, by rcases HD.out with h | h; exact .inl ⟨by have := HJK.out; omega, h.2⟩; exact .inr ⟨by omega, h.2⟩, y, rfl⟩
        case measure => simp [intOf]; omega
    · have hjT : j = T.size := by omega
      have hdk : dn = k := by
        have := HWH.out
        omega
      subst hdk
      subst hjT
      have hd1 : decide ((T.size : Int) < (T.size : Int)) = false := by simp
      have hd2 : decide (T.size < T.size) = false := by simp
      clear hd
      have g1 : decide ((1 : Int) ≤ (dn : Int)) = true := by simp; omega
      have g1' : decide (1 ≤ dn) = true := by simp; omega
      have g2 : ((dn : Int) == (T.size : Int)) = false := by have := HWH.out; simp; omega
      have g2' : decide (dn = T.size) = false := by have := HWH.out; simp; omega
      have g2'' : (dn == T.size) = false := by have := HWH.out; simp; omega
      have g3 : ((dn : Int) == 1) = true := by rw [hk1]; rfl
      have g3' : decide ((dn : Int) = 1) = true := by rw [hk1]; rfl
      have g3'' : (dn == 1) = true := by rw [hk1]; rfl
      obtain ⟨m, hm⟩ : ∃ m : Nat, m = T.size - dn - 1 := ⟨_, rfl⟩
      have hfr := HSh.out.frac rfl
      have hm8 : 1 ≤ m ∧ m ≤ 8 ∧ (T.size : Int) - (dn : Int) = (m : Int) + 1 := by have h1 := hfr.2.1; have h2 := hfr.2.2.1; rw [← HTs.out] at h1 h2; omega
      have q1 : (T.size : Int) - (dn : Int) = (m : Int) + 1 := hm8.2.2
      have q2 : IntKind.i64.wrap ((T.size : Int) - (dn : Int)) = (m : Int) + 1 := by rw [q1, IntWalk.i64_in _ (by omega)]
      have q3 : IntKind.i64.wrap ((m : Int) + 1 - 1) = (m : Int) := by rw [IntWalk.i64_in _ (by omega)]; omega
      have q4 : wrap64 ((T.size : Int) - (dn : Int)) = (m : Int) + 1 := by unfold wrap64; omega
      have q5 : wrap64 ((m : Int) + 1 - 1) = (m : Int) := by unfold wrap64; omega
      have q6 : (m : Int) + 1 - 1 = (m : Int) := by omega
      have q7 : decide ((1 : Int) ≤ (m : Int)) = true := by simp; omega
      have q7' : decide (1 ≤ m) = true := by simp; omega
      have q8 : decide ((m : Int) ≤ 8) = true := by simp; omega
      have q8' : decide (m ≤ 8) = true := by simp; omega
      obtain ⟨K, hK⟩ : ∃ K : Nat, K = T.size - 1 := ⟨_, rfl⟩
      have r1 : (T.size : Int) - 1 = (K : Int) := by omega
      have r2 : IntKind.i64.wrap ((T.size : Int) - 1) = (K : Int) := by rw [r1, IntWalk.i64_in _ (by omega)]
      have r3 : wrap64 ((T.size : Int) - 1) = (K : Int) := by unfold wrap64; omega
      obtain ⟨b9, hb9, hb9n⟩ := hfr.2.2.2
      have hb9' : l[K]? = some b9 := by rw [List.getLast?_eq_getElem?, ← HTs.out, ← hK] at hb9; exact hb9
      have hix9 := fun W => ix l K b9 hb9' W
      rw [← HT.out] at hix9
      obtain ⟨c9, hc9⟩ : ∃ c : Int, c = (b9.toNat : Int) := ⟨_, rfl⟩
      rw [← hc9] at hix9
      have hc9n : ¬ c9 = 48 := byte_ne b9 c9 48 48 hc9 rfl hb9n
      have g5 : (c9 != 48) = true := by simpa using hc9n
      have g5' : (c9 == 48) = false := by simpa using hc9n
      have hKT : (K : Int) < (T.size : Int) := by omega
      clear hc9 hb9 hb9' hb9n hK hm hfr hm8
      clear hk1
      go_wp2_with (fail)
      exact bodyPost_ret (v := .bool true) (by simp [results, Tryd.results5, go_sem, *]) rfl ⟨rfl, (Later.mk_of (by repeat (first | (with_reducible assumption) | (with_reducible exact Below.refl _ _) | (with_reducible refine Later.after ?_ _) | (with_reducible refine Later.newer ?_ _) | (with_reducible refine Below.drew ?_) | (with_reducible refine Below.setCell ?_ (by first | exact Nat.le_refl _ | exact Nat.le_add_right _ _ | omega | (simp [go_sem]; done) | (simp [go_sem]; omega)) _))))⟩
set_option maxRecDepth 100000 in
set_option maxHeartbeats 2000000 in
theorem digs_pf2 (n : Int) (l : List UInt8) (k : Nat) (T : ByteArray) (hneg : decide (n < 0) = false) (hT : T = ⟨l.toArray⟩)  (hm : ¬ n % 256 = 0) (hs : Shape l k false) (hk1 : k ≠ 1) (w : World) (htab : Lib.TabIs Tryd.prog w "internal/strconv.uint64pow10" .u64 Lib.pow10Tab)
    (c1 : ∀ w', Below w.heap.size w w' → Calls Tryd.prog 12 #[.int .i64 n] w' fun e w'' => e = .returned (.string T) ∧ ∃ x : Later w', w'' = x.out) :
    Calls Tryd.prog 5 #[.int .i64 n] w fun e w' => e = .returned (.bool true) ∧ ∃ x : Later w, w' = x.out := by
  have hsh := fun v hb => shown_3 v (Lib.tabBelow_of_tabIs htab v hb)
  have HS := Lib.hid hsh
  have Hc1 := Lib.hid c1
  clear hsh htab c1
  have hTs : T.size = l.length := by rw [hT, ba_size]
  have HTs := Lib.hid hTs
  have HSh := Lib.hid hs
  have hk0 := hs.pos
  have hkl := hs.le
  have hl30 := hs.len
  have hf0 : n.tmod 256 = 0 ↔ n % 256 = 0 := by rw [← Int.dvd_iff_tmod_eq_zero, Int.dvd_iff_emod_eq_zero]
  have hf1 : (n.tmod 256 == 0) = false := by simp [hf0, hm]
  have hf2 : (n % 256 == 0) = false := by simp [hm]
  have hTe : T.toList.isEmpty = false := by
    rw [hT, isEmpty_ba]
    cases l with
    | nil => simp at hkl; omega
    | cons _ _ => rfl
  have HT := Lib.hid hT
  have hwh : k < T.size := by rw [hTs]; exact (hs.frac rfl).1
  have HWH := Lib.hid hwh
  have hkT : k ≤ T.size := by rw [hTs]; exact hkl
  have hT30 : T.size ≤ 30 := by rw [hTs]; exact hl30
  clear hT hTs hs hm hf0  hwh hkl
  go_enter Tryd.func5, Tryd.ntmps5
  go_wp2_with (first | (go_at_call 9; (with_reducible refine (HS.out _ (by repeat (first | (with_reducible assumption) | (with_reducible exact Below.refl _ _) | (with_reducible refine Later.after ?_ _) | (with_reducible refine Later.newer ?_ _) | (with_reducible refine Below.drew ?_) | (with_reducible refine Below.setCell ?_ (by first | exact Nat.le_refl _ | exact Nat.le_add_right _ _ | omega | (simp [go_sem]; done) | (simp [go_sem]; omega)) _)))).mono ?_); rintro e _ ⟨rfl, y0, rfl⟩) | (go_at_call 12; (with_reducible refine (Hc1.out _ (by repeat (first | (with_reducible assumption) | (with_reducible exact Below.refl _ _) | (with_reducible refine Later.after ?_ _) | (with_reducible refine Later.newer ?_ _) | (with_reducible refine Below.drew ?_) | (with_reducible refine Below.setCell ?_ (by first | exact Nat.le_refl _ | exact Nat.le_add_right _ _ | omega | (simp [go_sem]; done) | (simp [go_sem]; omega)) _)))).mono ?_); rintro e _ ⟨rfl, y1, rfl⟩))
  go_loopw [5, 6] (fun dv iv wr => ∃ j dn : Nat, j ≤ T.size ∧ iv = .int .i64 (j : Int) ∧ dv = .int .i64 (dn : Int) ∧ ((j ≤ k ∧ dn = T.size) ∨ (k < j ∧ dn = k)) ∧ ∃ y : Later w, wr = y.out) (fun _ iv _ => T.size - (intOf iv).toNat)
  case atStart => exact ⟨0, T.size, by omega, rfl, rfl, .inl ⟨by omega, rfl⟩, ⟨_, by repeat (first | (with_reducible assumption) | (with_reducible exact Below.refl _ _) | (with_reducible refine Later.after ?_ _) | (with_reducible refine Later.newer ?_ _) | (with_reducible refine Below.drew ?_) | (with_reducible refine Below.setCell ?_ (by first | exact Nat.le_refl _ | exact Nat.le_add_right _ _ | omega | (simp [go_sem]; done) | (simp [go_sem]; omega)) _))⟩, rfl⟩
  case round =>
    obtain ⟨j, dn, hj, rfl, rfl, hd, y, rfl⟩ := hrel
    by_cases hlt : j < T.size
    · have hd1 : decide ((j : Int) < (T.size : Int)) = true := by simp; exact hlt
      have hd2 : decide (j < T.size) = true := by simp; exact hlt
      obtain ⟨b, hb⟩ : ∃ b, l[j]? = some b := ⟨_, List.getElem?_eq_getElem (by rw [← HTs.out]; exact hlt)⟩
      obtain ⟨s1, s2⟩ := HSh.out.at_ j b hb
      have hix2 := fun W => ix l j b hb W
      rw [← HT.out] at hix2
      obtain ⟨c, hc⟩ : ∃ c : Int, c = (b.toNat : Int) := ⟨_, rfl⟩
      rw [← hc] at hix2
      have hj0 : ((j : Nat) : Int) < (T.size : Int) := by omega
      by_cases hjk : j = k
      · have hc46 : c = 46 := by rw [hc, s1 hjk]; rfl
        subst hc46
        have hdn : dn = T.size := by omega
        subst hdn
        have HJK := Lib.hid hjk
        clear s1 s2 hc hb hd hjk
        go_wp2_with (fail)
        go_roundw
        case rel => exact ⟨j + 1, j, by omega, by go_num, rfl, .inr ⟨by have := HJK.out; omega, HJK.out⟩, y, rfl⟩
        case measure => simp [intOf]; omega
      · have hbd := s2 hjk
        have hc8 : 48 ≤ c ∧ c ≤ 57 := by unfold IsDg at hbd; omega
        have hcn : ¬ c = 46 := by omega
        have e1 : (c == 46) = false := by simpa using hcn
        have e2 : decide (c < 48) = false := by simp; omega
        have e3 : decide (57 < c) = false := by simp; omega
        have e4 : decide (c = 46) = false := by simpa using hcn
        have HD := Lib.hid hd
        have HJK := Lib.hid hjk
        clear s1 s2 hc hb hbd hd hjk
        go_wp2_with (fail)
        go_roundw
        case rel => exact ⟨j + 1, dn, by omega, by go_num, rfl, by rcases HD.out with h | h; exact .inl ⟨by have := HJK.out; omega, h.2⟩; exact .inr ⟨by omega, h.2⟩, y, rfl⟩
        case measure => simp [intOf]; omega
    · have hjT : j = T.size := by omega
      have hdk : dn = k := by
        have := HWH.out
        omega
      subst hdk
      subst hjT
      have hd1 : decide ((T.size : Int) < (T.size : Int)) = false := by simp
      have hd2 : decide (T.size < T.size) = false := by simp
      clear hd
      have g1 : decide ((1 : Int) ≤ (dn : Int)) = true := by simp; omega
      have g1' : decide (1 ≤ dn) = true := by simp; omega
      have g2 : ((dn : Int) == (T.size : Int)) = false := by have := HWH.out; simp; omega
      have g2' : decide (dn = T.size) = false := by have := HWH.out; simp; omega
      have g2'' : (dn == T.size) = false := by have := HWH.out; simp; omega
      have g3 : ((dn : Int) == 1) = false := by simp; omega
      have g3' : decide ((dn : Int) = 1) = false := by simp; omega
      have g3'' : (dn == 1) = false := by simp; omega
      obtain ⟨b0, hb0, hb0n⟩ := HSh.out.first hk1
      have hix0 := fun W => ix0 l b0 hb0 W
      rw [← HT.out] at hix0
      obtain ⟨c0, hc0⟩ : ∃ c : Int, c = (b0.toNat : Int) := ⟨_, rfl⟩
      rw [← hc0] at hix0
      have hc0n : ¬ c0 = 48 := byte_ne b0 c0 48 48 hc0 rfl hb0n
      have g4 : (c0 != 48) = true := by simpa using hc0n
      have g4' : (c0 == 48) = false := by simpa using hc0n
      have hT0 : (0 : Int) < (T.size : Int) := by omega
      clear hc0 hb0 hb0n
      obtain ⟨m, hm⟩ : ∃ m : Nat, m = T.size - dn - 1 := ⟨_, rfl⟩
      have hfr := HSh.out.frac rfl
      have hm8 : 1 ≤ m ∧ m ≤ 8 ∧ (T.size : Int) - (dn : Int) = (m : Int) + 1 := by have h1 := hfr.2.1; have h2 := hfr.2.2.1; rw [← HTs.out] at h1 h2; omega
      have q1 : (T.size : Int) - (dn : Int) = (m : Int) + 1 := hm8.2.2
      have q2 : IntKind.i64.wrap ((T.size : Int) - (dn : Int)) = (m : Int) + 1 := by rw [q1, IntWalk.i64_in _ (by omega)]
      have q3 : IntKind.i64.wrap ((m : Int) + 1 - 1) = (m : Int) := by rw [IntWalk.i64_in _ (by omega)]; omega
      have q4 : wrap64 ((T.size : Int) - (dn : Int)) = (m : Int) + 1 := by unfold wrap64; omega
      have q5 : wrap64 ((m : Int) + 1 - 1) = (m : Int) := by unfold wrap64; omega
      have q6 : (m : Int) + 1 - 1 = (m : Int) := by omega
      have q7 : decide ((1 : Int) ≤ (m : Int)) = true := by simp; omega
      have q7' : decide (1 ≤ m) = true := by simp; omega
      have q8 : decide ((m : Int) ≤ 8) = true := by simp; omega
      have q8' : decide (m ≤ 8) = true := by simp; omega
      obtain ⟨K, hK⟩ : ∃ K : Nat, K = T.size - 1 := ⟨_, rfl⟩
      have r1 : (T.size : Int) - 1 = (K : Int) := by omega
      have r2 : IntKind.i64.wrap ((T.size : Int) - 1) = (K : Int) := by rw [r1, IntWalk.i64_in _ (by omega)]
      have r3 : wrap64 ((T.size : Int) - 1) = (K : Int) := by unfold wrap64; omega
      obtain ⟨b9, hb9, hb9n⟩ := hfr.2.2.2
      have hb9' : l[K]? = some b9 := by rw [List.getLast?_eq_getElem?, ← HTs.out, ← hK] at hb9; exact hb9
      have hix9 := fun W => ix l K b9 hb9' W
      rw [← HT.out] at hix9
      obtain ⟨c9, hc9⟩ : ∃ c : Int, c = (b9.toNat : Int) := ⟨_, rfl⟩
      rw [← hc9] at hix9
      have hc9n : ¬ c9 = 48 := byte_ne b9 c9 48 48 hc9 rfl hb9n
      have g5 : (c9 != 48) = true := by simpa using hc9n
      have g5' : (c9 == 48) = false := by simpa using hc9n
      have hKT : (K : Int) < (T.size : Int) := by omega
      clear hc9 hb9 hb9' hb9n hK hm hfr hm8
      clear hk1
      go_wp2_with (fail)
      exact bodyPost_ret (v := .bool true) (by simp [results, Tryd.results5, go_sem, *]) rfl ⟨rfl, (Later.mk_of (by repeat (first | (with_reducible assumption) | (with_reducible exact Below.refl _ _) | (with_reducible refine Later.after ?_ _) | (with_reducible refine Later.newer ?_ _) | (with_reducible refine Below.drew ?_) | (with_reducible refine Below.setCell ?_ (by first | exact Nat.le_refl _ | exact Nat.le_add_right _ _ | omega | (simp [go_sem]; done) | (simp [go_sem]; omega)) _))))⟩
set_option maxRecDepth 100000 in
set_option maxHeartbeats 2000000 in
theorem digs_nw1 (n : Int) (l : List UInt8) (k : Nat) (P T : ByteArray) (hneg : decide (n < 0) = true) (hT : T = ⟨l.toArray⟩) (hP : P = ⟨(45 :: l).toArray⟩) (hm : n % 256 = 0) (hs : Shape l k true) (hk1 : k = 1) (w : World) (htab : Lib.TabIs Tryd.prog w "internal/strconv.uint64pow10" .u64 Lib.pow10Tab)
    (c1 : ∀ w', Below w.heap.size w w' → Calls Tryd.prog 12 #[.int .i64 n] w' fun e w'' => e = .returned (.string P) ∧ ∃ x : Later w', w'' = x.out) :
    Calls Tryd.prog 5 #[.int .i64 n] w fun e w' => e = .returned (.bool true) ∧ ∃ x : Later w, w' = x.out := by
  have hsh := fun v hb => shown_3 v (Lib.tabBelow_of_tabIs htab v hb)
  have HS := Lib.hid hsh
  have Hc1 := Lib.hid c1
  clear hsh htab c1
  have hTs : T.size = l.length := by rw [hT, ba_size]
  have HTs := Lib.hid hTs
  have HSh := Lib.hid hs
  have hk0 := hs.pos
  have hkl := hs.le
  have hl30 := hs.len
  have hf0 : n.tmod 256 = 0 ↔ n % 256 = 0 := by rw [← Int.dvd_iff_tmod_eq_zero, Int.dvd_iff_emod_eq_zero]
  have hf1 : (n.tmod 256 == 0) = true := by simp [hf0, hm]
  have hf2 : (n % 256 == 0) = true := by simp [hm]
  have hPe : P.toList.isEmpty = false := by rw [hP, isEmpty_ba]; rfl
  have hix := fun W => ix0 (45 :: l) 45 rfl W
  rw [← hP, show (((45 : UInt8).toNat : Nat) : Int) = 45 from rfl] at hix
  have hP1 : (1 : Int) ≤ (P.size : Int) := by rw [hP, ba_size, List.length_cons]; omega
  have hPT : P.extract 1 P.size = T := by rw [hP, hT, ba_drop]; rfl
  have HT := Lib.hid hT
  have hwh : k = T.size := by rw [hTs]; exact hs.allw rfl
  have HWH := Lib.hid hwh
  have hkT : k ≤ T.size := by rw [hTs]; exact hkl
  have hT30 : T.size ≤ 30 := by rw [hTs]; exact hl30
  clear hT hTs hs hm hf0 hP hwh hkl
  go_enter Tryd.func5, Tryd.ntmps5
  go_wp2_with (first | (go_at_call 9; (with_reducible refine (HS.out _ (by repeat (first | (with_reducible assumption) | (with_reducible exact Below.refl _ _) | (with_reducible refine Later.after ?_ _) | (with_reducible refine Later.newer ?_ _) | (with_reducible refine Below.drew ?_) | (with_reducible refine Below.setCell ?_ (by first | exact Nat.le_refl _ | exact Nat.le_add_right _ _ | omega | (simp [go_sem]; done) | (simp [go_sem]; omega)) _)))).mono ?_); rintro e _ ⟨rfl, y0, rfl⟩) | (go_at_call 12; (with_reducible refine (Hc1.out _ (by repeat (first | (with_reducible assumption) | (with_reducible exact Below.refl _ _) | (with_reducible refine Later.after ?_ _) | (with_reducible refine Later.newer ?_ _) | (with_reducible refine Below.drew ?_) | (with_reducible refine Below.setCell ?_ (by first | exact Nat.le_refl _ | exact Nat.le_add_right _ _ | omega | (simp [go_sem]; done) | (simp [go_sem]; omega)) _)))).mono ?_); rintro e _ ⟨rfl, y1, rfl⟩))
  go_loopw [5, 6] (fun dv iv wr => ∃ j dn : Nat, j ≤ T.size ∧ iv = .int .i64 (j : Int) ∧ dv = .int .i64 (dn : Int) ∧ ((j ≤ k ∧ dn = T.size) ∨ (k < j ∧ dn = k)) ∧ ∃ y : Later w, wr = y.out) (fun _ iv _ => T.size - (intOf iv).toNat)
  case atStart => exact ⟨0, T.size, by omega, rfl, rfl, .inl ⟨by omega, rfl⟩, ⟨_, by repeat (first | (with_reducible assumption) | (with_reducible exact Below.refl _ _) | (with_reducible refine Later.after ?_ _) | (with_reducible refine Later.newer ?_ _) | (with_reducible refine Below.drew ?_) | (with_reducible refine Below.setCell ?_ (by first | exact Nat.le_refl _ | exact Nat.le_add_right _ _ | omega | (simp [go_sem]; done) | (simp [go_sem]; omega)) _))⟩, rfl⟩
  case round =>
    obtain ⟨j, dn, hj, rfl, rfl, hd, y, rfl⟩ := hrel
    by_cases hlt : j < T.size
    · have hd1 : decide ((j : Int) < (T.size : Int)) = true := by simp; exact hlt
      have hd2 : decide (j < T.size) = true := by simp; exact hlt
      obtain ⟨b, hb⟩ : ∃ b, l[j]? = some b := ⟨_, List.getElem?_eq_getElem (by rw [← HTs.out]; exact hlt)⟩
      obtain ⟨s1, s2⟩ := HSh.out.at_ j b hb
      have hix2 := fun W => ix l j b hb W
      rw [← HT.out] at hix2
      obtain ⟨c, hc⟩ : ∃ c : Int, c = (b.toNat : Int) := ⟨_, rfl⟩
      rw [← hc] at hix2
      have hj0 : ((j : Nat) : Int) < (T.size : Int) := by omega
      by_cases hjk : j = k
      · have hc46 : c = 46 := by rw [hc, s1 hjk]; rfl
        subst hc46
        have hdn : dn = T.size := by omega
        subst hdn
        have HJK := Lib.hid hjk
        clear s1 s2 hc hb hd hjk
        go_wp2_with (fail)
        go_roundw
        case rel => exact ⟨j + 1, j, by omega, by go_num, rfl, .inr ⟨by have := HJK.out; omega, HJK.out⟩, y, rfl⟩
        case measure => simp [intOf]; omega
      · have hbd := s2 hjk
        have hc8 : 48 ≤ c ∧ c ≤ 57 := by unfold IsDg at hbd; omega
        have hcn : ¬ c = 46 := by omega
        have e1 : (c == 46) = false := by simpa using hcn
        have e2 : decide (c < 48) = false := by simp; omega
        have e3 : decide (57 < c) = false := by simp; omega
        have e4 : decide (c = 46) = false := by simpa using hcn
        have HD := Lib.hid hd
        have HJK := Lib.hid hjk
        clear s1 s2 hc hb hbd hd hjk
        go_wp2_with (fail)
        go_roundw
        case rel => exact ⟨j + 1, dn, by omega, by go_num, rfl, by rcases HD.out with h | h; exact .inl ⟨by have := HJK.out; omega, h.2⟩; exact .inr ⟨by omega, h.2⟩, y, rfl⟩
        case measure => simp [intOf]; omega
    · have hjT : j = T.size := by omega
      have hdk : dn = k := by
        have := HWH.out
        omega
      subst hdk
      subst hjT
      have hd1 : decide ((T.size : Int) < (T.size : Int)) = false := by simp
      have hd2 : decide (T.size < T.size) = false := by simp
      clear hd
      have g1 : decide ((1 : Int) ≤ (dn : Int)) = true := by simp; omega
      have g1' : decide (1 ≤ dn) = true := by simp; omega
      have g2 : ((dn : Int) == (T.size : Int)) = true := by rw [HWH.out]; simp
      have g2' : decide (dn = T.size) = true := by rw [HWH.out]; simp
      have g2'' : (dn == T.size) = true := by rw [HWH.out]; simp
      have g3 : ((dn : Int) == 1) = true := by rw [hk1]; rfl
      have g3' : decide ((dn : Int) = 1) = true := by rw [hk1]; rfl
      have g3'' : (dn == 1) = true := by rw [hk1]; rfl
      
      clear hk1
      go_wp2_with (fail)
      exact bodyPost_ret (v := .bool true) (by simp [results, Tryd.results5, go_sem, *]) rfl ⟨rfl, (Later.mk_of (by repeat (first | (with_reducible assumption) | (with_reducible exact Below.refl _ _) | (with_reducible refine Later.after ?_ _) | (with_reducible refine Later.newer ?_ _) | (with_reducible refine Below.drew ?_) | (with_reducible refine Below.setCell ?_ (by first | exact Nat.le_refl _ | exact Nat.le_add_right _ _ | omega | (simp [go_sem]; done) | (simp [go_sem]; omega)) _))))⟩
set_option maxRecDepth 100000 in
set_option maxHeartbeats 2000000 in
theorem digs_nw2 (n : Int) (l : List UInt8) (k : Nat) (P T : ByteArray) (hneg : decide (n < 0) = true) (hT : T = ⟨l.toArray⟩) (hP : P = ⟨(45 :: l).toArray⟩) (hm : n % 256 = 0) (hs : Shape l k true) (hk1 : k ≠ 1) (w : World) (htab : Lib.TabIs Tryd.prog w "internal/strconv.uint64pow10" .u64 Lib.pow10Tab)
    (c1 : ∀ w', Below w.heap.size w w' → Calls Tryd.prog 12 #[.int .i64 n] w' fun e w'' => e = .returned (.string P) ∧ ∃ x : Later w', w'' = x.out) :
    Calls Tryd.prog 5 #[.int .i64 n] w fun e w' => e = .returned (.bool true) ∧ ∃ x : Later w, w' = x.out := by
  have hsh := fun v hb => shown_3 v (Lib.tabBelow_of_tabIs htab v hb)
  have HS := Lib.hid hsh
  have Hc1 := Lib.hid c1
  clear hsh htab c1
  have hTs : T.size = l.length := by rw [hT, ba_size]
  have HTs := Lib.hid hTs
  have HSh := Lib.hid hs
  have hk0 := hs.pos
  have hkl := hs.le
  have hl30 := hs.len
  have hf0 : n.tmod 256 = 0 ↔ n % 256 = 0 := by rw [← Int.dvd_iff_tmod_eq_zero, Int.dvd_iff_emod_eq_zero]
  have hf1 : (n.tmod 256 == 0) = true := by simp [hf0, hm]
  have hf2 : (n % 256 == 0) = true := by simp [hm]
  have hPe : P.toList.isEmpty = false := by rw [hP, isEmpty_ba]; rfl
  have hix := fun W => ix0 (45 :: l) 45 rfl W
  rw [← hP, show (((45 : UInt8).toNat : Nat) : Int) = 45 from rfl] at hix
  have hP1 : (1 : Int) ≤ (P.size : Int) := by rw [hP, ba_size, List.length_cons]; omega
  have hPT : P.extract 1 P.size = T := by rw [hP, hT, ba_drop]; rfl
  have HT := Lib.hid hT
  have hwh : k = T.size := by rw [hTs]; exact hs.allw rfl
  have HWH := Lib.hid hwh
  have hkT : k ≤ T.size := by rw [hTs]; exact hkl
  have hT30 : T.size ≤ 30 := by rw [hTs]; exact hl30
  clear hT hTs hs hm hf0 hP hwh hkl
  go_enter Tryd.func5, Tryd.ntmps5
  go_wp2_with (first | (go_at_call 9; (with_reducible refine (HS.out _ (by repeat (first | (with_reducible assumption) | (with_reducible exact Below.refl _ _) | (with_reducible refine Later.after ?_ _) | (with_reducible refine Later.newer ?_ _) | (with_reducible refine Below.drew ?_) | (with_reducible refine Below.setCell ?_ (by first | exact Nat.le_refl _ | exact Nat.le_add_right _ _ | omega | (simp [go_sem]; done) | (simp [go_sem]; omega)) _)))).mono ?_); rintro e _ ⟨rfl, y0, rfl⟩) | (go_at_call 12; (with_reducible refine (Hc1.out _ (by repeat (first | (with_reducible assumption) | (with_reducible exact Below.refl _ _) | (with_reducible refine Later.after ?_ _) | (with_reducible refine Later.newer ?_ _) | (with_reducible refine Below.drew ?_) | (with_reducible refine Below.setCell ?_ (by first | exact Nat.le_refl _ | exact Nat.le_add_right _ _ | omega | (simp [go_sem]; done) | (simp [go_sem]; omega)) _)))).mono ?_); rintro e _ ⟨rfl, y1, rfl⟩))
  go_loopw [5, 6] (fun dv iv wr => ∃ j dn : Nat, j ≤ T.size ∧ iv = .int .i64 (j : Int) ∧ dv = .int .i64 (dn : Int) ∧ ((j ≤ k ∧ dn = T.size) ∨ (k < j ∧ dn = k)) ∧ ∃ y : Later w, wr = y.out) (fun _ iv _ => T.size - (intOf iv).toNat)
  case atStart => exact ⟨0, T.size, by omega, rfl, rfl, .inl ⟨by omega, rfl⟩, ⟨_, by repeat (first | (with_reducible assumption) | (with_reducible exact Below.refl _ _) | (with_reducible refine Later.after ?_ _) | (with_reducible refine Later.newer ?_ _) | (with_reducible refine Below.drew ?_) | (with_reducible refine Below.setCell ?_ (by first | exact Nat.le_refl _ | exact Nat.le_add_right _ _ | omega | (simp [go_sem]; done) | (simp [go_sem]; omega)) _))⟩, rfl⟩
  case round =>
    obtain ⟨j, dn, hj, rfl, rfl, hd, y, rfl⟩ := hrel
    by_cases hlt : j < T.size
    · have hd1 : decide ((j : Int) < (T.size : Int)) = true := by simp; exact hlt
      have hd2 : decide (j < T.size) = true := by simp; exact hlt
      obtain ⟨b, hb⟩ : ∃ b, l[j]? = some b := ⟨_, List.getElem?_eq_getElem (by rw [← HTs.out]; exact hlt)⟩
      obtain ⟨s1, s2⟩ := HSh.out.at_ j b hb
      have hix2 := fun W => ix l j b hb W
      rw [← HT.out] at hix2
      obtain ⟨c, hc⟩ : ∃ c : Int, c = (b.toNat : Int) := ⟨_, rfl⟩
      rw [← hc] at hix2
      have hj0 : ((j : Nat) : Int) < (T.size : Int) := by omega
      by_cases hjk : j = k
      · have hc46 : c = 46 := by rw [hc, s1 hjk]; rfl
        subst hc46
        have hdn : dn = T.size := by omega
        subst hdn
        have HJK := Lib.hid hjk
        clear s1 s2 hc hb hd hjk
        go_wp2_with (fail)
        go_roundw
        case rel => exact ⟨j + 1, j, by omega, by go_num, rfl, .inr ⟨by have := HJK.out; omega, HJK.out⟩, y, rfl⟩
        case measure => simp [intOf]; omega
      · have hbd := s2 hjk
        have hc8 : 48 ≤ c ∧ c ≤ 57 := by unfold IsDg at hbd; omega
        have hcn : ¬ c = 46 := by omega
        have e1 : (c == 46) = false := by simpa using hcn
        have e2 : decide (c < 48) = false := by simp; omega
        have e3 : decide (57 < c) = false := by simp; omega
        have e4 : decide (c = 46) = false := by simpa using hcn
        have HD := Lib.hid hd
        have HJK := Lib.hid hjk
        clear s1 s2 hc hb hbd hd hjk
        go_wp2_with (fail)
        go_roundw
        case rel => exact ⟨j + 1, dn, by omega, by go_num, rfl, by rcases HD.out with h | h; exact .inl ⟨by have := HJK.out; omega, h.2⟩; exact .inr ⟨by omega, h.2⟩, y, rfl⟩
        case measure => simp [intOf]; omega
    · have hjT : j = T.size := by omega
      have hdk : dn = k := by
        have := HWH.out
        omega
      subst hdk
      subst hjT
      have hd1 : decide ((T.size : Int) < (T.size : Int)) = false := by simp
      have hd2 : decide (T.size < T.size) = false := by simp
      clear hd
      have g1 : decide ((1 : Int) ≤ (dn : Int)) = true := by simp; omega
      have g1' : decide (1 ≤ dn) = true := by simp; omega
      have g2 : ((dn : Int) == (T.size : Int)) = true := by rw [HWH.out]; simp
      have g2' : decide (dn = T.size) = true := by rw [HWH.out]; simp
      have g2'' : (dn == T.size) = true := by rw [HWH.out]; simp
      have g3 : ((dn : Int) == 1) = false := by simp; omega
      have g3' : decide ((dn : Int) = 1) = false := by simp; omega
      have g3'' : (dn == 1) = false := by simp; omega
      obtain ⟨b0, hb0, hb0n⟩ := HSh.out.first hk1
      have hix0 := fun W => ix0 l b0 hb0 W
      rw [← HT.out] at hix0
      obtain ⟨c0, hc0⟩ : ∃ c : Int, c = (b0.toNat : Int) := ⟨_, rfl⟩
      rw [← hc0] at hix0
      have hc0n : ¬ c0 = 48 := byte_ne b0 c0 48 48 hc0 rfl hb0n
      have g4 : (c0 != 48) = true := by simpa using hc0n
      have g4' : (c0 == 48) = false := by simpa using hc0n
      have hT0 : (0 : Int) < (T.size : Int) := by omega
      clear hc0 hb0 hb0n
      
      clear hk1
      go_wp2_with (fail)
      exact bodyPost_ret (v := .bool true) (by simp [results, Tryd.results5, go_sem, *]) rfl ⟨rfl, (Later.mk_of (by repeat (first | (with_reducible assumption) | (with_reducible exact Below.refl _ _) | (with_reducible refine Later.after ?_ _) | (with_reducible refine Later.newer ?_ _) | (with_reducible refine Below.drew ?_) | (with_reducible refine Below.setCell ?_ (by first | exact Nat.le_refl _ | exact Nat.le_add_right _ _ | omega | (simp [go_sem]; done) | (simp [go_sem]; omega)) _))))⟩
set_option maxRecDepth 100000 in
set_option maxHeartbeats 2000000 in
theorem digs_nf1 (n : Int) (l : List UInt8) (k : Nat) (P T : ByteArray) (hneg : decide (n < 0) = true) (hT : T = ⟨l.toArray⟩) (hP : P = ⟨(45 :: l).toArray⟩) (hm : ¬ n % 256 = 0) (hs : Shape l k false) (hk1 : k = 1) (w : World) (htab : Lib.TabIs Tryd.prog w "internal/strconv.uint64pow10" .u64 Lib.pow10Tab)
    (c1 : ∀ w', Below w.heap.size w w' → Calls Tryd.prog 12 #[.int .i64 n] w' fun e w'' => e = .returned (.string P) ∧ ∃ x : Later w', w'' = x.out) :
    Calls Tryd.prog 5 #[.int .i64 n] w fun e w' => e = .returned (.bool true) ∧ ∃ x : Later w, w' = x.out := by
  have hsh := fun v hb => shown_3 v (Lib.tabBelow_of_tabIs htab v hb)
  have HS := Lib.hid hsh
  have Hc1 := Lib.hid c1
  clear hsh htab c1
  have hTs : T.size = l.length := by rw [hT, ba_size]
  have HTs := Lib.hid hTs
  have HSh := Lib.hid hs
  have hk0 := hs.pos
  have hkl := hs.le
  have hl30 := hs.len
  have hf0 : n.tmod 256 = 0 ↔ n % 256 = 0 := by rw [← Int.dvd_iff_tmod_eq_zero, Int.dvd_iff_emod_eq_zero]
  have hf1 : (n.tmod 256 == 0) = false := by simp [hf0, hm]
  have hf2 : (n % 256 == 0) = false := by simp [hm]
  have hPe : P.toList.isEmpty = false := by rw [hP, isEmpty_ba]; rfl
  have hix := fun W => ix0 (45 :: l) 45 rfl W
  rw [← hP, show (((45 : UInt8).toNat : Nat) : Int) = 45 from rfl] at hix
  have hP1 : (1 : Int) ≤ (P.size : Int) := by rw [hP, ba_size, List.length_cons]; omega
  have hPT : P.extract 1 P.size = T := by rw [hP, hT, ba_drop]; rfl
  have HT := Lib.hid hT
  have hwh : k < T.size := by rw [hTs]; exact (hs.frac rfl).1
  have HWH := Lib.hid hwh
  have hkT : k ≤ T.size := by rw [hTs]; exact hkl
  have hT30 : T.size ≤ 30 := by rw [hTs]; exact hl30
  clear hT hTs hs hm hf0 hP hwh hkl
  go_enter Tryd.func5, Tryd.ntmps5
  go_wp2_with (first | (go_at_call 9; (with_reducible refine (HS.out _ (by repeat (first | (with_reducible assumption) | (with_reducible exact Below.refl _ _) | (with_reducible refine Later.after ?_ _) | (with_reducible refine Later.newer ?_ _) | (with_reducible refine Below.drew ?_) | (with_reducible refine Below.setCell ?_ (by first | exact Nat.le_refl _ | exact Nat.le_add_right _ _ | omega | (simp [go_sem]; done) | (simp [go_sem]; omega)) _)))).mono ?_); rintro e _ ⟨rfl, y0, rfl⟩) | (go_at_call 12; (with_reducible refine (Hc1.out _ (by repeat (first | (with_reducible assumption) | (with_reducible exact Below.refl _ _) | (with_reducible refine Later.after ?_ _) | (with_reducible refine Later.newer ?_ _) | (with_reducible refine Below.drew ?_) | (with_reducible refine Below.setCell ?_ (by first | exact Nat.le_refl _ | exact Nat.le_add_right _ _ | omega | (simp [go_sem]; done) | (simp [go_sem]; omega)) _)))).mono ?_); rintro e _ ⟨rfl, y1, rfl⟩))
  go_loopw [5, 6] (fun dv iv wr => ∃ j dn : Nat, j ≤ T.size ∧ iv = .int .i64 (j : Int) ∧ dv = .int .i64 (dn : Int) ∧ ((j ≤ k ∧ dn = T.size) ∨ (k < j ∧ dn = k)) ∧ ∃ y : Later w, wr = y.out) (fun _ iv _ => T.size - (intOf iv).toNat)
  case atStart => exact ⟨0, T.size, by omega, rfl, rfl, .inl ⟨by omega, rfl⟩, ⟨_, by repeat (first | (with_reducible assumption) | (with_reducible exact Below.refl _ _) | (with_reducible refine Later.after ?_ _) | (with_reducible refine Later.newer ?_ _) | (with_reducible refine Below.drew ?_) | (with_reducible refine Below.setCell ?_ (by first | exact Nat.le_refl _ | exact Nat.le_add_right _ _ | omega | (simp [go_sem]; done) | (simp [go_sem]; omega)) _))⟩, rfl⟩
  case round =>
    obtain ⟨j, dn, hj, rfl, rfl, hd, y, rfl⟩ := hrel
    by_cases hlt : j < T.size
    · have hd1 : decide ((j : Int) < (T.size : Int)) = true := by simp; exact hlt
      have hd2 : decide (j < T.size) = true := by simp; exact hlt
      obtain ⟨b, hb⟩ : ∃ b, l[j]? = some b := ⟨_, List.getElem?_eq_getElem (by rw [← HTs.out]; exact hlt)⟩
      obtain ⟨s1, s2⟩ := HSh.out.at_ j b hb
      have hix2 := fun W => ix l j b hb W
      rw [← HT.out] at hix2
      obtain ⟨c, hc⟩ : ∃ c : Int, c = (b.toNat : Int) := ⟨_, rfl⟩
      rw [← hc] at hix2
      have hj0 : ((j : Nat) : Int) < (T.size : Int) := by omega
      by_cases hjk : j = k
      · have hc46 : c = 46 := by rw [hc, s1 hjk]; rfl
        subst hc46
        have hdn : dn = T.size := by omega
        subst hdn
        have HJK := Lib.hid hjk
        clear s1 s2 hc hb hd hjk
        go_wp2_with (fail)
        go_roundw
        case rel => exact ⟨j + 1, j, by omega, by go_num, rfl, .inr ⟨by have := HJK.out; omega, HJK.out⟩, y, rfl⟩
        case measure => simp [intOf]; omega
      · have hbd := s2 hjk
        have hc8 : 48 ≤ c ∧ c ≤ 57 := by unfold IsDg at hbd; omega
        have hcn : ¬ c = 46 := by omega
        have e1 : (c == 46) = false := by simpa using hcn
        have e2 : decide (c < 48) = false := by simp; omega
        have e3 : decide (57 < c) = false := by simp; omega
        have e4 : decide (c = 46) = false := by simpa using hcn
        have HD := Lib.hid hd
        have HJK := Lib.hid hjk
        clear s1 s2 hc hb hbd hd hjk
        go_wp2_with (fail)
        go_roundw
        case rel => exact ⟨j + 1, dn, by omega, by go_num, rfl, by rcases HD.out with h | h; exact .inl ⟨by have := HJK.out; omega, h.2⟩; exact .inr ⟨by omega, h.2⟩, y, rfl⟩
        case measure => simp [intOf]; omega
    · have hjT : j = T.size := by omega
      have hdk : dn = k := by
        have := HWH.out
        omega
      subst hdk
      subst hjT
      have hd1 : decide ((T.size : Int) < (T.size : Int)) = false := by simp
      have hd2 : decide (T.size < T.size) = false := by simp
      clear hd
      have g1 : decide ((1 : Int) ≤ (dn : Int)) = true := by simp; omega
      have g1' : decide (1 ≤ dn) = true := by simp; omega
      have g2 : ((dn : Int) == (T.size : Int)) = false := by have := HWH.out; simp; omega
      have g2' : decide (dn = T.size) = false := by have := HWH.out; simp; omega
      have g2'' : (dn == T.size) = false := by have := HWH.out; simp; omega
      have g3 : ((dn : Int) == 1) = true := by rw [hk1]; rfl
      have g3' : decide ((dn : Int) = 1) = true := by rw [hk1]; rfl
      have g3'' : (dn == 1) = true := by rw [hk1]; rfl
      obtain ⟨m, hm⟩ : ∃ m : Nat, m = T.size - dn - 1 := ⟨_, rfl⟩
      have hfr := HSh.out.frac rfl
      have hm8 : 1 ≤ m ∧ m ≤ 8 ∧ (T.size : Int) - (dn : Int) = (m : Int) + 1 := by have h1 := hfr.2.1; have h2 := hfr.2.2.1; rw [← HTs.out] at h1 h2; omega
      have q1 : (T.size : Int) - (dn : Int) = (m : Int) + 1 := hm8.2.2
      have q2 : IntKind.i64.wrap ((T.size : Int) - (dn : Int)) = (m : Int) + 1 := by rw [q1, IntWalk.i64_in _ (by omega)]
      have q3 : IntKind.i64.wrap ((m : Int) + 1 - 1) = (m : Int) := by rw [IntWalk.i64_in _ (by omega)]; omega
      have q4 : wrap64 ((T.size : Int) - (dn : Int)) = (m : Int) + 1 := by unfold wrap64; omega
      have q5 : wrap64 ((m : Int) + 1 - 1) = (m : Int) := by unfold wrap64; omega
      have q6 : (m : Int) + 1 - 1 = (m : Int) := by omega
      have q7 : decide ((1 : Int) ≤ (m : Int)) = true := by simp; omega
      have q7' : decide (1 ≤ m) = true := by simp; omega
      have q8 : decide ((m : Int) ≤ 8) = true := by simp; omega
      have q8' : decide (m ≤ 8) = true := by simp; omega
      obtain ⟨K, hK⟩ : ∃ K : Nat, K = T.size - 1 := ⟨_, rfl⟩
      have r1 : (T.size : Int) - 1 = (K : Int) := by omega
      have r2 : IntKind.i64.wrap ((T.size : Int) - 1) = (K : Int) := by rw [r1, IntWalk.i64_in _ (by omega)]
      have r3 : wrap64 ((T.size : Int) - 1) = (K : Int) := by unfold wrap64; omega
      obtain ⟨b9, hb9, hb9n⟩ := hfr.2.2.2
      have hb9' : l[K]? = some b9 := by rw [List.getLast?_eq_getElem?, ← HTs.out, ← hK] at hb9; exact hb9
      have hix9 := fun W => ix l K b9 hb9' W
      rw [← HT.out] at hix9
      obtain ⟨c9, hc9⟩ : ∃ c : Int, c = (b9.toNat : Int) := ⟨_, rfl⟩
      rw [← hc9] at hix9
      have hc9n : ¬ c9 = 48 := byte_ne b9 c9 48 48 hc9 rfl hb9n
      have g5 : (c9 != 48) = true := by simpa using hc9n
      have g5' : (c9 == 48) = false := by simpa using hc9n
      have hKT : (K : Int) < (T.size : Int) := by omega
      clear hc9 hb9 hb9' hb9n hK hm hfr hm8
      clear hk1
      go_wp2_with (fail)
      exact bodyPost_ret (v := .bool true) (by simp [results, Tryd.results5, go_sem, *]) rfl ⟨rfl, (Later.mk_of (by repeat (first | (with_reducible assumption) | (with_reducible exact Below.refl _ _) | (with_reducible refine Later.after ?_ _) | (with_reducible refine Later.newer ?_ _) | (with_reducible refine Below.drew ?_) | (with_reducible refine Below.setCell ?_ (by first | exact Nat.le_refl _ | exact Nat.le_add_right _ _ | omega | (simp [go_sem]; done) | (simp [go_sem]; omega)) _))))⟩
set_option maxRecDepth 100000 in
set_option maxHeartbeats 2000000 in
theorem digs_nf2 (n : Int) (l : List UInt8) (k : Nat) (P T : ByteArray) (hneg : decide (n < 0) = true) (hT : T = ⟨l.toArray⟩) (hP : P = ⟨(45 :: l).toArray⟩) (hm : ¬ n % 256 = 0) (hs : Shape l k false) (hk1 : k ≠ 1) (w : World) (htab : Lib.TabIs Tryd.prog w "internal/strconv.uint64pow10" .u64 Lib.pow10Tab)
    (c1 : ∀ w', Below w.heap.size w w' → Calls Tryd.prog 12 #[.int .i64 n] w' fun e w'' => e = .returned (.string P) ∧ ∃ x : Later w', w'' = x.out) :
    Calls Tryd.prog 5 #[.int .i64 n] w fun e w' => e = .returned (.bool true) ∧ ∃ x : Later w, w' = x.out := by
  have hsh := fun v hb => shown_3 v (Lib.tabBelow_of_tabIs htab v hb)
  have HS := Lib.hid hsh
  have Hc1 := Lib.hid c1
  clear hsh htab c1
  have hTs : T.size = l.length := by rw [hT, ba_size]
  have HTs := Lib.hid hTs
  have HSh := Lib.hid hs
  have hk0 := hs.pos
  have hkl := hs.le
  have hl30 := hs.len
  have hf0 : n.tmod 256 = 0 ↔ n % 256 = 0 := by rw [← Int.dvd_iff_tmod_eq_zero, Int.dvd_iff_emod_eq_zero]
  have hf1 : (n.tmod 256 == 0) = false := by simp [hf0, hm]
  have hf2 : (n % 256 == 0) = false := by simp [hm]
  have hPe : P.toList.isEmpty = false := by rw [hP, isEmpty_ba]; rfl
  have hix := fun W => ix0 (45 :: l) 45 rfl W
  rw [← hP, show (((45 : UInt8).toNat : Nat) : Int) = 45 from rfl] at hix
  have hP1 : (1 : Int) ≤ (P.size : Int) := by rw [hP, ba_size, List.length_cons]; omega
  have hPT : P.extract 1 P.size = T := by rw [hP, hT, ba_drop]; rfl
  have HT := Lib.hid hT
  have hwh : k < T.size := by rw [hTs]; exact (hs.frac rfl).1
  have HWH := Lib.hid hwh
  have hkT : k ≤ T.size := by rw [hTs]; exact hkl
  have hT30 : T.size ≤ 30 := by rw [hTs]; exact hl30
  clear hT hTs hs hm hf0 hP hwh hkl
  go_enter Tryd.func5, Tryd.ntmps5
  go_wp2_with (first | (go_at_call 9; (with_reducible refine (HS.out _ (by repeat (first | (with_reducible assumption) | (with_reducible exact Below.refl _ _) | (with_reducible refine Later.after ?_ _) | (with_reducible refine Later.newer ?_ _) | (with_reducible refine Below.drew ?_) | (with_reducible refine Below.setCell ?_ (by first | exact Nat.le_refl _ | exact Nat.le_add_right _ _ | omega | (simp [go_sem]; done) | (simp [go_sem]; omega)) _)))).mono ?_); rintro e _ ⟨rfl, y0, rfl⟩) | (go_at_call 12; (with_reducible refine (Hc1.out _ (by repeat (first | (with_reducible assumption) | (with_reducible exact Below.refl _ _) | (with_reducible refine Later.after ?_ _) | (with_reducible refine Later.newer ?_ _) | (with_reducible refine Below.drew ?_) | (with_reducible refine Below.setCell ?_ (by first | exact Nat.le_refl _ | exact Nat.le_add_right _ _ | omega | (simp [go_sem]; done) | (simp [go_sem]; omega)) _)))).mono ?_); rintro e _ ⟨rfl, y1, rfl⟩))
  go_loopw [5, 6] (fun dv iv wr => ∃ j dn : Nat, j ≤ T.size ∧ iv = .int .i64 (j : Int) ∧ dv = .int .i64 (dn : Int) ∧ ((j ≤ k ∧ dn = T.size) ∨ (k < j ∧ dn = k)) ∧ ∃ y : Later w, wr = y.out) (fun _ iv _ => T.size - (intOf iv).toNat)
  case atStart => exact ⟨0, T.size, by omega, rfl, rfl, .inl ⟨by omega, rfl⟩, ⟨_, by repeat (first | (with_reducible assumption) | (with_reducible exact Below.refl _ _) | (with_reducible refine Later.after ?_ _) | (with_reducible refine Later.newer ?_ _) | (with_reducible refine Below.drew ?_) | (with_reducible refine Below.setCell ?_ (by first | exact Nat.le_refl _ | exact Nat.le_add_right _ _ | omega | (simp [go_sem]; done) | (simp [go_sem]; omega)) _))⟩, rfl⟩
  case round =>
    obtain ⟨j, dn, hj, rfl, rfl, hd, y, rfl⟩ := hrel
    by_cases hlt : j < T.size
    · have hd1 : decide ((j : Int) < (T.size : Int)) = true := by simp; exact hlt
      have hd2 : decide (j < T.size) = true := by simp; exact hlt
      obtain ⟨b, hb⟩ : ∃ b, l[j]? = some b := ⟨_, List.getElem?_eq_getElem (by rw [← HTs.out]; exact hlt)⟩
      obtain ⟨s1, s2⟩ := HSh.out.at_ j b hb
      have hix2 := fun W => ix l j b hb W
      rw [← HT.out] at hix2
      obtain ⟨c, hc⟩ : ∃ c : Int, c = (b.toNat : Int) := ⟨_, rfl⟩
      rw [← hc] at hix2
      have hj0 : ((j : Nat) : Int) < (T.size : Int) := by omega
      by_cases hjk : j = k
      · have hc46 : c = 46 := by rw [hc, s1 hjk]; rfl
        subst hc46
        have hdn : dn = T.size := by omega
        subst hdn
        have HJK := Lib.hid hjk
        clear s1 s2 hc hb hd hjk
        go_wp2_with (fail)
        go_roundw
        case rel => exact ⟨j + 1, j, by omega, by go_num, rfl, .inr ⟨by have := HJK.out; omega, HJK.out⟩, y, rfl⟩
        case measure => simp [intOf]; omega
      · have hbd := s2 hjk
        have hc8 : 48 ≤ c ∧ c ≤ 57 := by unfold IsDg at hbd; omega
        have hcn : ¬ c = 46 := by omega
        have e1 : (c == 46) = false := by simpa using hcn
        have e2 : decide (c < 48) = false := by simp; omega
        have e3 : decide (57 < c) = false := by simp; omega
        have e4 : decide (c = 46) = false := by simpa using hcn
        have HD := Lib.hid hd
        have HJK := Lib.hid hjk
        clear s1 s2 hc hb hbd hd hjk
        go_wp2_with (fail)
        go_roundw
        case rel => exact ⟨j + 1, dn, by omega, by go_num, rfl, by rcases HD.out with h | h; exact .inl ⟨by have := HJK.out; omega, h.2⟩; exact .inr ⟨by omega, h.2⟩, y, rfl⟩
        case measure => simp [intOf]; omega
    · have hjT : j = T.size := by omega
      have hdk : dn = k := by
        have := HWH.out
        omega
      subst hdk
      subst hjT
      have hd1 : decide ((T.size : Int) < (T.size : Int)) = false := by simp
      have hd2 : decide (T.size < T.size) = false := by simp
      clear hd
      have g1 : decide ((1 : Int) ≤ (dn : Int)) = true := by simp; omega
      have g1' : decide (1 ≤ dn) = true := by simp; omega
      have g2 : ((dn : Int) == (T.size : Int)) = false := by have := HWH.out; simp; omega
      have g2' : decide (dn = T.size) = false := by have := HWH.out; simp; omega
      have g2'' : (dn == T.size) = false := by have := HWH.out; simp; omega
      have g3 : ((dn : Int) == 1) = false := by simp; omega
      have g3' : decide ((dn : Int) = 1) = false := by simp; omega
      have g3'' : (dn == 1) = false := by simp; omega
      obtain ⟨b0, hb0, hb0n⟩ := HSh.out.first hk1
      have hix0 := fun W => ix0 l b0 hb0 W
      rw [← HT.out] at hix0
      obtain ⟨c0, hc0⟩ : ∃ c : Int, c = (b0.toNat : Int) := ⟨_, rfl⟩
      rw [← hc0] at hix0
      have hc0n : ¬ c0 = 48 := byte_ne b0 c0 48 48 hc0 rfl hb0n
      have g4 : (c0 != 48) = true := by simpa using hc0n
      have g4' : (c0 == 48) = false := by simpa using hc0n
      have hT0 : (0 : Int) < (T.size : Int) := by omega
      clear hc0 hb0 hb0n
      obtain ⟨m, hm⟩ : ∃ m : Nat, m = T.size - dn - 1 := ⟨_, rfl⟩
      have hfr := HSh.out.frac rfl
      have hm8 : 1 ≤ m ∧ m ≤ 8 ∧ (T.size : Int) - (dn : Int) = (m : Int) + 1 := by have h1 := hfr.2.1; have h2 := hfr.2.2.1; rw [← HTs.out] at h1 h2; omega
      have q1 : (T.size : Int) - (dn : Int) = (m : Int) + 1 := hm8.2.2
      have q2 : IntKind.i64.wrap ((T.size : Int) - (dn : Int)) = (m : Int) + 1 := by rw [q1, IntWalk.i64_in _ (by omega)]
      have q3 : IntKind.i64.wrap ((m : Int) + 1 - 1) = (m : Int) := by rw [IntWalk.i64_in _ (by omega)]; omega
      have q4 : wrap64 ((T.size : Int) - (dn : Int)) = (m : Int) + 1 := by unfold wrap64; omega
      have q5 : wrap64 ((m : Int) + 1 - 1) = (m : Int) := by unfold wrap64; omega
      have q6 : (m : Int) + 1 - 1 = (m : Int) := by omega
      have q7 : decide ((1 : Int) ≤ (m : Int)) = true := by simp; omega
      have q7' : decide (1 ≤ m) = true := by simp; omega
      have q8 : decide ((m : Int) ≤ 8) = true := by simp; omega
      have q8' : decide (m ≤ 8) = true := by simp; omega
      obtain ⟨K, hK⟩ : ∃ K : Nat, K = T.size - 1 := ⟨_, rfl⟩
      have r1 : (T.size : Int) - 1 = (K : Int) := by omega
      have r2 : IntKind.i64.wrap ((T.size : Int) - 1) = (K : Int) := by rw [r1, IntWalk.i64_in _ (by omega)]
      have r3 : wrap64 ((T.size : Int) - 1) = (K : Int) := by unfold wrap64; omega
      obtain ⟨b9, hb9, hb9n⟩ := hfr.2.2.2
      have hb9' : l[K]? = some b9 := by rw [List.getLast?_eq_getElem?, ← HTs.out, ← hK] at hb9; exact hb9
      have hix9 := fun W => ix l K b9 hb9' W
      rw [← HT.out] at hix9
      obtain ⟨c9, hc9⟩ : ∃ c : Int, c = (b9.toNat : Int) := ⟨_, rfl⟩
      rw [← hc9] at hix9
      have hc9n : ¬ c9 = 48 := byte_ne b9 c9 48 48 hc9 rfl hb9n
      have g5 : (c9 != 48) = true := by simpa using hc9n
      have g5' : (c9 == 48) = false := by simpa using hc9n
      have hKT : (K : Int) < (T.size : Int) := by omega
      clear hc9 hb9 hb9' hb9n hK hm hfr hm8
      clear hk1
      go_wp2_with (fail)
      exact bodyPost_ret (v := .bool true) (by simp [results, Tryd.results5, go_sem, *]) rfl ⟨rfl, (Later.mk_of (by repeat (first | (with_reducible assumption) | (with_reducible exact Below.refl _ _) | (with_reducible refine Later.after ?_ _) | (with_reducible refine Later.newer ?_ _) | (with_reducible refine Below.drew ?_) | (with_reducible refine Below.setCell ?_ (by first | exact Nat.le_refl _ | exact Nat.le_add_right _ _ | omega | (simp [go_sem]; done) | (simp [go_sem]; omega)) _))))⟩

theorem digits_walk (n : Int) (n0 : -9223372036854775808 ≤ n) (n9 : n ≤ 9223372036854775807) (w : World) (htab : Lib.TabIs Tryd.prog w "internal/strconv.uint64pow10" .u64 Lib.pow10Tab) : Calls Tryd.prog 5 #[.int .i64 n] w fun e w' => e = .returned (.bool true) ∧ ∃ x : Later w, w' = x.out := by
  have hp := fun v hb => print_l n n0 n9 v (Lib.tabBelow_of_tabIs htab v hb)
  by_cases hneg : n < 0
  · obtain ⟨u, rfl⟩ : ∃ u : Nat, n = -(u : Int) := ⟨n.natAbs, by omega⟩
    have e : prn (-(u : Int)) = 45 :: prU u := by unfold prn; rw [if_pos hneg]; simp
    rw [e] at hp
    obtain ⟨k, hs⟩ := prU_shape u (by omega)
    have hd : decide (-(u : Int) < 0) = true := by simp; omega
    by_cases h : u % 256 = 0
    · rw [show decide (u % 256 = 0) = true by simp [h]] at hs
      by_cases h1 : k = 1
      · exact digs_nw1 _ _ k _ _ hd rfl rfl (by omega) hs h1 w htab hp
      · exact digs_nw2 _ _ k _ _ hd rfl rfl (by omega) hs h1 w htab hp
    · rw [show decide (u % 256 = 0) = false by simp [h]] at hs
      by_cases h1 : k = 1
      · exact digs_nf1 _ _ k _ _ hd rfl rfl (by omega) hs h1 w htab hp
      · exact digs_nf2 _ _ k _ _ hd rfl rfl (by omega) hs h1 w htab hp
  · obtain ⟨u, rfl⟩ : ∃ u : Nat, n = (u : Int) := ⟨n.natAbs, by omega⟩
    have e : prn (u : Int) = prU u := by unfold prn; rw [if_neg hneg]; simp
    rw [e] at hp
    obtain ⟨k, hs⟩ := prU_shape u (by omega)
    have hd : decide ((u : Int) < 0) = false := by simp
    by_cases h : u % 256 = 0
    · rw [show decide (u % 256 = 0) = true by simp [h]] at hs
      by_cases h1 : k = 1
      · exact digs_pw1 _ _ k _ hd rfl (by omega) hs h1 w htab hp
      · exact digs_pw2 _ _ k _ hd rfl (by omega) hs h1 w htab hp
    · rw [show decide (u % 256 = 0) = false by simp [h]] at hs
      by_cases h1 : k = 1
      · exact digs_pf1 _ _ k _ hd rfl (by omega) hs h1 w htab hp
      · exact digs_pf2 _ _ k _ hd rfl (by omega) hs h1 w htab hp
end Go.Proofs.YtjmagehfkcnjjaaDoor
