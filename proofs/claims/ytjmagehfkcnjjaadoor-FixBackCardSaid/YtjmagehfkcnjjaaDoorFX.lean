/-
  What is printed is parsed back: walked.
-/
import Derived.Test.YtjmagehfkcnjjaaDoorFR
namespace Go.Proofs.YtjmagehfkcnjjaaDoor
set_option linter.unusedVariables false
open Go.RowKit Go.Sort

set_option maxRecDepth 100000 in
set_option maxHeartbeats 1000000 in
theorem back_f1 (n a b : Int) (h : 1099511627776 < n) (w : World) (htab : Lib.TabIs Tryd.prog w "internal/strconv.uint64pow10" .u64 Lib.pow10Tab) : Calls Tryd.prog 4 #[.int .i64 n, .int .u8 a, .int .u8 b] w fun e w' => e = .returned (.bool true) ∧ ∃ x : Later w, w' = x.out := by
  have hs := fun v hb => shown_3 v (Lib.tabBelow_of_tabIs htab v hb)
  have HS := Lib.hid hs
  clear hs htab
  have d1 : decide (1099511627776 < n) = true := by simp; omega
  go_enter Tryd.func4, Tryd.ntmps4
  go_wp2_with (go_at_call 9; (with_reducible refine (HS.out _ (Below.refl _ _)).mono ?_); rintro e _ ⟨rfl, x, rfl⟩)
  exact bodyPost_ret (v := .bool true) (by simp [results, Tryd.results4, go_sem, *]) rfl ⟨rfl, (Later.mk_of (by repeat (first | (with_reducible assumption) | (with_reducible exact Below.refl _ _) | (with_reducible refine Later.after ?_ _) | (with_reducible refine Later.newer ?_ _) | (with_reducible refine Below.drew ?_) | (with_reducible refine Below.setCell ?_ (by first | exact Nat.le_refl _ | exact Nat.le_add_right _ _ | omega | (simp [go_sem]; done) | (simp [go_sem]; omega)) _))))⟩

set_option maxRecDepth 100000 in
set_option maxHeartbeats 1000000 in
theorem back_f2 (n a b : Int) (h : n < -1099511627776) (w : World) (htab : Lib.TabIs Tryd.prog w "internal/strconv.uint64pow10" .u64 Lib.pow10Tab) : Calls Tryd.prog 4 #[.int .i64 n, .int .u8 a, .int .u8 b] w fun e w' => e = .returned (.bool true) ∧ ∃ x : Later w, w' = x.out := by
  have hs := fun v hb => shown_3 v (Lib.tabBelow_of_tabIs htab v hb)
  have HS := Lib.hid hs
  clear hs htab
  have d1 : decide (1099511627776 < n) = false := by simp; omega
  have d2 : decide (n < -1099511627776) = true := by simp; omega
  go_enter Tryd.func4, Tryd.ntmps4
  go_wp2_with (go_at_call 9; (with_reducible refine (HS.out _ (Below.refl _ _)).mono ?_); rintro e _ ⟨rfl, x, rfl⟩)
  exact bodyPost_ret (v := .bool true) (by simp [results, Tryd.results4, go_sem, *]) rfl ⟨rfl, (Later.mk_of (by repeat (first | (with_reducible assumption) | (with_reducible exact Below.refl _ _) | (with_reducible refine Later.after ?_ _) | (with_reducible refine Later.newer ?_ _) | (with_reducible refine Below.drew ?_) | (with_reducible refine Below.setCell ?_ (by first | exact Nat.le_refl _ | exact Nat.le_add_right _ _ | omega | (simp [go_sem]; done) | (simp [go_sem]; omega)) _))))⟩

theorem back_walk (n a b : Int) (a0 : 0 ≤ a) (a9 : a ≤ 255) (b0 : 0 ≤ b) (b9 : b ≤ 255) (w : World) (htab : Lib.TabIs Tryd.prog w "internal/strconv.uint64pow10" .u64 Lib.pow10Tab) : Calls Tryd.prog 4 #[.int .i64 n, .int .u8 a, .int .u8 b] w fun e w' => e = .returned (.bool true) ∧ ∃ x : Later w, w' = x.out := by
  by_cases h1 : 1099511627776 < n
  · exact back_f1 n a b h1 w htab
  by_cases h2 : n < -1099511627776
  · exact back_f2 n a b h2 w htab
  have n0 : -1099511627776 ≤ n := by omega
  have n9 : n ≤ 1099511627776 := by omega
  obtain ⟨ka, hka⟩ : ∃ k : Nat, a % 4 = (k : Int) := ⟨(a % 4).toNat, by omega⟩
  obtain ⟨kb, hkb⟩ : ∃ k : Nat, b % 4 = (k : Int) := ⟨(b % 4).toNat, by omega⟩
  have hl := prn_len n (by omega) (by omega)
  have hpr : ps (prn n) = some n := by
    rw [prn_nrt]
    have := ps_nrt n.natAbs 0 0 (decide (n < 0)) (by omega) (by omega) (by omega)
    rw [this]
    by_cases h : n < 0
    · rw [if_pos (by simp [h])]; congr 1; omega
    · rw [if_neg (by simp [h])]; congr 1; omega
  by_cases hneg : n < 0
  · obtain ⟨u, rfl⟩ : ∃ u : Nat, n = -(u : Int) := ⟨n.natAbs, by omega⟩
    have hpu : (prn (-(u : Int))).drop 1 = prU u := by unfold prn; rw [if_pos hneg]; simp
    by_cases hf : u % 256 = 0
    · skip
      have hn : nrt u ka kb = List.replicate ka 48 ++ (prU u ++ []) := by unfold nrt; rw [if_pos (by omega)]
      have hp := ps_nrt u ka kb true (by omega) (by omega) (by omega)
      rw [hn] at hp
      rw [if_pos rfl, if_pos rfl] at hp
      refine back_n0 _ a b ka ⟨(prn _).toArray⟩ ⟨(List.replicate ka 48).toArray⟩  n0 n9 (by simp; omega) a0 a9 b0 b9 hka  (by rw [ba_size]; exact hl.1) (by rw [ba_size]; exact hl.2) (by rw [ba_size, List.length_replicate]; omega)  (by omega) w htab
        (fun v hb => print_l _ (by omega) (by omega) v (Lib.tabBelow_of_tabIs htab v hb)) (fun v => ?_) (fun v => noughts_c ka (by omega) v)  (fun v => ?_)
      · have h := parse_l (prn (-(u : Int))) v
        rw [(ps_some hpr).1, (ps_some hpr).2] at h
        exact h
      · have h := parse_l ([45] ++ (List.replicate ka 48 ++ (prU u ++ []))) v
        rw [(ps_some hp).1, (ps_some hp).2] at h
        have e : ((⟨#[45]⟩ : ByteArray) ++ ⟨(List.replicate ka 48).toArray⟩ ++ ((⟨(prn (-(u : Int))).toArray⟩ : ByteArray).extract 1 (⟨(prn (-(u : Int))).toArray⟩ : ByteArray).size)) = ⟨([45] ++ (List.replicate ka 48 ++ (prU u ++ []))).toArray⟩ := by
          rw [ba_drop, hpu]
          show ((⟨([45] : List UInt8).toArray⟩ : ByteArray) ++ _ ++ _) = _
          rw [ba_app, ba_app]
          congr 2
          simp
        rw [e]
        exact h
    · skip
      have hn : nrt u ka kb = List.replicate ka 48 ++ (prU u ++ List.replicate kb 48) := by unfold nrt; rw [if_neg (by omega)]
      have hp := ps_nrt u ka kb true (by omega) (by omega) (by omega)
      rw [hn] at hp
      rw [if_pos rfl, if_pos rfl] at hp
      refine back_n1 _ a b ka kb ⟨(prn _).toArray⟩ ⟨(List.replicate ka 48).toArray⟩ ⟨(List.replicate kb 48).toArray⟩ n0 n9 (by simp; omega) a0 a9 b0 b9 hka hkb (by rw [ba_size]; exact hl.1) (by rw [ba_size]; exact hl.2) (by rw [ba_size, List.length_replicate]; omega) (by rw [ba_size, List.length_replicate]; omega) (by omega) w htab
        (fun v hb => print_l _ (by omega) (by omega) v (Lib.tabBelow_of_tabIs htab v hb)) (fun v => ?_) (fun v => noughts_c ka (by omega) v) (fun v => noughts_c kb (by omega) v) (fun v => ?_)
      · have h := parse_l (prn (-(u : Int))) v
        rw [(ps_some hpr).1, (ps_some hpr).2] at h
        exact h
      · have h := parse_l ([45] ++ (List.replicate ka 48 ++ (prU u ++ List.replicate kb 48))) v
        rw [(ps_some hp).1, (ps_some hp).2] at h
        have e : ((⟨#[45]⟩ : ByteArray) ++ ⟨(List.replicate ka 48).toArray⟩ ++ ((⟨(prn (-(u : Int))).toArray⟩ : ByteArray).extract 1 (⟨(prn (-(u : Int))).toArray⟩ : ByteArray).size) ++ ⟨(List.replicate kb 48).toArray⟩) = ⟨([45] ++ (List.replicate ka 48 ++ (prU u ++ List.replicate kb 48))).toArray⟩ := by
          rw [ba_drop, hpu]
          show ((⟨([45] : List UInt8).toArray⟩ : ByteArray) ++ _ ++ _ ++ _) = _
          rw [ba_app, ba_app, ba_app]
          congr 2
          simp
        rw [e]
        exact h
  · obtain ⟨u, rfl⟩ : ∃ u : Nat, n = (u : Int) := ⟨n.natAbs, by omega⟩
    have hpu : prn (u : Int) = prU u := by unfold prn; rw [if_neg hneg]; simp
    by_cases hf : u % 256 = 0
    · skip
      have hn : nrt u ka kb = List.replicate ka 48 ++ (prU u ++ []) := by unfold nrt; rw [if_pos (by omega)]
      have hp := ps_nrt u ka kb false (by omega) (by omega) (by omega)
      rw [hn] at hp
      rw [if_neg (by decide), if_neg (by decide)] at hp
      refine back_p0 _ a b ka ⟨(prn _).toArray⟩ ⟨(List.replicate ka 48).toArray⟩  n0 n9 (by simp) a0 a9 b0 b9 hka  (by rw [ba_size]; exact hl.1) (by rw [ba_size]; exact hl.2) (by rw [ba_size, List.length_replicate]; omega)  (by omega) w htab
        (fun v hb => print_l _ (by omega) (by omega) v (Lib.tabBelow_of_tabIs htab v hb)) (fun v => ?_) (fun v => noughts_c ka (by omega) v)  (fun v => ?_)
      · have h := parse_l (prn (u : Int)) v
        rw [(ps_some hpr).1, (ps_some hpr).2] at h
        exact h
      · have h := parse_l ([] ++ (List.replicate ka 48 ++ (prU u ++ []))) v
        rw [(ps_some hp).1, (ps_some hp).2] at h
        have e : ((⟨#[]⟩ : ByteArray) ++ ⟨(List.replicate ka 48).toArray⟩ ++ ⟨(prn (u : Int)).toArray⟩) = ⟨([] ++ (List.replicate ka 48 ++ (prU u ++ []))).toArray⟩ := by
          rw [hpu]
          show ((⟨([] : List UInt8).toArray⟩ : ByteArray) ++ _ ++ _) = _
          rw [ba_app, ba_app]
          congr 2
          simp
        rw [e]
        exact h
    · skip
      have hn : nrt u ka kb = List.replicate ka 48 ++ (prU u ++ List.replicate kb 48) := by unfold nrt; rw [if_neg (by omega)]
      have hp := ps_nrt u ka kb false (by omega) (by omega) (by omega)
      rw [hn] at hp
      rw [if_neg (by decide), if_neg (by decide)] at hp
      refine back_p1 _ a b ka kb ⟨(prn _).toArray⟩ ⟨(List.replicate ka 48).toArray⟩ ⟨(List.replicate kb 48).toArray⟩ n0 n9 (by simp) a0 a9 b0 b9 hka hkb (by rw [ba_size]; exact hl.1) (by rw [ba_size]; exact hl.2) (by rw [ba_size, List.length_replicate]; omega) (by rw [ba_size, List.length_replicate]; omega) (by omega) w htab
        (fun v hb => print_l _ (by omega) (by omega) v (Lib.tabBelow_of_tabIs htab v hb)) (fun v => ?_) (fun v => noughts_c ka (by omega) v) (fun v => noughts_c kb (by omega) v) (fun v => ?_)
      · have h := parse_l (prn (u : Int)) v
        rw [(ps_some hpr).1, (ps_some hpr).2] at h
        exact h
      · have h := parse_l ([] ++ (List.replicate ka 48 ++ (prU u ++ List.replicate kb 48))) v
        rw [(ps_some hp).1, (ps_some hp).2] at h
        have e : ((⟨#[]⟩ : ByteArray) ++ ⟨(List.replicate ka 48).toArray⟩ ++ ⟨(prn (u : Int)).toArray⟩ ++ ⟨(List.replicate kb 48).toArray⟩) = ⟨([] ++ (List.replicate ka 48 ++ (prU u ++ List.replicate kb 48))).toArray⟩ := by
          rw [hpu]
          show ((⟨([] : List UInt8).toArray⟩ : ByteArray) ++ _ ++ _ ++ _) = _
          rw [ba_app, ba_app, ba_app]
          congr 2
          simp
        rw [e]
        exact h
end Go.Proofs.YtjmagehfkcnjjaaDoor
