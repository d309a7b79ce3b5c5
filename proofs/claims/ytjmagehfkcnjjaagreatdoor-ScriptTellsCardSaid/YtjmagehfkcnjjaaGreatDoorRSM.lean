/-
  The reference's path of a path; two paths that are the same ones.
-/
import Derived.Test.YtjmagehfkcnjjaaGreatDoorSX
import Derived.Test.YtjmagehfkcnjjaaGreatDoorKY
namespace Go.Proofs.YtjmagehfkcnjjaaGreatDoor
set_option linter.unusedVariables false
open Go.RowKit

set_option maxRecDepth 100000 in
set_option maxHeartbeats 400000 in
theorem its_c (a1 a2 : Option Addr) (n1 c1 n2 c2 : Nat) (w : World) : Calls Tryz.prog 20 #[.agg #[.slice a1 n1 c1, .slice a2 n2 c2]] w fun e w' => e = .returned (.agg #[.slice a1 n1 c1, .slice a2 n2 c2]) ∧ ∃ x : Later w, w' = x.out := by
  go_enter Tryz.func20, Tryz.ntmps20
  go_wp2_with (fail)
  exact bodyPost_ret (v := .agg #[.slice a1 n1 c1, .slice a2 n2 c2]) (by simp [results, Tryz.results20, go_sem, *]) rfl ⟨rfl, (Later.mk_of (by repeat (first | (with_reducible assumption) | (with_reducible exact Below.refl _ _) | (with_reducible refine Later.after ?_ _) | (with_reducible refine Later.newer ?_ _) | (with_reducible refine Below.drew ?_) | (with_reducible refine Below.setCell ?_ (by first | exact Nat.le_refl _ | exact Nat.le_add_right _ _ | omega | (simp [go_sem]; done) | (simp [go_sem]; omega)) _))))⟩
theorem ints_cell {w : World} {a : Option Addr} {n c : Nat} {vs : List Int} (h : IntsAt w (.slice a n c) vs) : n = vs.length ∧ n ≤ 9223372036854775807 ∧ (0 < n → ∃ b o, a = some ⟨b, o, none⟩ ∧ b < w.heap.size ∧ ∀ (i : Nat) (p : Int), vs[i]? = some p → w.cell? ⟨b, o + i, none⟩ = some (.int .i64 p)) := by
  rcases h with ⟨e, rfl⟩ | ⟨b, c', e, rfl⟩ | ⟨b, o, c', e, h1, h2, h3, h4⟩
  · cases e; exact ⟨rfl, by omega, fun h => absurd h (by omega)⟩
  · cases e; exact ⟨rfl, by omega, fun h => absurd h (by omega)⟩
  · simp only [Value.slice.injEq] at e
    obtain ⟨rfl, rfl, rfl⟩ := e
    exact ⟨rfl, by unfold maxLen at h3; omega, fun _ => ⟨b, o, rfl, h1, h4⟩⟩
theorem pts_cell {w : World} {a : Option Addr} {n c : Nat} {l : List (Int × Int)} (h : PtsAt w (.slice a n c) l) : n = l.length ∧ n ≤ 9223372036854775807 ∧ (0 < n → ∃ b o, a = some ⟨b, o, none⟩ ∧ b < w.heap.size ∧ ∀ (i : Nat) (p : Int × Int), l[i]? = some p → w.cell? ⟨b, o + i * 2, none⟩ = some (.int .i64 p.1) ∧ w.cell? ⟨b, o + i * 2 + 1, none⟩ = some (.int .i64 p.2)) := by
  rcases h with ⟨e, rfl⟩ | ⟨b, c', e, rfl⟩ | ⟨b, o, c', e, h1, h2, h3, h4⟩
  · cases e; exact ⟨rfl, by omega, fun h => absurd h (by omega)⟩
  · cases e; exact ⟨rfl, by omega, fun h => absurd h (by omega)⟩
  · simp only [Value.slice.injEq] at e
    obtain ⟨rfl, rfl, rfl⟩ := e
    exact ⟨rfl, by unfold maxLen at h3; omega, fun _ => ⟨b, o, rfl, h1, h4⟩⟩
set_option maxRecDepth 100000 in
set_option maxHeartbeats 2000000 in
theorem rsame_yes (vs : List Int) (pts : List (Int × Int)) (a1 a2 a3 a4 : Option Addr) (n1 c1 n2 c2 n3 c3 n4 c4 : Nat) (w : World) (h1 : IntsAt w (.slice a1 n1 c1) vs) (h2 : PtsAt w (.slice a2 n2 c2) pts) (h3 : IntsAt w (.slice a3 n3 c3) vs) (h4 : PtsAt w (.slice a4 n4 c4) pts) :
    Calls Tryz.prog 23 #[.agg #[.slice a1 n1 c1, .slice a2 n2 c2], .agg #[.slice a3 n3 c3, .slice a4 n4 c4]] w fun e w' => e = .returned (.bool true) ∧ ∃ x : Later w, w' = x.out := by
  obtain ⟨e1, b1, k1⟩ := ints_cell h1
  obtain ⟨e2, b2, k2⟩ := pts_cell h2
  obtain ⟨e3, b3, k3⟩ := ints_cell h3
  obtain ⟨e4, b4, k4⟩ := pts_cell h4
  obtain rfl : n1 = n3 := e1.trans e3.symm
  obtain rfl : n2 = n4 := e2.trans e4.symm
  have H1 := Lib.hid e1
  have H2 := Lib.hid e2
  have K1 := Lib.hid k1
  have K2 := Lib.hid k2
  have K3 := Lib.hid k3
  have K4 := Lib.hid k4
  clear h1 h2 h3 h4 e1 e2 e3 e4 k1 k2 k3 k4 b3 b4
  go_enter Tryz.func23, Tryz.ntmps23
  go_wp2_with (fail)
  obtain ⟨W0, hW0⟩ : ∃ W0, W0 = (w.alloc (.cells #[.slice a1 n1 c1, .slice a2 n2 c2] 35)).alloc (.cells #[.slice a3 n1 c3, .slice a4 n2 c4] 35) := ⟨_, rfl⟩
  have q1 : Blk W0 w.heap.size 35 #[.slice a1 n1 c1, .slice a2 n2 c2] := by rw [hW0]; exact (Blk.new' (by simp)).alloc _
  have q2 : Blk W0 (w.heap.size + 1) 35 #[.slice a3 n1 c3, .slice a4 n2 c4] := by rw [hW0]; exact Blk.new' (by simp)
  have q3 : Below w.heap.size w W0 := by rw [hW0]; exact ((Below.refl _ w).alloc (Nat.le_refl _) _).alloc (by simp) _
  rw [← hW0]
  have Q1 := Lib.hid q1
  have Q2 := Lib.hid q2
  have Q3 := Lib.hid q3
  clear hW0 q1 q2 q3
  go_loopw [5] (fun u wr => ∃ k : Nat, k ≤ n1 ∧ u = .int .i64 (k : Int) ∧ ∃ y : Later W0, wr = y.out) (fun u _ => n1 - (intOf u).toNat)
  case atStart => exact ⟨0, Nat.zero_le _, rfl, (Later.mk_of (by repeat (first | (with_reducible assumption) | (with_reducible exact Below.refl _ _) | (with_reducible refine Later.after ?_ _) | (with_reducible refine Later.newer ?_ _) | (with_reducible refine Below.drew ?_) | (with_reducible refine Below.setCell ?_ (by first | exact Nat.le_refl _ | exact Nat.le_add_right _ _ | omega | (simp [go_sem]; done) | (simp [go_sem]; omega)) _))))⟩
  case round =>
    obtain ⟨k, hk, rfl, y, rfl⟩ := hrel
    obtain ⟨z1, z2, z3⟩ := (Q1.out.later y).all
    obtain ⟨z4, z5, z6⟩ := (Q2.out.later y).all
    by_cases hlt : k < n1
    · have hd1 : decide ((k : Int) < (n1 : Int)) = true := by simp; exact hlt
      have hd2 : decide (k < n1) = true := by simp; exact hlt
      obtain ⟨p1, o1, rfl, l1, f1⟩ := K1.out (by omega)
      obtain ⟨p3, o3, rfl, l3, f3⟩ := K3.out (by omega)
      obtain ⟨v, hv⟩ : ∃ v, vs[k]? = some v := ⟨_, List.getElem?_eq_getElem (by rw [← H1.out]; exact hlt)⟩
      have r1 := ((Q3.out.trans (y.below.mono Q3.out.size)).cell (p := ⟨p1, o1 + k, none⟩) l1).trans (f1 k v hv)
      have r3 := ((Q3.out.trans (y.below.mono Q3.out.size)).cell (p := ⟨p3, o3 + k, none⟩) l3).trans (f3 k v hv)
      have l1' : p1 < y.out.heap.size := Nat.lt_of_lt_of_le l1 (Nat.le_trans Q3.out.size y.size_le)
      have l3' : p3 < y.out.heap.size := Nat.lt_of_lt_of_le l3 (Nat.le_trans Q3.out.size y.size_le)
      clear f1 f3
      go_wp2_with (fail)
      refine wp_region_later (by kernel_rfl) (by kernel_rfl) ?_
      repeat (go_big_quiet_step ((first | fail)))
      refine wpQuiet_nil ?_
      intro x
      go_wp2_with (fail)
      go_roundw
      case rel => exact ⟨k + 1, by omega, by go_num, (Later.mk_of (by repeat (first | (with_reducible assumption) | (with_reducible exact Below.refl _ _) | (with_reducible refine Later.after ?_ _) | (with_reducible refine Later.newer ?_ _) | (with_reducible refine Below.drew ?_) | (with_reducible refine Below.setCell ?_ (by first | exact Nat.le_refl _ | exact Nat.le_add_right _ _ | omega | (simp [go_sem]; done) | (simp [go_sem]; omega)) _))))⟩
      case measure => simp [intOf]; omega
    · obtain rfl : k = n1 := by omega
      have hd1 : decide ((k : Int) < (k : Int)) = false := by simp
      have hd2 : decide (k < k) = false := by simp
      go_wp2_with (fail)
      go_loopw [6] (fun u wr => ∃ k : Nat, k ≤ n2 ∧ u = .int .i64 (k : Int) ∧ ∃ y : Later W0, wr = y.out) (fun u _ => n2 - (intOf u).toNat)
      case atStart => exact ⟨0, Nat.zero_le _, rfl, y, rfl⟩
      case round =>
        clear z1 z2 z3 z4 z5 z6
        obtain ⟨j, hj, rfl, y2, rfl⟩ := hrel
        obtain ⟨z1, z2, z3⟩ := (Q1.out.later y2).all
        obtain ⟨z4, z5, z6⟩ := (Q2.out.later y2).all
        by_cases hlt2 : j < n2
        · have hd3 : decide ((j : Int) < (n2 : Int)) = true := by simp; exact hlt2
          have hd4 : decide (j < n2) = true := by simp; exact hlt2
          obtain ⟨p2, o2, rfl, l2, f2⟩ := K2.out (by omega)
          obtain ⟨p4, o4, rfl, l4, f4⟩ := K4.out (by omega)
          obtain ⟨⟨X, Y⟩, hv⟩ : ∃ v, pts[j]? = some v := ⟨_, List.getElem?_eq_getElem (by rw [← H2.out]; exact hlt2)⟩
          obtain ⟨g1, g2⟩ := f2 j (X, Y) hv
          obtain ⟨g3, g4⟩ := f4 j (X, Y) hv
          have r1 := ((Q3.out.trans (y2.below.mono Q3.out.size)).cell (p := ⟨p2, o2 + j * 2, none⟩) l2).trans g1
          have r2 := ((Q3.out.trans (y2.below.mono Q3.out.size)).cell (p := ⟨p2, o2 + j * 2 + 1, none⟩) l2).trans g2
          have r3 := ((Q3.out.trans (y2.below.mono Q3.out.size)).cell (p := ⟨p4, o4 + j * 2, none⟩) l4).trans g3
          have r4 := ((Q3.out.trans (y2.below.mono Q3.out.size)).cell (p := ⟨p4, o4 + j * 2 + 1, none⟩) l4).trans g4
          simp only [] at r1 r2 r3 r4
          have l2' : p2 < y2.out.heap.size := Nat.lt_of_lt_of_le l2 (Nat.le_trans Q3.out.size y2.size_le)
          have l4' : p4 < y2.out.heap.size := Nat.lt_of_lt_of_le l4 (Nat.le_trans Q3.out.size y2.size_le)
          clear f2 f4 g1 g2 g3 g4
          go_wp2_with (fail)
          refine wp_region_later (by kernel_rfl) (by kernel_rfl) ?_
          repeat (go_big_quiet_step ((first | fail)))
          refine wpQuiet_nil ?_
          intro x
          go_wp2_with (fail)
          go_roundw
          case rel => exact ⟨j + 1, by omega, by go_num, (Later.mk_of (by repeat (first | (with_reducible assumption) | (with_reducible exact Below.refl _ _) | (with_reducible refine Later.after ?_ _) | (with_reducible refine Later.newer ?_ _) | (with_reducible refine Below.drew ?_) | (with_reducible refine Below.setCell ?_ (by first | exact Nat.le_refl _ | exact Nat.le_add_right _ _ | omega | (simp [go_sem]; done) | (simp [go_sem]; omega)) _))))⟩
          case measure => simp [intOf]; omega
        · obtain rfl : j = n2 := by omega
          have hd3 : decide ((j : Int) < (j : Int)) = false := by simp
          have hd4 : decide (j < j) = false := by simp
          have hb := Q3.out
          go_wp2_with (fail)
          exact bodyPost_ret (v := .bool true) (by simp [results, Tryz.results23, go_sem, *]) rfl ⟨rfl, (Later.mk_of (by repeat (first | (with_reducible assumption) | (with_reducible exact Below.refl _ _) | (with_reducible refine Later.after ?_ _) | (with_reducible refine Later.newer ?_ _) | (with_reducible refine Below.drew ?_) | (with_reducible refine Below.setCell ?_ (by first | exact Nat.le_refl _ | exact Nat.le_add_right _ _ | omega | (simp [go_sem]; done) | (simp [go_sem]; omega)) _))))⟩
end Go.Proofs.YtjmagehfkcnjjaaGreatDoor
