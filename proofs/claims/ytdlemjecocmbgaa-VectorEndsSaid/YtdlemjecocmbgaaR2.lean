/-
  The contract of the root, and of the layer's calls.
-/
import Derived.Test.YtdlemjecocmbgaaR1
import Derived.Test.YtdlemjecocmbgaaMid
namespace Go.Proofs.Ytdlemjecocmbgaa
set_option linter.unusedVariables false
open Go.RowKit Go.Shelf

theorem and63 : ∀ k : Fin 64, bits .and .i64 ((k.val : Nat) : Int) 63 = ((k.val : Nat) : Int) := by decide +kernel


/-- the guesses, for any loop's body that keeps what lay below n₀ -/
theorem guess_stops (hi lo r : Int) (Bh Bl : Nat) (w : World) (hhi0 : 0 ≤ hi) (hhi1 : hi ≤ 18446744073709551615) (hlo0 : 0 ≤ lo) (hlo1 : lo ≤ 18446744073709551615) (HR : IsRoot (hi * 18446744073709551616 + lo) r) (hr1 : 1 ≤ r)
    (hB0 : Bh < w.heap.size) (hB1 : Bl < w.heap.size) (c0 : w.cell? ⟨Bh, 0, none⟩ = some (.int .u64 hi)) (c1 : w.cell? ⟨Bl, 0, none⟩ = some (.int .u64 lo)) :
    ∃ N, SeqStopsK Fence.wide 3 Try.prog 71 #[.pointer (some ⟨Bh, 0, none⟩), .pointer (some ⟨Bl, 0, none⟩)] (fun x : Int => #[.int .u64 x]) (Same2 Bh Bl) (fun xs => ∃ pre, xs = pre ++ [r]) (fun _ => True) N w := by
  have hlz : ∀ w', Calls Try.prog 72 #[.int .u64 hi] w' fun e w'' => e = .returned (.int .i64 (64 - (Lib.bitLen hi.toNat : Int))) ∧ w' = w'' := fun w' =>
    (Try.bits_LeadingZeros64 hi w' hhi0 hhi1).mono fun e w'' ⟨he, hw⟩ => ⟨he, hw.symm⟩
  have hln : ∀ w', Calls Try.prog 73 #[.int .u64 lo] w' fun e w'' => e = .returned (.int .i64 (Lib.bitLen lo.toNat)) ∧ w' = w'' := fun w' =>
    (Try.bits_Len64 lo w' hlo0 hlo1).mono fun e w'' ⟨he, hw⟩ => ⟨he, hw.symm⟩
  obtain ⟨HI, rfl⟩ := Int.eq_ofNat_of_zero_le hhi0
  obtain ⟨LO, rfl⟩ := Int.eq_ofNat_of_zero_le hlo0
  simp only [Int.toNat_natCast] at hlz hln
  have bh := Lib.bitLen_le HI 64 (by omega) (by simpa using (show HI < 18446744073709551616 by omega))
  -- a power of two above the root
  have pw : ∀ k : Nat, k ≤ 63 → ((HI : Int) * 18446744073709551616 + LO < (2 ^ k : Nat) * (2 ^ k : Nat)) → r ≤ (2 : Int) ^ k ∧ 1 ≤ (2 : Int) ^ k ∧ (2 : Int) ^ k ≤ 18446744073709551615 ∧ IntKind.u64.wrap (IntKind.u64.wrap (2 ^ k)) = (2 : Int) ^ k := by
    intro k hk hN
    have e : (2 : Int) ^ k = ((2 ^ k : Nat) : Int) := by rw [Int.natCast_pow]; rfl
    have p := Nat.two_pow_pos k
    have q : 2 ^ k ≤ 2 ^ 63 := Nat.pow_le_pow_right (by omega) hk
    have rl := root_lt HR ((2 ^ k : Nat) : Int) (Int.natCast_nonneg _) hN
    rw [e]
    generalize 2 ^ k = t at *
    refine ⟨by omega, by omega, by omega, ?_⟩
    rw [IntWalk.u64_in (t : Int) (by omega), IntWalk.u64_in (t : Int) (by omega)]
  have sq : ∀ (v n : Nat), v < 2 ^ n → v < 2 ^ ((n + 1) / 2) * 2 ^ ((n + 1) / 2) := fun v n h => by
    rw [← Nat.pow_add]
    exact Nat.lt_of_lt_of_le h (Nat.pow_le_pow_right (by omega) (by omega))
  by_cases hz : HI = 0
  · have hl0 : LO ≠ 0 := fun e => by
      have := HR.le
      have := Int.mul_le_mul hr1 hr1 (by omega) (by omega : (0 : Int) ≤ r)
      omega
    obtain ⟨k, e, a, b⟩ := bitLen_is LO LO (Nat.le_refl _) hl0 (by simpa using (show LO < 18446744073709551616 by omega))
    have k1 : k ≤ 63 := by
      rcases Nat.lt_or_ge 63 k with h | h
      · have : 2 ^ 64 ≤ 2 ^ k := Nat.pow_le_pow_right (by omega) (by omega)
        omega
      · exact h
    have s := sq LO (k + 1) b
    obtain ⟨x1, x2, x3, x4⟩ := pw ((k + 1 + 1) / 2) (by omega) (by rw [hz, ← Int.natCast_mul]; omega)
    refine ⟨((2 : Int) ^ ((k + 1 + 1) / 2)).toNat + 1, fun l J Jx W hW hJ hJx hY h0 => ?_⟩
    rw [e] at hln
    refine (guess_c _ _ r _ _ _ ((k + 1 : Nat) : Int) ((k + 1 + 1) / 2) Bh Bl l J Jx _ hlz hln (by omega) (by omega) (by simp [hz]) rfl (by omega) (and63 ⟨_, by omega⟩) (by omega) (by omega) (by omega) (by omega) x4 (by omega) hlo0 hlo1 (Lib.hid HR) hr1 x1 x2 x3 (Lib.hid (by simp))
      (fun s A B h hg => hJ s A B none h hg (fun r e => by cases e)) hY W ((hW.cell (p := ⟨Bh, 0, none⟩) (by simpa using hB0)).trans c0) ((hW.cell (p := ⟨Bl, 0, none⟩) (by simpa using hB1)).trans c1) h0).mono fun e W' ⟨hv, hh⟩ => ⟨hv, hh.imp id (fun ⟨pre, h⟩ => ⟨pre, trivial, h⟩)⟩
  · obtain ⟨k, e, a, b⟩ := bitLen_is HI HI (Nat.le_refl _) hz (by simpa using (show HI < 18446744073709551616 by omega))
    have k1 : k ≤ 63 := by
      rcases Nat.lt_or_ge 63 k with h | h
      · have : 2 ^ 64 ≤ 2 ^ k := Nat.pow_le_pow_right (by omega) (by omega)
        omega
      · exact h
    rw [e] at hlz
    by_cases hbig : 127 ≤ 64 + (k + 1)
    · have rl := root_lt HR 18446744073709551616 (by omega) (by omega)
      refine ⟨(18446744073709551615 : Int).toNat + 1, fun l J Jx W hW hJ hJx hY h0 => ?_⟩
      have hk : k = 62 ∨ k = 63 := by omega
      rcases hk with rfl | rfl
      · refine (guess_b1 _ _ r _ _ _ 0 0 Bh Bl l J Jx _ hlz hln (by omega) (by omega) (by simp; omega) (by omega) rfl (by omega) hlo0 hlo1 (Lib.hid HR) hr1 (by omega) (by omega) (by omega) (Lib.hid (by simp))
          (fun s A B h hg => hJ s A B none h hg (fun r e => by cases e)) hY W ((hW.cell (p := ⟨Bh, 0, none⟩) (by simpa using hB0)).trans c0) ((hW.cell (p := ⟨Bl, 0, none⟩) (by simpa using hB1)).trans c1) h0).mono fun e W' ⟨hv, hh⟩ => ⟨hv, hh.imp id (fun ⟨pre, h⟩ => ⟨pre, trivial, h⟩)⟩
      · refine (guess_b2 _ _ r _ _ _ 0 0 Bh Bl l J Jx _ hlz hln (by omega) (by omega) (by simp; omega) (by omega) rfl (by omega) hlo0 hlo1 (Lib.hid HR) hr1 (by omega) (by omega) (by omega) (Lib.hid (by simp))
          (fun s A B h hg => hJ s A B none h hg (fun r e => by cases e)) hY W ((hW.cell (p := ⟨Bh, 0, none⟩) (by simpa using hB0)).trans c0) ((hW.cell (p := ⟨Bl, 0, none⟩) (by simpa using hB1)).trans c1) h0).mono fun e W' ⟨hv, hh⟩ => ⟨hv, hh.imp id (fun ⟨pre, h⟩ => ⟨pre, trivial, h⟩)⟩
    · have hv : HI * 18446744073709551616 + LO < 2 ^ (64 + (k + 1)) := by
        rw [Nat.pow_add]
        have : 2 ^ 64 = 18446744073709551616 := by decide
        rw [this]
        omega
      have s := sq _ _ hv
      obtain ⟨x1, x2, x3, x4⟩ := pw ((64 + (k + 1) + 1) / 2) (by omega) (by rw [← Int.natCast_mul]; omega)
      refine ⟨((2 : Int) ^ ((64 + (k + 1) + 1) / 2)).toNat + 1, fun l J Jx W hW hJ hJx hY h0 => ?_⟩
      refine (guess_a _ _ r _ _ _ ((64 + (k + 1) : Nat) : Int) ((64 + (k + 1) + 1) / 2) Bh Bl l J Jx _ hlz hln (by omega) (by omega) (by simp; omega) (by omega) (by omega) (and63 ⟨_, by omega⟩) (by omega) (by omega) (by omega) (by omega) x4 (by omega) hlo0 hlo1 (Lib.hid HR) hr1 x1 x2 x3 (Lib.hid (by simp))
        (fun s A B h hg => hJ s A B none h hg (fun r e => by cases e)) hY W ((hW.cell (p := ⟨Bh, 0, none⟩) (by simpa using hB0)).trans c0) ((hW.cell (p := ⟨Bl, 0, none⟩) (by simpa using hB1)).trans c1) h0).mono fun e W' ⟨hv, hh⟩ => ⟨hv, hh.imp id (fun ⟨pre, h⟩ => ⟨pre, trivial, h⟩)⟩

set_option maxHeartbeats 400000 in
theorem guesses_c (hi lo : Int) (w : World) :
    Calls Try.prog 64 #[.int .u64 hi, .int .u64 lo] w fun e w' => e = .returned (.func (.func 71) #[] #[.pointer (some ⟨w.heap.size, 0, none⟩), .pointer (some ⟨w.heap.size + 1, 0, none⟩)]) ∧
      (w.alloc (.cells #[.int .u64 hi] 48)).alloc (.cells #[.int .u64 lo] 48) = w' := by
  go_enter Try.func64, Try.ntmps64
  go_wp2
  go_ret
  exact ⟨rfl, rfl⟩

set_option maxHeartbeats 400000 in
theorem root_zero (w : World) : Calls Try.prog 55 #[.int .u64 0, .int .u64 0] w fun e w' => e = .returned (.int .u64 0) ∧ ∃ x : Later w, w' = x.out := by
  go_enter Try.func55, Try.ntmps55
  go_wp2
  exact bodyPost_ret (v := .int .u64 0) (by simp [results, Try.results55, go_sem, *]) rfl ⟨rfl, (Later.mk_of (by repeat (first | (with_reducible assumption) | (with_reducible exact Below.refl _ _) | (with_reducible refine Later.after ?_ _) | (with_reducible refine Later.newer ?_ _) | (with_reducible refine Below.drew ?_) | (with_reducible refine Below.setCell ?_ (by first | exact Nat.le_refl _ | exact Nat.le_add_right _ _ | omega | (simp [go_sem]; done) | (simp [go_sem]; omega)) _))))⟩

attribute [local go_sem] Oper.semAt_some

set_option maxRecDepth 100000 in
set_option maxHeartbeats 1000000 in
theorem root_pos (hi lo r : Int) (w : World) (hhi0 : 0 ≤ hi) (hhi1 : hi ≤ 18446744073709551615) (hlo0 : 0 ≤ lo) (hlo1 : lo ≤ 18446744073709551615) (HR : IsRoot (hi * 18446744073709551616 + lo) r) (hr1 : 1 ≤ r) (hne : (hi == 0) = false ∨ (hi == 0) = true ∧ (lo == 0) = false) :
    Calls Try.prog 55 #[.int .u64 hi, .int .u64 lo] w fun e w' => e = .returned (.int .u64 r) ∧ ∃ x : Later w, w' = x.out := by
  refine (callsIn_wide (n := 4)).1 ?_
  have H1 := Lib.hid hhi1
  have H3 := Lib.hid hlo1
  have HRR := Lib.hid HR
  clear hhi1 hlo1 HR
  refine callsIn_of_wp_marks Try.func55 rfl trivial ?_ rfl
  simp only [Try.ntmps55, List.size_toArray, List.length_cons, List.length_nil, Nat.reduceAdd, Nat.reduceSub, Array.replicate_succ, Array.replicate_zero, List.push_toArray, List.append_toArray, List.nil_append, List.cons_append]
  rcases hne with hne | ⟨hne, hne2⟩
  all_goals
    gi_wp2_with (first | (refine ⟨trivial, ?_⟩; gi_at_call 64; refine (callsIn_wide.2 (guesses_c _ _ _)).mono ?_; rintro e _ ⟨rfl, rfl⟩))
    obtain ⟨N, hst⟩ := guess_stops hi lo r (w.heap.size + 1) (w.heap.size + 1 + 1) (((w.alloc (.cells #[.int .u64 0] 48)).alloc (.cells #[.int .u64 hi] 48)).alloc (.cells #[.int .u64 lo] 48)) hhi0 H1.out hlo0 H3.out HRR.out hr1 (by simp) (by simp) (by simp [go_sem]) (by simp [go_sem])
    refine wpIn_rangeFunc_mid rfl (by omega) (gf := 71) rfl trivial (enters_of Try.func71 (by kernel_rfl) rfl) hst (fun h k => h.trans k)
      (fun W l o o' hl h _ _ => ⟨World.putObj_heap_other (by simp at hl; omega), World.putObj_heap_other (by simp at hl; omega)⟩) (Below.refl _ _) (fun _ => rfl)
      (fun pre W => (∃ v, W.cell? ⟨w.heap.size, 0, none⟩ = some (.int .u64 v) ∧ ∀ p x, pre = p ++ [x] → v = x) ∧ W.frozen? ⟨w.heap.size, 0, none⟩ = false ∧ Below w.heap.size w W)
      ?own ?start
      (fun pre x a' W => W.cell? ⟨w.heap.size, 0, none⟩ = some (.int .u64 x) ∧ W.frozen? ⟨w.heap.size, 0, none⟩ = false ∧ Below w.heap.size w W)
      ?ownM ?assign ?body ?done
    case own =>
      intro s A B row ⟨⟨v, hv, hs⟩, hf, hb⟩ hg hr
      have hr' : ∀ r, row = some r → ∃ o : Obj, A.heap[r]? = some o ∧ o.isCells = false := fun r e => (hr r e).2
      exact ⟨⟨v, cell_kept hv hg hr', hs⟩, (frozen_kept hv hg hr').trans hf, hb.grown hg hb.size (fun k e => by have := (hr k e).1; simp at this; omega)⟩
    case start => exact ⟨⟨0, by simp [go_sem], fun p x e => by simp at e⟩, by simp [go_sem], (((Below.refl _ w).alloc (Nat.le_refl _) _).alloc (by simp) _).alloc (by simp; omega) _⟩
    case ownM =>
      intro pre x a' s A B row ⟨hv, hf, hb⟩ hg hr
      have hr' : ∀ r, row = some r → ∃ o : Obj, A.heap[r]? = some o ∧ o.isCells = false := fun r e => (hr r e).2
      exact ⟨cell_kept hv hg hr', (frozen_kept hv hg hr').trans hf, hb.grown hg hb.size (fun k e => by have := (hr k e).1; simp at this; omega)⟩
    case assign =>
      rintro l pre x W K ⟨⟨v, hv, hs⟩, hf, hb⟩ hK
      have HK := Lib.hid hK
      have HB := Lib.hid hb
      clear hK hb hs
      gi_wp2
      refine HK.out _ _ ((KeepsOthers.setCell W ⟨w.heap.size, 0, none⟩ _).from _) ⟨Below.heap_setCell W _ _ _ (by simp), Below.heap_setCell W _ _ _ (by simp; omega)⟩ ⟨?_, ?_, ?_⟩
      · rw [cell_set_same, hv]; rfl
      · rw [World.frozen?_setCell]; exact hf
      · exact HB.out.setCell (p := ⟨w.heap.size, 0, none⟩) (Nat.le_refl _) _
    case body =>
      rintro l pre x a' W ⟨hv, hf, hb⟩ _
      have HB := Lib.hid hb
      clear hb
      gi_wp2
      exact ⟨KeepsFrom.refl _ _, ⟨rfl, rfl⟩, ⟨x, hv, fun p y e => (List.append_inj_right' e rfl |> List.cons.inj |>.1)⟩, hf, HB.out⟩
    case done =>
      rintro D ys W hD ⟨p, hp⟩ ⟨⟨v, hv, hs⟩, hf, hb⟩ hK
      obtain rfl := hs p r hp
      have HB := Lib.hid hb
      clear hb hs
      gi_wp2
      have hK' := (KeepsOthers.setCell W ⟨w.heap.size, 0, none⟩ (.int .u64 v)).same D _ hK rfl
      refine ⟨by simp, .inl ⟨_, _, rfl, run_takeDeferred hK', ?_⟩⟩
      have hc5 := cell_kept (by rw [cell_set_same, hv]; rfl : (W.setCell ⟨w.heap.size, 0, none⟩ (.int .u64 v)).cell? ⟨w.heap.size, 0, none⟩ = some (.int .u64 v)) (grownBy_putObj' _ D (.deferred none)) (fun r e => by cases e; exact ⟨_, hK', rfl⟩)
      refine ⟨.int .u64 v, ?_, rfl, Later.mk_of ((HB.out.setCell (p := ⟨w.heap.size, 0, none⟩) (Nat.le_refl _) _).trans (belowK_b (w := w) (Nat.le_refl _) _ D _ _ (by simp at hD; omega) hK' rfl rfl))⟩
      simp [results, Try.func55, go_sem, hc5]
end Go.Proofs.Ytdlemjecocmbgaa
