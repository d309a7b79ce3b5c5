/-
  The halves of a segment that waits.
-/
import Derived.Test.YtcdnekhpeghkiaaKD
namespace Go.Proofs.Ytcdnekhpeghkiaa
set_option linter.unusedVariables false
open Go.RowKit


set_option maxRecDepth 100000 in
set_option maxHeartbeats 2000000 in
theorem whalves_c (x0 x1 x2 x3 x4 x5 x6 x7 x8 a0 a1 a2 a3 a4 a5 a6 a7 a8 b0 b1 b2 b3 b4 b5 b6 b7 b8 k : Int) (w : World) (k0 : 0 ≤ k) (k9 : k ≤ 1000)
    (c1 : ∀ w', Calls Try.prog 52 #[.agg #[.int .i64 x0, .int .i64 x1, .int .i64 x2, .int .i64 x3, .int .i64 x4, .int .i64 x5, .int .i64 x6, .int .i64 x7, .int .i64 x8]] w' fun e w'' => e = .returned (.tuple #[.agg #[.int .i64 a0, .int .i64 a1, .int .i64 a2, .int .i64 a3, .int .i64 a4, .int .i64 a5, .int .i64 a6, .int .i64 a7, .int .i64 a8], .agg #[.int .i64 b0, .int .i64 b1, .int .i64 b2, .int .i64 b3, .int .i64 b4, .int .i64 b5, .int .i64 b6, .int .i64 b7, .int .i64 b8]]) ∧ ∃ x : Later w', w'' = x.out) :
    Calls Try.prog 34 #[.agg #[.int .i64 x0, .int .i64 x1, .int .i64 x2, .int .i64 x3, .int .i64 x4, .int .i64 x5, .int .i64 x6, .int .i64 x7, .int .i64 x8, .int .i64 k]] w fun e w' => e = .returned (.tuple #[.agg #[.int .i64 b0, .int .i64 b1, .int .i64 b2, .int .i64 b3, .int .i64 b4, .int .i64 b5, .int .i64 b6, .int .i64 b7, .int .i64 b8, .int .i64 (k + 1)], .agg #[.int .i64 a0, .int .i64 a1, .int .i64 a2, .int .i64 a3, .int .i64 a4, .int .i64 a5, .int .i64 a6, .int .i64 a7, .int .i64 a8, .int .i64 (k + 1)]]) ∧ ∃ x : Later w, w' = x.out := by
  have Hc1 := Lib.hid c1; clear c1
  have ek : IntKind.i64.wrap (k + 1) = k + 1 := IntWalk.i64_in _ (by omega)
  go_enter Try.func34, Try.ntmps34
  go_wp2_with (first | (go_at_call 52; (with_reducible refine (Hc1.out _).mono ?_); rintro e _ ⟨rfl, x, rfl⟩))
  have hxs : w.heap.size + 3 ≤ x.out.heap.size := by have := x.size_le; simp at this; omega
  have l0 : w.heap.size < x.out.heap.size := by omega
  have e5 : (w.heap.size == w.heap.size + 1) = false := by simp
  have e6 : (w.heap.size == w.heap.size + 1 + 1) = false := by simp; omega
  have e1 : (x.out.heap.size == w.heap.size + 1) = false := by simp; omega
  have e2 : (x.out.heap.size == w.heap.size + 1 + 1) = false := by simp; omega
  have e3 : (x.out.heap.size + 1 == w.heap.size + 1) = false := by simp; omega
  have e4 : (x.out.heap.size + 1 == w.heap.size + 1 + 1) = false := by simp; omega
  refine wp_region_stores [0, 1, 2, 3, 4, 5, 6, 7, 8, 9, 10, 11] [w.heap.size + 1, w.heap.size + 1 + 1]
    (fun i => if i = 10 then some ⟨w.heap.size + 1, .pointer (some ⟨w.heap.size + 1, 0, none⟩), .agg #[.int .i64 b0, .int .i64 b1, .int .i64 b2, .int .i64 b3, .int .i64 b4, .int .i64 b5, .int .i64 b6, .int .i64 b7, .int .i64 b8, .int .i64 (k + 1)], .cells #[.int .i64 0, .int .i64 0, .int .i64 0, .int .i64 0, .int .i64 0, .int .i64 0, .int .i64 0, .int .i64 0, .int .i64 0, .int .i64 0] 73, .cells #[.int .i64 b0, .int .i64 b1, .int .i64 b2, .int .i64 b3, .int .i64 b4, .int .i64 b5, .int .i64 b6, .int .i64 b7, .int .i64 b8, .int .i64 (k + 1)] 73⟩ else if i = 11 then some ⟨w.heap.size + 1 + 1, .pointer (some ⟨w.heap.size + 1 + 1, 0, none⟩), .agg #[.int .i64 a0, .int .i64 a1, .int .i64 a2, .int .i64 a3, .int .i64 a4, .int .i64 a5, .int .i64 a6, .int .i64 a7, .int .i64 a8, .int .i64 (k + 1)], .cells #[.int .i64 0, .int .i64 0, .int .i64 0, .int .i64 0, .int .i64 0, .int .i64 0, .int .i64 0, .int .i64 0, .int .i64 0, .int .i64 0] 73, .cells #[.int .i64 a0, .int .i64 a1, .int .i64 a2, .int .i64 a3, .int .i64 a4, .int .i64 a5, .int .i64 a6, .int .i64 a7, .int .i64 a8, .int .i64 (k + 1)] 73⟩ else none)
    (by kernel_rfl) (by kernel_rfl) rfl rfl ⟨fun i s h => ?_, fun i j s s' h h' hij => ?_⟩ (fun i hi => ?_) (fun i o h ho => noEnter_all rfl ho) ?_
  · by_cases e : i = 10
    · subst e; rw [if_pos rfl] at h; obtain rfl := Option.some.inj h
      exact ⟨_, _, _, _, rfl, rfl, rfl, rfl, by simp, (show Blk _ _ 73 #[.int .i64 0, .int .i64 0, .int .i64 0, .int .i64 0, .int .i64 0, .int .i64 0, .int .i64 0, .int .i64 0, .int .i64 0, .int .i64 0] from (by repeat (first | (with_reducible assumption) | (with_reducible refine Blk.later ?_ _) | (with_reducible refine Blk.drew ?_) | ((with_reducible refine Blk.new' ?_); (simp; done)) | (with_reducible refine Blk.alloc ?_ _)))), fun v hv => storeRow _ v _ _ _ _ hv (by kernel_rfl) rfl (by kernel_rfl)⟩
    · rw [if_neg e] at h
      by_cases e : i = 11
      · subst e; rw [if_pos rfl] at h; obtain rfl := Option.some.inj h
        exact ⟨_, _, _, _, rfl, rfl, rfl, rfl, by simp, (show Blk _ _ 73 #[.int .i64 0, .int .i64 0, .int .i64 0, .int .i64 0, .int .i64 0, .int .i64 0, .int .i64 0, .int .i64 0, .int .i64 0, .int .i64 0] from (by repeat (first | (with_reducible assumption) | (with_reducible refine Blk.later ?_ _) | (with_reducible refine Blk.drew ?_) | ((with_reducible refine Blk.new' ?_); (simp; done)) | (with_reducible refine Blk.alloc ?_ _)))), fun v hv => storeRow _ v _ _ _ _ hv (by kernel_rfl) rfl (by kernel_rfl)⟩
      · rw [if_neg e] at h; cases h
  · by_cases e : i = 10
    · by_cases e' : j = 10
      · omega
      · rw [if_pos e] at h; obtain rfl := Option.some.inj h
        rw [if_neg e'] at h'
        by_cases e' : j = 11
        · rw [if_pos e'] at h'; obtain rfl := Option.some.inj h'; exact by simp
        · rw [if_neg e'] at h'; cases h'
    · rw [if_neg e] at h
      by_cases e : i = 11
      · rw [if_pos e] at h; obtain rfl := Option.some.inj h
        by_cases e' : j = 10
        · rw [if_pos e'] at h'; obtain rfl := Option.some.inj h'; exact Ne.symm (by simp)
        · rw [if_neg e', if_neg (by omega)] at h'; cases h'
      · rw [if_neg e] at h; cases h
  · rw [if_neg (by simp at hi; omega), if_neg (by simp at hi; omega)]
  refine wpLexS_quiet (r := [10, 11]) [0, 1, 2, 3, 4, 5, 6, 7, 8, 9] _ (fun i hi => ?_) ?_
  · have hi : i ≠ 10 ∧ i ≠ 11 ∧ i < 12 := by revert i; decide
    refine ⟨?_, hi.2.2⟩
    rw [if_neg hi.1]
    rw [if_neg hi.2.1]
  simp only [pick, List.getElem?_cons_zero, List.getElem?_cons_succ]
  repeat (go_big_quiet_step ((first | fail)))
  refine wpQuiet_nil ?_
  refine wpLexS_store rfl ⟨_, _, _, _, rfl, rfl, rfl, rfl⟩ ?_
  refine wpLexS_store rfl ⟨_, _, _, _, rfl, rfl, rfl, rfl⟩ ?_
  refine wpLexS_nil ?_
  intro z hz
  have n1 : Blk z.out (w.heap.size + 1) 73 #[.int .i64 b0, .int .i64 b1, .int .i64 b2, .int .i64 b3, .int .i64 b4, .int .i64 b5, .int .i64 b6, .int .i64 b7, .int .i64 b8, .int .i64 (k + 1)] := hz 10 _ rfl
  have n2 : Blk z.out (w.heap.size + 1 + 1) 73 #[.int .i64 a0, .int .i64 a1, .int .i64 a2, .int .i64 a3, .int .i64 a4, .int .i64 a5, .int .i64 a6, .int .i64 a7, .int .i64 a8, .int .i64 (k + 1)] := hz 11 _ rfl
  have hb := z.below (B := w.heap.size) (w0 := w) (by repeat (first | (with_reducible assumption) | (with_reducible exact Below.refl _ _) | (with_reducible refine Later.after ?_ _) | (with_reducible refine Later.newer ?_ _) | (with_reducible refine Below.drew ?_) | (with_reducible refine Below.setCell ?_ (by first | exact Nat.le_refl _ | exact Nat.le_add_right _ _ | omega | (simp [go_sem]; done) | (simp [go_sem]; omega)) _))) (by simp only [World.size_alloc]; omega) (by intro b hb; simp only [List.mem_cons, List.not_mem_nil, or_false] at hb; omega)
  have mc1 := n1.cell
  have mc2 := n2.cell
  clear n1 n2 hz
  go_wp2
  exact bodyPost_ret (v := .tuple #[.agg #[.int .i64 b0, .int .i64 b1, .int .i64 b2, .int .i64 b3, .int .i64 b4, .int .i64 b5, .int .i64 b6, .int .i64 b7, .int .i64 b8, .int .i64 (k + 1)], .agg #[.int .i64 a0, .int .i64 a1, .int .i64 a2, .int .i64 a3, .int .i64 a4, .int .i64 a5, .int .i64 a6, .int .i64 a7, .int .i64 a8, .int .i64 (k + 1)]]) (by simp [results, Try.results34, go_sem, mc1, mc2]) rfl ⟨rfl, Later.mk_of hb⟩
end Go.Proofs.Ytcdnekhpeghkiaa
