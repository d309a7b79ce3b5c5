/-
  Parts begin and end where they should: walked.
-/
import Derived.Test.YtcdnekhpeghkiaaE2
namespace Go.Proofs.Ytcdnekhpeghkiaa
set_option linter.unusedVariables false
open Go.RowKit

theorem PtsAt.later {W : World} {v : Value} {pts : List (Int × Int)} (h : PtsAt W v pts) (x : Later W) : PtsAt x.out v pts := h.below x.below (Nat.le_refl _)
theorem PtsAt.alloc {W : World} {v : Value} {pts : List (Int × Int)} (h : PtsAt W v pts) (o : Obj) : PtsAt (W.alloc o) v pts := h.below ((Below.refl _ W).alloc (Nat.le_refl _) o) (Nat.le_refl _)
/-- what Cut hands back, to be read -/
def KR (w : World) (L : List (Int × Int)) (N : Nat) (e : Ending) (w' : World) : Prop :=
  ∃ g cap, e = .returned (.agg #[.slice (some ⟨g, 0, none⟩) N cap, .bool false]) ∧ PtsB w' g 0 L ∧ N ≤ cap ∧ w.heap.size ≤ g ∧ ∃ x : Later w, w' = x.out
theorem own_ptsB {W : World} {base g n cap : Nat} {l : List (Int × Int)} (h : W.ownsRow base 23 2 (.slice (some ⟨g, 0, none⟩) n cap) n (fl l)) : PtsB W g 0 l :=
  ⟨(h.lt g rfl).2, fun i p hp => by
    have hi : i < l.length := (List.getElem?_eq_some_iff.1 hp).1
    have hl := h.1
    rw [fl_len] at hl
    rw [Nat.zero_add, h.cellAt (i * 2) (by omega), h.cellAt (i * 2 + 1) (by omega)]
    exact fl_at l i p hp⟩
theorem kr_c (cl : Bool) (pts : List (Int × Int)) (g : GoodC cl pts) (sv : Value) (da db : Int) (w : World) (L : List (Int × Int)) (N : Nat) (hL : g.ch.cut (min (g.ch.held da) (g.ch.held db)) (g.ch.held db) = L) (hN : L.length = N) (h : PtsAt w sv pts) :
    Calls Try.prog 18 #[.agg #[sv, .bool cl], .int .i64 da, .int .i64 db] w (KR w L N) := by
  subst hN
  subst hL
  refine (cut_c cl pts g sv da db w h).mono ?_
  rintro e w' ⟨gg, cap, rfl, own, hx⟩
  exact ⟨gg, cap, rfl, own_ptsB own, own_cap own, (own.lt gg rfl).1, hx⟩
theorem Ch.held_mono (C : Ch) (x y : Int) (h : x ≤ y) : C.held x ≤ C.held y := by unfold Ch.held; omega
set_option maxRecDepth 100000 in
set_option maxHeartbeats 4000000 in
theorem cuts_walk (a b : Int) (sv : Value) (cl : Bool) (pts : List (Int × Int)) (a0 : 0 ≤ a) (a9 : a ≤ 4294967295) (b0 : 0 ≤ b) (b9 : b ≤ 4294967295) (w : World) (h : PtsAt w sv pts) :
    Calls Try.prog 4 #[.agg #[sv, .bool cl], .int .u32 a, .int .u32 b] w fun e w' => e = .returned (.bool true) ∧ ∃ x : Later w, w' = x.out := by
  have hg := fun w' h' => good12_c cl pts sv w' h'
  have HPA := Lib.hid h
  cases e : gdB cl pts
  · rw [e] at hg
    have HG := Lib.hid hg
    clear hg h e
    go_enter Try.func4, Try.ntmps4
    go_wp2_with (first | (go_at_call 16; (with_reducible refine (HG.out _ (by repeat (first | (with_reducible exact HPA.out) | (with_reducible refine PtsAt.later ?_ _) | (with_reducible refine PtsAt.alloc ?_ _)))).mono ?_); rintro e _ ⟨rfl, x, rfl⟩) | (go_at_call 17; (with_reducible refine (shown_12 _).mono ?_); rintro e _ ⟨rfl, x, rfl⟩))
    exact bodyPost_ret (v := .bool true) (by simp [results, Try.results4, go_sem, *]) rfl ⟨rfl, (Later.mk_of (by repeat (first | (with_reducible assumption) | (with_reducible exact Below.refl _ _) | (with_reducible refine Later.after ?_ _) | (with_reducible refine Later.newer ?_ _) | (with_reducible refine Below.drew ?_) | (with_reducible refine Below.setCell ?_ (by first | exact Nat.le_refl _ | exact Nat.le_add_right _ _ | omega | (simp [go_sem]; done) | (simp [go_sem]; omega)) _))))⟩
  have g := gdB_is e
  rw [e] at hg
  obtain ⟨A, hA⟩ : ∃ A, min a b = A := ⟨_, rfl⟩
  obtain ⟨B, hB⟩ : ∃ B, max a b = B := ⟨_, rfl⟩
  have hAB : A ≤ B := by omega
  have hmn : min (g.ch.held A) (g.ch.held B) = g.ch.held A := by have := g.ch.held_mono A B hAB; omega
  obtain ⟨L, hL⟩ : ∃ L, g.ch.cut (min (g.ch.held A) (g.ch.held B)) (g.ch.held B) = L := ⟨_, rfl⟩
  obtain ⟨N, hN⟩ : ∃ N, L.length = N := ⟨_, rfl⟩
  have hcut := fun w' h' => kr_c cl pts g sv A B w' L N hL hN h'
  have hat1 := fun w' h' => at_c cl pts g sv A w' h'
  have hat2 := fun w' h' => at_c cl pts g sv B w' h'
  rw [hmn] at hL
  have hhd := g.ch.cut_head (g.ch.held A) (g.ch.held B)
  have hls := g.ch.cut_last (g.ch.held A) (g.ch.held B)
  have hap := g.ch.cut_apart (g.ch.held A) (g.ch.held B)
  rw [hL] at hhd hls hap
  generalize g.ch.at (g.ch.held A) = p at *
  generalize g.ch.at (g.ch.held B) = q at *
  generalize g.ch.ix (g.ch.held A) = iA at *
  generalize g.ch.ix (g.ch.held B) = iB at *
  obtain ⟨p0, p1⟩ := p
  obtain ⟨z0, z1⟩ := q
  have hN1 : 1 ≤ N := by
    cases L with
    | nil => simp at hhd
    | cons u r => simp at hN; omega
  obtain ⟨m, hm⟩ : ∃ m, N = m + 1 := ⟨N - 1, by omega⟩
  have l0 : L[0]? = some (p0, p1) := by rw [← List.head?_eq_getElem?]; exact hhd
  have lm : L[m]? = some (z0, z1) := by rw [List.getLast?_eq_getElem?, hN, show N - 1 = m by omega] at hls; exact hls
  have hN9 : N ≤ 1000 := by
    have h1 : L.length ≤ g.ch.m + 2 := by
      rw [← hL]
      unfold Ch.cut
      refine Nat.le_trans (cpt_len _) ?_
      unfold Ch.mid
      simp only [List.length_append, List.length_cons, List.length_nil, List.length_map]
      have := List.length_filter_le (fun i => decide (g.ch.held A < g.ch.ln i) && decide (g.ch.ln i < g.ch.held B)) (List.range' 1 g.ch.m)
      simp only [List.length_range'] at this
      omega
    have := g.m_le
    omega
  have HG := Lib.hid hg
  have HCUT := Lib.hid hcut
  have HAT1 := Lib.hid hat1
  have HAT2 := Lib.hid hat2
  have L0 := Lib.hid l0
  have LM' := Lib.hid lm
  have HAP := Lib.hid hap
  have HN := Lib.hid hN
  have HM := Lib.hid hm
  have f1 : (N == 0) = false := by simp; omega
  have f2 : ((N : Int) == 0) = false := by simp; omega
  have d3 : (N : Int) - 1 = (m : Int) := by omega
  have d1 : IntKind.i64.wrap ((N : Int) - 1) = (m : Int) := by rw [IntWalk.i64_in _ (by omega)]; omega
  have d2 : wrap64 ((N : Int) - 1) = (m : Int) := by unfold wrap64; omega
  have mN : m < N := by omega
  have m0 : (0 : Int) ≤ m := by omega
  have N0 : 0 < N := by omega
  have A0 : 0 ≤ A := by omega
  have A9 : A ≤ 4294967295 := by omega
  have B0 : 0 ≤ B := by omega
  have B9 : B ≤ 4294967295 := by omega
  clear hg hcut hat1 hat2 l0 lm hap hN hm hhd hls hL hmn e h
  go_enter Try.func4, Try.ntmps4
  go_upto_region 6 with (first | (go_at_call 16; (with_reducible refine (HG.out _ (by repeat (first | (with_reducible exact HPA.out) | (with_reducible refine PtsAt.later ?_ _) | (with_reducible refine PtsAt.alloc ?_ _)))).mono ?_); rintro e _ ⟨rfl, x, rfl⟩) | (go_at_call 17; (with_reducible refine (shown_12 _).mono ?_); rintro e _ ⟨rfl, x, rfl⟩) | (go_at_call 18; (with_reducible refine (HCUT.out _ (by repeat (first | (with_reducible exact HPA.out) | (with_reducible refine PtsAt.later ?_ _) | (with_reducible refine PtsAt.alloc ?_ _)))).mono ?_); rintro _ _ ⟨gk, capk, rfl, hok, hck, hgk, x, rfl⟩))
  have bS : Blk x.out w.heap.size 36 #[sv, .bool cl] := (by repeat (first | (with_reducible assumption) | (with_reducible refine Blk.later ?_ _) | (with_reducible refine Blk.drew ?_) | ((with_reducible refine Blk.new' ?_); (simp; done)) | (with_reducible refine Blk.alloc ?_ _)))
  have bW : Below w.heap.size w x.out := (by repeat (first | (with_reducible assumption) | (with_reducible exact Below.refl _ _) | (with_reducible refine Later.after ?_ _) | (with_reducible refine Later.newer ?_ _) | (with_reducible refine Below.drew ?_) | (with_reducible refine Below.setCell ?_ (by first | exact Nat.le_refl _ | exact Nat.le_add_right _ _ | omega | (simp [go_sem]; done) | (simp [go_sem]; omega)) _)))
  have hpa : PtsAt x.out sv pts := (by repeat (first | (with_reducible exact HPA.out) | (with_reducible refine PtsAt.later ?_ _) | (with_reducible refine PtsAt.alloc ?_ _)))
  obtain ⟨k0, k0'⟩ := hok.cell 0 _ L0.out
  obtain ⟨k1, k1'⟩ := hok.cell m _ LM'.out
  have kl := hok.lt
  simp only [Nat.zero_mul, Nat.zero_add, Nat.add_zero] at k0 k0' k1 k1'
  have HOK := Lib.hid hok
  clear hok HPA hgk
  generalize x.out = V at *
  have HPA := Lib.hid hpa
  obtain ⟨c1, c2, c3⟩ := bS.all
  have kl1 : gk < V.heap.size + 1 := by omega
  have kl2 : gk < V.heap.size + 1 + 1 := by omega
  clear hpa bS
  go_wp2_with (first | (go_at_call 19; (with_reducible refine (HAT1.out _ (by repeat (first | (with_reducible exact HPA.out) | (with_reducible refine PtsAt.later ?_ _) | (with_reducible refine PtsAt.alloc ?_ _)))).mono ?_); rintro e _ ⟨rfl, x, rfl⟩) | (go_at_call 19; (with_reducible refine (HAT2.out _ (by repeat (first | (with_reducible exact HPA.out) | (with_reducible refine PtsAt.later ?_ _) | (with_reducible refine PtsAt.alloc ?_ _)))).mono ?_); rintro e _ ⟨rfl, x, rfl⟩))
  refine wp_region_later (by kernel_rfl) (by kernel_rfl) ?_
  repeat (go_big_quiet_step ((first | fail)))
  refine wpQuiet_nil ?_
  intro x
  go_wp2_with (fail)
  go_loopw [15] (fun u wr => ∃ k : Nat, 1 ≤ k ∧ k ≤ N ∧ u = .int .i64 k ∧ ∃ y : Later x.out, wr = y.out) (fun u _ => N - (intOf u).toNat)
  case atStart => exact ⟨1, by omega, by omega, rfl, ⟨x.out, Below.refl _ _⟩, rfl⟩
  case round =>
    obtain ⟨k, hk1, hk, rfl, y, rfl⟩ := hrel
    by_cases hlt : k < N
    · obtain ⟨j, hj⟩ : ∃ j, k = j + 1 := ⟨k - 1, by omega⟩
      obtain ⟨⟨u0, u1⟩, hu⟩ : ∃ u, L[k]? = some u := ⟨_, List.getElem?_eq_getElem (by rw [HN.out]; exact hlt)⟩
      obtain ⟨⟨v0, v1⟩, hv⟩ : ∃ u, L[j]? = some u := ⟨_, List.getElem?_eq_getElem (by rw [HN.out]; omega)⟩
      have hne := HAP.out.at j _ _ hv (by rw [← hj]; exact hu)
      obtain ⟨r0, r1⟩ := HOK.out.cell k _ hu
      obtain ⟨r2, r3⟩ := HOK.out.cell j _ hv
      have hd : decide (k < N) = true := by simp [hlt]
      have e3 : (k : Int) - 1 = (j : Int) := by omega
      have e1 : IntKind.i64.wrap ((k : Int) - 1) = (j : Int) := by rw [IntWalk.i64_in _ (by omega)]; omega
      have e2 : wrap64 ((k : Int) - 1) = (j : Int) := by unfold wrap64; omega
      have jN : j < N := by omega
      have j0 : (0 : Int) ≤ j := by omega
      simp only [Nat.zero_add] at r0 r1 r2 r3
      clear hu hv hj
      by_cases ex : u0 = v0
      · have ey : (u1 == v1) = false := by simp; intro h; exact hne (by rw [ex, h])
        subst ex
        clear hne
        go_wp2_with (fail)
        refine wp_region_later (by kernel_rfl) (by kernel_rfl) ?_
        repeat (go_big_quiet_step ((first | fail)))
        refine wpQuiet_nil ?_
        intro x7
        go_wp2_with (fail)
        go_roundw
        case rel => exact ⟨k + 1, by omega, by omega, by go_num, ⟨x7.out, y.below.trans (x7.below.mono y.below.size)⟩, rfl⟩
        case measure => simp [intOf]; omega
      · have ex' : (u0 == v0) = false := by simp [ex]
        clear hne ex
        go_wp2_with (fail)
        refine wp_region_later (by kernel_rfl) (by kernel_rfl) ?_
        repeat (go_big_quiet_step ((first | fail)))
        refine wpQuiet_nil ?_
        intro x7
        go_wp2_with (fail)
        go_roundw
        case rel => exact ⟨k + 1, by omega, by omega, by go_num, ⟨x7.out, y.below.trans (x7.below.mono y.below.size)⟩, rfl⟩
        case measure => simp [intOf]; omega
    · obtain rfl : k = N := by omega
      go_wp2_with (fail)
      exact bodyPost_ret (v := .bool true) (by simp [results, Try.results4, go_sem, *]) rfl ⟨rfl, (Later.mk_of (by repeat (first | (with_reducible assumption) | (with_reducible exact Below.refl _ _) | (with_reducible refine Later.after ?_ _) | (with_reducible refine Later.newer ?_ _) | (with_reducible refine Below.drew ?_) | (with_reducible refine Below.setCell ?_ (by first | exact Nat.le_refl _ | exact Nat.le_add_right _ _ | omega | (simp [go_sem]; done) | (simp [go_sem]; omega)) _))))⟩
end Go.Proofs.Ytcdnekhpeghkiaa
