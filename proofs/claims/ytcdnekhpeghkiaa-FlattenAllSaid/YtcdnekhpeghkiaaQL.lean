/-
  The chains of a path: walked.
-/
import Derived.Test.YtcdnekhpeghkiaaQK
import Derived.Test.YtcdnekhpeghkiaaS1
namespace Go.Proofs.Ytcdnekhpeghkiaa
set_option linter.unusedVariables false
open Go.RowKit

theorem SplitRet.any {w : World} {z : Int} {e : Ending} {w' : World} (h : SplitRet w z e w') : ∃ u, e = .returned (.tuple #[u, .int .i64 z]) ∧ ∃ x : Later w, w' = x.out := by
  obtain ⟨hx, h1, h2⟩ := h
  by_cases hz : z = 0
  · subst hz
    obtain ⟨sv, L, rfl, _⟩ := h2 rfl
    exact ⟨sv, rfl, hx⟩
  · exact ⟨_, h1 hz, hx⟩


set_option maxRecDepth 100000 in
set_option maxHeartbeats 1000000 in
theorem fc_early1 (z tol : Int) (n m : Nat) (av ap : Option Addr) (cv cp : Nat) (w : World) (n9 : n ≤ maxLen) (m9 : m ≤ maxLen)
    (hs : ∀ W', Below w.heap.size w W' → Calls Try.prog 24 #[.agg #[.slice av n cv, .slice ap m cp]] W' fun e w'' => ∃ u, e = .returned (.tuple #[u, .int .i64 z]) ∧ ∃ x : Later W', w'' = x.out) (h1 : decide ((12 : Int) < n) = true) :
    Calls Try.prog 9 #[.agg #[.slice av n cv, .slice ap m cp], .int .u16 tol] w fun e w' => e = .returned (.bool true) ∧ ∃ x : Later w, w' = x.out := by
  have HS := Lib.hid hs
  unfold maxLen at n9 m9
  clear hs
  go_enter Try.func9, Try.ntmps9
  go_wp2_with (first | (go_at_call 24; (with_reducible refine (HS.out _ ((Below.refl _ _).alloc (Nat.le_refl _) _)).mono ?_); rintro _ _ ⟨u, rfl, x, rfl⟩) | (go_at_call 12; (with_reducible refine (shown_10 _).mono ?_); rintro e _ ⟨rfl, x, rfl⟩))
  exact bodyPost_ret (v := .bool true) (by simp [results, Try.results9, go_sem, *]) rfl ⟨rfl, (Later.mk_of (by repeat (first | (with_reducible assumption) | (with_reducible exact Below.refl _ _) | (with_reducible refine Later.after ?_ _) | (with_reducible refine Later.newer ?_ _) | (with_reducible refine Below.drew ?_) | (with_reducible refine Below.setCell ?_ (by first | exact Nat.le_refl _ | exact Nat.le_add_right _ _ | omega | (simp [go_sem]; done) | (simp [go_sem]; omega)) _))))⟩


set_option maxRecDepth 100000 in
set_option maxHeartbeats 1000000 in
theorem fc_early2 (z tol : Int) (n m : Nat) (av ap : Option Addr) (cv cp : Nat) (w : World) (n9 : n ≤ maxLen) (m9 : m ≤ maxLen)
    (hs : ∀ W', Below w.heap.size w W' → Calls Try.prog 24 #[.agg #[.slice av n cv, .slice ap m cp]] W' fun e w'' => ∃ u, e = .returned (.tuple #[u, .int .i64 z]) ∧ ∃ x : Later W', w'' = x.out) (h1 : decide ((12 : Int) < n) = false) (h2 : decide ((40 : Int) < m) = true) :
    Calls Try.prog 9 #[.agg #[.slice av n cv, .slice ap m cp], .int .u16 tol] w fun e w' => e = .returned (.bool true) ∧ ∃ x : Later w, w' = x.out := by
  have HS := Lib.hid hs
  unfold maxLen at n9 m9
  clear hs
  go_enter Try.func9, Try.ntmps9
  go_wp2_with (first | (go_at_call 24; (with_reducible refine (HS.out _ ((Below.refl _ _).alloc (Nat.le_refl _) _)).mono ?_); rintro _ _ ⟨u, rfl, x, rfl⟩) | (go_at_call 12; (with_reducible refine (shown_10 _).mono ?_); rintro e _ ⟨rfl, x, rfl⟩))
  exact bodyPost_ret (v := .bool true) (by simp [results, Try.results9, go_sem, *]) rfl ⟨rfl, (Later.mk_of (by repeat (first | (with_reducible assumption) | (with_reducible exact Below.refl _ _) | (with_reducible refine Later.after ?_ _) | (with_reducible refine Later.newer ?_ _) | (with_reducible refine Below.drew ?_) | (with_reducible refine Below.setCell ?_ (by first | exact Nat.le_refl _ | exact Nat.le_add_right _ _ | omega | (simp [go_sem]; done) | (simp [go_sem]; omega)) _))))⟩


set_option maxRecDepth 100000 in
set_option maxHeartbeats 1000000 in
theorem fc_early3 (z tol : Int) (n m : Nat) (av ap : Option Addr) (cv cp : Nat) (w : World) (n9 : n ≤ maxLen) (m9 : m ≤ maxLen)
    (hs : ∀ W', Below w.heap.size w W' → Calls Try.prog 24 #[.agg #[.slice av n cv, .slice ap m cp]] W' fun e w'' => ∃ u, e = .returned (.tuple #[u, .int .i64 z]) ∧ ∃ x : Later W', w'' = x.out) (h1 : decide ((12 : Int) < n) = false) (h2 : decide ((40 : Int) < m) = false) (h3 : (z != 0) = true) :
    Calls Try.prog 9 #[.agg #[.slice av n cv, .slice ap m cp], .int .u16 tol] w fun e w' => e = .returned (.bool true) ∧ ∃ x : Later w, w' = x.out := by
  have HS := Lib.hid hs
  unfold maxLen at n9 m9
  clear hs
  go_enter Try.func9, Try.ntmps9
  go_wp2_with (first | (go_at_call 24; (with_reducible refine (HS.out _ ((Below.refl _ _).alloc (Nat.le_refl _) _)).mono ?_); rintro _ _ ⟨u, rfl, x, rfl⟩) | (go_at_call 12; (with_reducible refine (shown_10 _).mono ?_); rintro e _ ⟨rfl, x, rfl⟩))
  exact bodyPost_ret (v := .bool true) (by simp [results, Try.results9, go_sem, *]) rfl ⟨rfl, (Later.mk_of (by repeat (first | (with_reducible assumption) | (with_reducible exact Below.refl _ _) | (with_reducible refine Later.after ?_ _) | (with_reducible refine Later.newer ?_ _) | (with_reducible refine Below.drew ?_) | (with_reducible refine Below.setCell ?_ (by first | exact Nat.le_refl _ | exact Nat.le_add_right _ _ | omega | (simp [go_sem]; done) | (simp [go_sem]; omega)) _))))⟩


theorem Subs.form {W : World} {B : Nat} {sv : Value} {L : List (SubP × Value)} (h : Subs W B sv L) : ∃ a c, sv = .slice a L.length c := by
  rcases Go.Joins.ownsRow_forms h.own with ⟨h1, h2⟩ | ⟨g, cap, h⟩
  · exact ⟨none, 0, by rw [h1, h2]⟩
  · exact ⟨_, _, h⟩
theorem SegsAt.later {W : World} {v : Value} {l : List En} (h : SegsAt W v l) (x : Later W) : SegsAt x.out v l := by
  rcases h with h | ⟨b, o, c, rfl, hb, hc, hp⟩
  · exact .inl h
  · exact .inr ⟨b, o, c, rfl, Nat.lt_of_lt_of_le hb x.size_le, hc, fun i s hs j hj => (x.below.cell (p := ⟨b, o + i * 9 + j, none⟩) hb).trans (hp i s hs j hj)⟩
theorem ORet.len {w : World} {cl : Bool} {l : List (Int × Int)} {k : Nat} {e : Ending} {w' : World} (hk : l.length = k) (h : ORet w cl l e w') :
    ∃ g cap, e = .returned (.agg #[.slice (some ⟨g, 0, none⟩) k cap, .bool cl]) ∧ w'.ownsRow w.heap.size 23 2 (.slice (some ⟨g, 0, none⟩) k cap) k (fl l) ∧ ∃ x : Later w, w' = x.out := by
  subst hk; exact h
def SplitOk (w : World) (e : Ending) (w' : World) : Prop :=
  ∃ sv L, e = .returned (.tuple #[sv, .int .i64 0]) ∧ Subs w' w.heap.size sv L ∧ (∀ p ∈ L, GoodSub 600 p.1) ∧ L.length ≤ 600 ∧ ∃ x : Later w, w' = x.out
theorem SplitRet.ok {w : World} {e : Ending} {w' : World} (h : SplitRet w 0 e w') : SplitOk w e w' := by
  obtain ⟨hx, _, h2⟩ := h
  obtain ⟨sv, L, he, h3, h4, h5⟩ := h2 rfl
  exact ⟨sv, L, he, h3, h4, h5, hx⟩
set_option maxRecDepth 100000 in
set_option maxHeartbeats 4000000 in
theorem fc_main (tol : Int) (n m : Nat) (av ap : Option Addr) (cv cp : Nat) (w : World) (n9 : n ≤ maxLen) (m9 : m ≤ maxLen) (t0 : 0 ≤ tol) (t9 : tol ≤ 65535)
    (hs : ∀ W', Below w.heap.size w W' → Calls Try.prog 24 #[.agg #[.slice av n cv, .slice ap m cp]] W' (SplitOk W')) (h1 : decide ((12 : Int) < n) = false) (h2 : decide ((40 : Int) < m) = false) :
    Calls Try.prog 9 #[.agg #[.slice av n cv, .slice ap m cp], .int .u16 tol] w fun e w' => e = .returned (.bool true) ∧ ∃ x : Later w, w' = x.out := by
  have HS := Lib.hid hs
  unfold maxLen at n9 m9
  clear hs
  go_enter Try.func9, Try.ntmps9
  go_wp2_with (first | (go_at_call 24; (with_reducible refine (HS.out _ ((Below.refl _ _).alloc (Nat.le_refl _) _)).mono ?_); rintro _ _ ⟨sv, L, rfl, hS, hG, hL, x, rfl⟩; obtain ⟨aS, cS, hsv⟩ := hS.form; obtain ⟨N, hN⟩ : ∃ N, L.length = N := ⟨_, rfl⟩; rw [hN] at hsv hL; subst hsv; have HSB := Lib.hid hS; have HGD := Lib.hid hG; have HLN := Lib.hid hN; clear hS hG hN) | (go_at_call 12; (with_reducible refine (shown_10 _).mono ?_); rintro e _ ⟨rfl, x2, rfl⟩))
  have hsb := HSB.out.later x2
  have hB0 : Below w.heap.size w x2.out := (by repeat (first | (with_reducible assumption) | (with_reducible exact Below.refl _ _) | (with_reducible refine Later.after ?_ _) | (with_reducible refine Later.newer ?_ _) | (with_reducible refine Below.drew ?_) | (with_reducible refine Below.setCell ?_ (by first | exact Nat.le_refl _ | exact Nat.le_add_right _ _ | omega | (simp [go_sem]; done) | (simp [go_sem]; omega)) _)))
  have HB0 := Lib.hid hB0
  have HSS := Lib.hid hsb
  clear hB0 hsb HSB
  generalize x2.out = W0 at *
  clear x2 x
  go_loopw [7] (fun u wr => ∃ i : Nat, i ≤ N ∧ u = .int .i64 i ∧ ∃ y : Later W0, wr = y.out) (fun u _ => N - (intOf u).toNat)
  case atStart => exact ⟨0, by omega, rfl, ⟨W0, Below.refl _ _⟩, rfl⟩
  case round =>
    obtain ⟨i, hi, rfl, y, rfl⟩ := hrel
    by_cases hlt : i < N
    · have hd : decide (i < N) = true := by simp [hlt]
      obtain ⟨⟨s, v⟩, hsi⟩ : ∃ p, L[i]? = some p := ⟨_, List.getElem?_eq_getElem (by rw [HLN.out]; exact hlt)⟩
      obtain ⟨gs, cs', hsv, lgs, hcell, hsegs⟩ := (HSS.out.later y).at i s v hsi
      rw [HLN.out] at hsv
      simp only [Value.slice.injEq, true_and] at hsv
      obtain ⟨rfl, rfl⟩ := hsv
      have gsub : GoodSub 600 s := HGD.out (s, v) (List.mem_of_getElem? hsi)
      have hof := fun W' h' => chainOf_c W' s.st s.segs v s.cl (8 + tol) (by omega) (by omega) h' (by have := gsub.2.1; omega) gsub.2.2
      have c0 : y.out.cell? ⟨gs, i * 4, none⟩ = some (.int .i64 s.st.1) := hcell 0 (by omega)
      have c1 : y.out.cell? ⟨gs, i * 4 + 1, none⟩ = some (.int .i64 s.st.2) := hcell 1 (by omega)
      have c2 : y.out.cell? ⟨gs, i * 4 + 2, none⟩ = some v := hcell 2 (by omega)
      have c3 : y.out.cell? ⟨gs, i * 4 + 3, none⟩ = some (.bool s.cl) := hcell 3 (by omega)
      have hne := chL_ne (8 + tol) s.st s.segs
      have hlast := chL_last (8 + tol) s.st s.segs (fun a ha => (gsub.2.2 a ha).1)
      have hhead := chL_head (8 + tol) s.st s.segs
      have hlen := chL_len (8 + tol) s.st s.segs (fun a ha => (gsub.2.2 a ha).1)
      have hsl := gsub.2.1
      generalize chL (8 + tol) s.st s.segs = lc at *
      have hc1 := chn_len s.cl lc hne
      have hc9 := chn_len9 s.cl lc
      obtain ⟨M, hM⟩ : ∃ M, (chn s.cl lc).length = M + 1 := ⟨(chn s.cl lc).length - 1, by omega⟩
      have M9 : M ≤ 1000000 := by omega
      obtain ⟨sx, hsx⟩ : ∃ x, s.st.1 = x := ⟨_, rfl⟩
      obtain ⟨sy, hsy⟩ : ∃ x, s.st.2 = x := ⟨_, rfl⟩
      obtain ⟨cl, hcl⟩ : ∃ x, s.cl = x := ⟨_, rfl⟩
      have hst : s.st = (sx, sy) := by rw [← hsx, ← hsy]
      rw [hsx, hsy, hcl] at hof
      rw [hcl] at hM
      obtain ⟨Ln, hLn⟩ : ∃ Ln, Ln = M + 1 := ⟨_, rfl⟩
      have hof := fun W' h' => (hof W' h').mono (fun e w' h => ORet.len (hM.trans hLn.symm) h)
      have l0 : 0 < Ln := by omega
      have l0' : ((Ln : Int) == 0) = false := by simp; omega
      have l9 : Ln ≤ 1000001 := by omega
      have HLn := Lib.hid hLn
      rw [hsx] at c0
      rw [hsy] at c1
      rw [hcl] at c3
      have HST := Lib.hid hst
      have HCL := Lib.hid hcl
      have HOF := Lib.hid hof
      have HSG := Lib.hid hsegs
      have HNE := Lib.hid hne
      have HLA := Lib.hid hlast
      have HHD := Lib.hid hhead
      have HMM := Lib.hid hM
      have HSL := Lib.hid hsl
      have hsg3 := gsub.2.2
      have HSG3 := Lib.hid hsg3
      clear hsg3
      clear hof hsegs hne hlast hhead hlen hc1 hc9 hM hLn hsx hsy hcl hst hcell hsi gsub hsl
      go_upto_region 9 with (first | (go_at_call 25; (with_reducible refine (HOF.out _ HSG.out).mono ?_); rintro _ _ ⟨g2, cap2, rfl, hown, x3, rfl⟩; have HOW := Lib.hid hown; clear hown))
      have hbv : Below y.out.heap.size y.out (x3.out.alloc (.cells #[.slice (some ⟨g2, 0, none⟩) Ln cap2, .bool cl] 36)) := x3.below.alloc x3.size_le _
      have hgc : Blk (x3.out.alloc (.cells #[.slice (some ⟨g2, 0, none⟩) Ln cap2, .bool cl] 36)) x3.out.heap.size 36 #[.slice (some ⟨g2, 0, none⟩) Ln cap2, .bool cl] := Blk.new _ _ _
      have how := HOW.out.alloc (.cells #[.slice (some ⟨g2, 0, none⟩) Ln cap2, .bool cl] 36)
      have hsg := SegsAt.later HSG.out ⟨_, hbv⟩
      simp only [] at hsg
      have hbw : Below W0.heap.size W0 (x3.out.alloc (.cells #[.slice (some ⟨g2, 0, none⟩) Ln cap2, .bool cl] 36)) := y.below.trans (hbv.mono y.size_le)
      generalize x3.out.alloc (.cells #[.slice (some ⟨g2, 0, none⟩) Ln cap2, .bool cl] 36) = V at *
      generalize x3.out.heap.size = gc at *
      have d0 : V.cell? ⟨gs, i * 4, none⟩ = some (.int .i64 sx) := (hbv.cell (p := ⟨gs, i * 4, none⟩) lgs).trans c0
      have d1 : V.cell? ⟨gs, i * 4 + 1, none⟩ = some (.int .i64 sy) := (hbv.cell (p := ⟨gs, i * 4 + 1, none⟩) lgs).trans c1
      have d2 : V.cell? ⟨gs, i * 4 + 2, none⟩ = some v := (hbv.cell (p := ⟨gs, i * 4 + 2, none⟩) lgs).trans c2
      have d3 : V.cell? ⟨gs, i * 4 + 3, none⟩ = some (.bool cl) := (hbv.cell (p := ⟨gs, i * 4 + 3, none⟩) lgs).trans c3
      have lgv : gs < V.heap.size := Nat.lt_of_lt_of_le lgs hbv.size
      obtain ⟨cg, zg, lgc⟩ := hgc.all
      have lg2 := (how.lt g2 rfl).2
      have hpt := fun k p h => own_ptsIn0 how k p h
      have h0 := hpt 0 (sx, sy) (by rw [← HST.out, ← HCL.out]; exact chn_first _ _ _ HHD.out)
      simp only [Nat.zero_mul, Nat.zero_add] at h0
      obtain ⟨p00, p01⟩ := h0
      have HPT := Lib.hid hpt
      have HSV := Lib.hid hsg
      have HBW := Lib.hid hbw
      clear hbv hgc how hsg c0 c1 c2 c3 hpt hbw HOW HSG HOF x3
      refine wp_region_later (by kernel_rfl) (by kernel_rfl) ?_
      repeat (go_big_quiet_step ((first | fail)))
      refine wpQuiet_nil ?_
      intro x
      go_wp2_with (fail)
      go_loopw [10] (fun u wr => ∃ k : Nat, k + 1 ≤ Ln ∧ u = .int .i64 k ∧ ∃ z : Later V, wr = z.out) (fun u _ => Ln - (intOf u).toNat)
      case atStart => exact ⟨0, by omega, rfl, x, rfl⟩
      case round =>
        clear x
        obtain ⟨k, hk, rfl, z, rfl⟩ := hrel
        obtain ⟨K, hK⟩ : ∃ K, K = k + 1 := ⟨_, rfl⟩
        have e1 : (k : Int) + 1 = (K : Int) := by omega
        have e2 : IntKind.i64.wrap ((k : Int) + 1) = (K : Int) := by rw [IntWalk.i64_in _ (by omega)]; omega
        by_cases hkL : K < Ln
        · have hdK : decide (K < Ln) = true := by simp [hkL]
          have hdK2 : decide ((K : Int) < Ln) = true := by simp; omega
          have hLen : (chn cl lc).length = Ln := HMM.out.trans HLn.out.symm
          obtain ⟨⟨a0, a1⟩, ha⟩ : ∃ p, (chn cl lc)[k]? = some p := ⟨_, List.getElem?_eq_getElem (by omega)⟩
          obtain ⟨⟨b0, b1⟩, hb⟩ : ∃ p, (chn cl lc)[k + 1]? = some p := ⟨_, List.getElem?_eq_getElem (by omega)⟩
          have hne := chn_apart cl lc HNE.out k _ _ ha hb
          rw [← hK] at hb
          obtain ⟨r0, r1⟩ := HPT.out k _ ha
          obtain ⟨r2, r3⟩ := HPT.out K _ hb
          simp only [] at r0 r1 r2 r3
          have kL : k < Ln := by omega
          have K0 : (0 : Int) ≤ K := by omega
          have HKK := Lib.hid hK
          clear hLen ha hb hK
          by_cases ex : a0 = b0
          · have ey : (a1 == b1) = false := by simp; intro e; exact hne (by rw [ex, e])
            subst ex
            clear hne
            go_wp2_with (fail)
            refine wp_region_later (by kernel_rfl) (by kernel_rfl) ?_
            repeat (go_big_quiet_step ((first | fail)))
            refine wpQuiet_nil ?_
            intro x
            go_wp2_with (fail)
            have hKK := HKK.out
            subst hKK
            go_roundw
            case rel => exact ⟨k + 1, by omega, by go_num, ⟨x.out, z.below.trans (x.below.mono z.size_le)⟩, rfl⟩
            case measure => simp [intOf]; omega
          · have ex' : (a0 == b0) = false := by simp [ex]
            clear hne ex
            go_wp2_with (fail)
            refine wp_region_later (by kernel_rfl) (by kernel_rfl) ?_
            repeat (go_big_quiet_step ((first | fail)))
            refine wpQuiet_nil ?_
            intro x
            go_wp2_with (fail)
            have hKK := HKK.out
            subst hKK
            go_roundw
            case rel => exact ⟨k + 1, by omega, by go_num, ⟨x.out, z.below.trans (x.below.mono z.size_le)⟩, rfl⟩
            case measure => simp [intOf]; omega
        · have hdK : decide (K < Ln) = false := by simp; omega
          have hdK2 : decide ((K : Int) < Ln) = false := by simp; omega
          clear hK
          have n1 : IntKind.i64.wrap ((Ln : Int) - 1) = (M : Int) := by have := HLn.out; rw [IntWalk.i64_in _ (by omega)]; omega
          have n2 : wrap64 ((Ln : Int) - 1) = (M : Int) := by have := HLn.out; unfold wrap64; omega
          have n3 : (Ln : Int) - 1 = (M : Int) := by have := HLn.out; omega
          have mL : M < Ln := by have := HLn.out; omega
          have HHD2 : Hid (lc.head? = some (sx, sy)) := Lib.hid (by rw [HHD.out, HST.out])
          obtain ⟨av', cv', hv'⟩ : ∃ a c, v = .slice a s.segs.length c := by
            rcases HSV.out with ⟨h1, h2⟩ | ⟨b, o, c, h, _⟩
            · exact ⟨none, 0, by rw [h1, h2]; rfl⟩
            · exact ⟨_, _, h⟩
          obtain ⟨S, hS⟩ : ∃ S, s.segs.length = S := ⟨_, rfl⟩
          rw [hS] at hv'
          by_cases hS0 : S = 0
          · subst hS0
            subst hv'
            have hse : s.segs = [] := List.eq_nil_of_length_eq_zero hS
            have HSE := Lib.hid hse
            clear hse hS
            cases cl
            · have hL9 : (chn false lc)[M]? = some (sx, sy) := chn_last lc (sx, sy) (by rw [HLA.out]; simp [HSE.out, HST.out]) M HMM.out
              obtain ⟨p90, p91⟩ := HPT.out M _ hL9
              simp only [] at p90 p91
              have M0 : (0 : Int) ≤ M := by omega
              clear hL9
              go_wp2_with (fail)
              refine wp_region_later (by kernel_rfl) (by kernel_rfl) ?_
              repeat (go_big_quiet_step ((first | fail)))
              refine wpQuiet_nil ?_
              intro x
              go_wp2_with (fail)
              have hB9 := HBW.out
              have hz9 : W0.heap.size ≤ z.out.heap.size := Nat.le_trans hB9.size z.size_le
              go_roundw
              case rel => exact ⟨i + 1, by omega, by go_num, (Later.mk_of (by repeat (first | (with_reducible assumption) | (with_reducible exact Below.refl _ _) | (with_reducible refine Later.after ?_ _) | (with_reducible refine Later.newer ?_ _) | (with_reducible refine Below.drew ?_) | (with_reducible refine Below.setCell ?_ (by first | exact Nat.le_refl _ | exact Nat.le_add_right _ _ | omega | (simp [go_sem]; done) | (simp [go_sem]; omega)) _))))⟩
              case measure => simp [intOf]; omega
            · obtain ⟨⟨x9, y9⟩, hL9⟩ : ∃ p, (chn true lc)[M]? = some p := ⟨_, List.getElem?_eq_getElem (by rw [HMM.out]; omega)⟩
              have hF := chn_first true lc (sx, sy) HHD2.out
              obtain ⟨p90, p91⟩ := HPT.out M _ hL9
              simp only [] at p90 p91
              have M0 : (0 : Int) ≤ M := by omega
              by_cases hm : M = 0
              · have dn : decide ((1 : Int) < Ln) = false := by have := HLn.out; simp; omega
                have dn' : decide (1 < Ln) = false := by have := HLn.out; simp; omega
                clear hL9 hF
                go_wp2_with (fail)
                refine wp_region_later (by kernel_rfl) (by kernel_rfl) ?_
                repeat (go_big_quiet_step ((first | fail)))
                refine wpQuiet_nil ?_
                intro x
                go_wp2_with (fail)
                have hB9 := HBW.out
                have hz9 : W0.heap.size ≤ z.out.heap.size := Nat.le_trans hB9.size z.size_le
                go_roundw
                case rel => exact ⟨i + 1, by omega, by go_num, (Later.mk_of (by repeat (first | (with_reducible assumption) | (with_reducible exact Below.refl _ _) | (with_reducible refine Later.after ?_ _) | (with_reducible refine Later.newer ?_ _) | (with_reducible refine Below.drew ?_) | (with_reducible refine Below.setCell ?_ (by first | exact Nat.le_refl _ | exact Nat.le_add_right _ _ | omega | (simp [go_sem]; done) | (simp [go_sem]; omega)) _))))⟩
                case measure => simp [intOf]; omega
              · have dn : decide ((1 : Int) < Ln) = true := by have := HLn.out; simp; omega
                have dn' : decide (1 < Ln) = true := by have := HLn.out; simp; omega
                have hne := chn_ends lc HNE.out M HMM.out (by omega) _ _ hL9 hF
                by_cases ex : x9 = sx
                · have ey : (y9 == sy) = false := by simp; intro e; exact hne (by rw [ex, e])
                  subst ex
                  clear hL9 hF hne
                  go_wp2_with (fail)
                  refine wp_region_later (by kernel_rfl) (by kernel_rfl) ?_
                  repeat (go_big_quiet_step ((first | fail)))
                  refine wpQuiet_nil ?_
                  intro x
                  go_wp2_with (fail)
                  have hB9 := HBW.out
                  have hz9 : W0.heap.size ≤ z.out.heap.size := Nat.le_trans hB9.size z.size_le
                  go_roundw
                  case rel => exact ⟨i + 1, by omega, by go_num, (Later.mk_of (by repeat (first | (with_reducible assumption) | (with_reducible exact Below.refl _ _) | (with_reducible refine Later.after ?_ _) | (with_reducible refine Later.newer ?_ _) | (with_reducible refine Below.drew ?_) | (with_reducible refine Below.setCell ?_ (by first | exact Nat.le_refl _ | exact Nat.le_add_right _ _ | omega | (simp [go_sem]; done) | (simp [go_sem]; omega)) _))))⟩
                  case measure => simp [intOf]; omega
                · have ex' : (x9 == sx) = false := by simp [ex]
                  clear hL9 hF hne ex
                  go_wp2_with (fail)
                  refine wp_region_later (by kernel_rfl) (by kernel_rfl) ?_
                  repeat (go_big_quiet_step ((first | fail)))
                  refine wpQuiet_nil ?_
                  intro x
                  go_wp2_with (fail)
                  have hB9 := HBW.out
                  have hz9 : W0.heap.size ≤ z.out.heap.size := Nat.le_trans hB9.size z.size_le
                  go_roundw
                  case rel => exact ⟨i + 1, by omega, by go_num, (Later.mk_of (by repeat (first | (with_reducible assumption) | (with_reducible exact Below.refl _ _) | (with_reducible refine Later.after ?_ _) | (with_reducible refine Later.newer ?_ _) | (with_reducible refine Below.drew ?_) | (with_reducible refine Below.setCell ?_ (by first | exact Nat.le_refl _ | exact Nat.le_add_right _ _ | omega | (simp [go_sem]; done) | (simp [go_sem]; omega)) _))))⟩
                  case measure => simp [intOf]; omega
          · obtain ⟨J, hJ⟩ : ∃ J, S = J + 1 := ⟨S - 1, by omega⟩
            have S9 : S ≤ 600 := by have := HSL.out; omega
            obtain ⟨a, haJ⟩ : ∃ a, s.segs[J]? = some a := ⟨_, List.getElem?_eq_getElem (by omega)⟩
            obtain ⟨bb, oo, cc, hvv, lbb, hcc, hcl'⟩ : ∃ b o c, v = .slice (some ⟨b, o, none⟩) s.segs.length c ∧ b < V.heap.size ∧ s.segs.length ≤ c ∧ ∀ (i : Nat) (s' : En), s.segs[i]? = some s' → ∀ j, j < 9 → V.cell? ⟨b, o + i * 9 + j, none⟩ = some (.int .i64 (s' j)) := by
              rcases HSV.out with ⟨h1, h2⟩ | h
              · rw [h2] at haJ; simp at haJ
              · exact h
            rw [hS] at hvv hcc
            subst hvv
            have hcs := hcl' J a haJ
            have j0 := hcs 0 (by omega)
            have j1 := hcs 1 (by omega)
            have j2 := hcs 2 (by omega)
            have j3 := hcs 3 (by omega)
            have j4 := hcs 4 (by omega)
            have j5 := hcs 5 (by omega)
            have j6 := hcs 6 (by omega)
            have j7 := hcs 7 (by omega)
            have j8 := hcs 8 (by omega)
            simp only [Nat.add_zero] at j0
            have hga := HSG3.out a (List.mem_of_getElem? haJ)
            obtain ⟨⟨e0, e1x⟩, hep⟩ : ∃ p, enP a = p := ⟨_, rfl⟩
            have hpe := fun W' => end_E a hga.1 W'
            rw [hep] at hpe
            have hse : (match s.segs.getLast? with | none => s.st | some g => enP g) = (e0, e1x) := by
              rw [List.getLast?_eq_getElem?, hS, hJ, Nat.add_sub_cancel, haJ]; exact hep
            have s1 : IntKind.i64.wrap ((S : Int) - 1) = (J : Int) := by rw [IntWalk.i64_in _ (by omega)]; omega
            have s2 : wrap64 ((S : Int) - 1) = (J : Int) := by unfold wrap64; omega
            have s3 : (S : Int) - 1 = (J : Int) := by omega
            have sJ : J < S := by omega
            have S0 : 0 < S := by omega
            have dS : decide (0 < S) = true := by simp; omega
            have dS' : decide ((0 : Int) < S) = true := by simp; omega
            have J0 : (0 : Int) ≤ J := by omega
            have HSE := Lib.hid hse
            have HPE := Lib.hid hpe
            clear hse hpe hS hS0 hJ hv' haJ hcs hcl' hga hep
            cases cl
            · have hL9 : (chn false lc)[M]? = some (e0, e1x) := chn_last lc (e0, e1x) (by rw [HLA.out]; exact congrArg some HSE.out) M HMM.out
              obtain ⟨p90, p91⟩ := HPT.out M _ hL9
              simp only [] at p90 p91
              have M0 : (0 : Int) ≤ M := by omega
              clear hL9
              go_wp2_with (fail)
              refine wp_region_later_tail 15 (by kernel_rfl) (by kernel_rfl) ?_
              simp only [List.take_succ_cons, List.take_zero, List.drop_succ_cons, List.drop_zero]
              repeat (go_big_quiet_step ((first | (go_at_call 26; with_reducible exact Later.call _ (HPE.out _)))))
              refine wpQuiet_nil ?_
              intro x
              go_wp2_with (fail)
              refine wp_region_later (by kernel_rfl) (by kernel_rfl) ?_
              repeat (go_big_quiet_step ((first | fail)))
              refine wpQuiet_nil ?_
              intro x
              go_wp2_with (fail)
              have hB9 := HBW.out
              have hz9 : W0.heap.size ≤ z.out.heap.size := Nat.le_trans hB9.size z.size_le
              go_roundw
              case rel => exact ⟨i + 1, by omega, by go_num, (Later.mk_of (by repeat (first | (with_reducible assumption) | (with_reducible exact Below.refl _ _) | (with_reducible refine Later.after ?_ _) | (with_reducible refine Later.newer ?_ _) | (with_reducible refine Below.drew ?_) | (with_reducible refine Below.setCell ?_ (by first | exact Nat.le_refl _ | exact Nat.le_add_right _ _ | omega | (simp [go_sem]; done) | (simp [go_sem]; omega)) _))))⟩
              case measure => simp [intOf]; omega
            · obtain ⟨⟨x9, y9⟩, hL9⟩ : ∃ p, (chn true lc)[M]? = some p := ⟨_, List.getElem?_eq_getElem (by rw [HMM.out]; omega)⟩
              have hF := chn_first true lc (sx, sy) HHD2.out
              obtain ⟨p90, p91⟩ := HPT.out M _ hL9
              simp only [] at p90 p91
              have M0 : (0 : Int) ≤ M := by omega
              by_cases hm : M = 0
              · have dn : decide ((1 : Int) < Ln) = false := by have := HLn.out; simp; omega
                have dn' : decide (1 < Ln) = false := by have := HLn.out; simp; omega
                clear hL9 hF
                go_wp2_with (fail)
                refine wp_region_later_tail 15 (by kernel_rfl) (by kernel_rfl) ?_
                simp only [List.take_succ_cons, List.take_zero, List.drop_succ_cons, List.drop_zero]
                repeat (go_big_quiet_step ((first | (go_at_call 26; with_reducible exact Later.call _ (HPE.out _)))))
                refine wpQuiet_nil ?_
                intro x
                go_wp2_with (fail)
                refine wp_region_later (by kernel_rfl) (by kernel_rfl) ?_
                repeat (go_big_quiet_step ((first | fail)))
                refine wpQuiet_nil ?_
                intro x
                go_wp2_with (fail)
                have hB9 := HBW.out
                have hz9 : W0.heap.size ≤ z.out.heap.size := Nat.le_trans hB9.size z.size_le
                go_roundw
                case rel => exact ⟨i + 1, by omega, by go_num, (Later.mk_of (by repeat (first | (with_reducible assumption) | (with_reducible exact Below.refl _ _) | (with_reducible refine Later.after ?_ _) | (with_reducible refine Later.newer ?_ _) | (with_reducible refine Below.drew ?_) | (with_reducible refine Below.setCell ?_ (by first | exact Nat.le_refl _ | exact Nat.le_add_right _ _ | omega | (simp [go_sem]; done) | (simp [go_sem]; omega)) _))))⟩
                case measure => simp [intOf]; omega
              · have dn : decide ((1 : Int) < Ln) = true := by have := HLn.out; simp; omega
                have dn' : decide (1 < Ln) = true := by have := HLn.out; simp; omega
                have hne := chn_ends lc HNE.out M HMM.out (by omega) _ _ hL9 hF
                by_cases ex : x9 = sx
                · have ey : (y9 == sy) = false := by simp; intro e; exact hne (by rw [ex, e])
                  subst ex
                  clear hL9 hF hne
                  go_wp2_with (fail)
                  refine wp_region_later_tail 15 (by kernel_rfl) (by kernel_rfl) ?_
                  simp only [List.take_succ_cons, List.take_zero, List.drop_succ_cons, List.drop_zero]
                  repeat (go_big_quiet_step ((first | (go_at_call 26; with_reducible exact Later.call _ (HPE.out _)))))
                  refine wpQuiet_nil ?_
                  intro x
                  go_wp2_with (fail)
                  refine wp_region_later (by kernel_rfl) (by kernel_rfl) ?_
                  repeat (go_big_quiet_step ((first | fail)))
                  refine wpQuiet_nil ?_
                  intro x
                  go_wp2_with (fail)
                  have hB9 := HBW.out
                  have hz9 : W0.heap.size ≤ z.out.heap.size := Nat.le_trans hB9.size z.size_le
                  go_roundw
                  case rel => exact ⟨i + 1, by omega, by go_num, (Later.mk_of (by repeat (first | (with_reducible assumption) | (with_reducible exact Below.refl _ _) | (with_reducible refine Later.after ?_ _) | (with_reducible refine Later.newer ?_ _) | (with_reducible refine Below.drew ?_) | (with_reducible refine Below.setCell ?_ (by first | exact Nat.le_refl _ | exact Nat.le_add_right _ _ | omega | (simp [go_sem]; done) | (simp [go_sem]; omega)) _))))⟩
                  case measure => simp [intOf]; omega
                · have ex' : (x9 == sx) = false := by simp [ex]
                  clear hL9 hF hne ex
                  go_wp2_with (fail)
                  refine wp_region_later_tail 15 (by kernel_rfl) (by kernel_rfl) ?_
                  simp only [List.take_succ_cons, List.take_zero, List.drop_succ_cons, List.drop_zero]
                  repeat (go_big_quiet_step ((first | (go_at_call 26; with_reducible exact Later.call _ (HPE.out _)))))
                  refine wpQuiet_nil ?_
                  intro x
                  go_wp2_with (fail)
                  refine wp_region_later (by kernel_rfl) (by kernel_rfl) ?_
                  repeat (go_big_quiet_step ((first | fail)))
                  refine wpQuiet_nil ?_
                  intro x
                  go_wp2_with (fail)
                  have hB9 := HBW.out
                  have hz9 : W0.heap.size ≤ z.out.heap.size := Nat.le_trans hB9.size z.size_le
                  go_roundw
                  case rel => exact ⟨i + 1, by omega, by go_num, (Later.mk_of (by repeat (first | (with_reducible assumption) | (with_reducible exact Below.refl _ _) | (with_reducible refine Later.after ?_ _) | (with_reducible refine Later.newer ?_ _) | (with_reducible refine Below.drew ?_) | (with_reducible refine Below.setCell ?_ (by first | exact Nat.le_refl _ | exact Nat.le_add_right _ _ | omega | (simp [go_sem]; done) | (simp [go_sem]; omega)) _))))⟩
                  case measure => simp [intOf]; omega
    · obtain rfl : i = N := by omega
      have hd : decide (i < i) = false := by simp
      go_wp2_with (fail)
      have hB0 := HB0.out
      exact bodyPost_ret (v := .bool true) (by simp [results, Try.results9, go_sem, *]) rfl ⟨rfl, (Later.mk_of (by repeat (first | (with_reducible assumption) | (with_reducible exact Below.refl _ _) | (with_reducible refine Later.after ?_ _) | (with_reducible refine Later.newer ?_ _) | (with_reducible refine Below.drew ?_) | (with_reducible refine Below.setCell ?_ (by first | exact Nat.le_refl _ | exact Nat.le_add_right _ _ | omega | (simp [go_sem]; done) | (simp [go_sem]; omega)) _))))⟩


theorem fc_walk (vs : List Int) (pts : List (Int × Int)) (vv sv : Value) (tol : Int) (t0 : 0 ≤ tol) (t9 : tol ≤ 65535) (w : World) (hv : IntsAt w vv vs) (hp : PtsAt w sv pts) :
    Calls Try.prog 9 #[.agg #[vv, sv], .int .u16 tol] w fun e w' => e = .returned (.bool true) ∧ ∃ x : Later w, w' = x.out := by
  have hs : ∀ W', Below w.heap.size w W' → Calls Try.prog 24 #[.agg #[vv, sv]] W' (SplitRet W' (chk vs pts)) :=
    fun W' k => split_c vs pts vv sv W' (hv.below k (Nat.le_refl _)) (ptsAt_under hp k (Nat.le_refl _))
  have n9 := hv.le
  have m9 := ptsAt_le hp
  obtain ⟨av, cv, rfl⟩ := hv.form
  obtain ⟨ap, cp, rfl⟩ := ptsAt_form hp
  by_cases h1 : vs.length ≤ 12
  · have d1 : decide ((12 : Int) < vs.length) = false := by simp; omega
    by_cases h2 : pts.length ≤ 40
    · have d2 : decide ((40 : Int) < pts.length) = false := by simp; omega
      by_cases hz : chk vs pts = 0
      · rw [hz] at hs
        exact fc_main tol _ _ av ap cv cp w n9 m9 t0 t9 (fun W' k => (hs W' k).mono fun e w' h => h.ok) d1 d2
      · exact fc_early3 (chk vs pts) tol _ _ av ap cv cp w n9 m9 (fun W' k => (hs W' k).mono fun e w' h => h.any) d1 d2 (by simp [hz])
    · exact fc_early2 (chk vs pts) tol _ _ av ap cv cp w n9 m9 (fun W' k => (hs W' k).mono fun e w' h => h.any) d1 (by simp; omega)
  · exact fc_early1 (chk vs pts) tol _ _ av ap cv cp w n9 m9 (fun W' k => (hs W' k).mono fun e w' h => h.any) (by simp; omega)

end Go.Proofs.Ytcdnekhpeghkiaa
