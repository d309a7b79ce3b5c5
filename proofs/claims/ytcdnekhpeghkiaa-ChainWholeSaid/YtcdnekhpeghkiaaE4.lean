/-
  The whole of a chain: walked.
-/
import Derived.Test.YtcdnekhpeghkiaaE3
import Derived.Test.YtcdnekhpeghkiaaP1
namespace Go.Proofs.Ytcdnekhpeghkiaa
set_option linter.unusedVariables false
open Go.RowKit

theorem PtsAt.drew {W : World} {v : Value} {pts : List (Int × Int)} (h : PtsAt W v pts) : PtsAt W.drew v pts := h.below (Below.refl _ W).drew (Nat.le_refl _)
theorem fl_one' (l : List (Int × Int)) (x : Value) (h : x ∈ fl l) : x.oneCell' = true := by
  unfold fl at h
  rw [List.mem_flatMap] at h
  obtain ⟨q, _, hq⟩ := h
  simp only [List.mem_cons, List.not_mem_nil, or_false] at hq
  rcases hq with rfl | rfl <;> rfl
theorem PtsB.fl_at {W : World} {b o : Nat} {pts : List (Int × Int)} (h : PtsB W b o pts) : ∀ j u, (fl pts)[j]? = some u → W.cell? ((⟨b, o, none⟩ : Addr).add j) = some u := by
  intro j u hu
  rw [Addr.add_mid]
  have hj : j < (fl pts).length := (List.getElem?_eq_some_iff.1 hu).1
  rw [fl_len] at hj
  obtain ⟨i, hi⟩ : ∃ i, j = i * 2 ∨ j = i * 2 + 1 := ⟨j / 2, by omega⟩
  have hil : i < pts.length := by omega
  have hp : pts[i]? = some pts[i] := List.getElem?_eq_getElem hil
  obtain ⟨c1, c2⟩ := h.cell i _ hp
  obtain ⟨d1, d2⟩ := Go.Proofs.Ytcdnekhpeghkiaa.fl_at pts i _ hp
  rcases hi with rfl | rfl
  · rw [d1] at hu; rw [← Option.some.inj hu]; exact c1
  · rw [d2] at hu; rw [← Option.some.inj hu]; exact c2
theorem PtsB.ptsIn {W : World} {g : Nat} {l : List (Int × Int)} (h : PtsB W g 0 l) : PtsIn W g l := ⟨h.lt, fun i p hp => by have := h.cell i p hp; rwa [Nat.zero_add] at this⟩
theorem PtsB.grown {W W' : World} {b o N : Nat} {l : List (Int × Int)} {row : Option Nat} (h : PtsB W b o l) (hg : W.grownBy W' row) (hr : ∀ r, row = some r → N ≤ r) (hb : b < N) : PtsB W' b o l :=
  h.heap (hg.block b h.lt (fun e => by have := hr b e.symm; omega))
theorem PtsB.other {W : World} {b b' o : Nat} {l : List (Int × Int)} (h : PtsB W b o l) (i : Nat) (v : Value) (hne : b ≠ b') : PtsB (W.setCell ⟨b', i, none⟩ v) b o l := h.heap (Below.heap_setCell W _ v b hne)
set_option maxRecDepth 100000 in
set_option maxHeartbeats 4000000 in
theorem whole_walk (sv : Value) (cl : Bool) (pts : List (Int × Int)) (w : World) (h : PtsAt w sv pts) :
    Calls Try.prog 5 #[.agg #[sv, .bool cl]] w fun e w' => e = .returned (.bool true) ∧ ∃ x : Later w, w' = x.out := by
  have hg := fun w' h' => good12_c cl pts sv w' h'
  have HPA := Lib.hid h
  cases e : gdB cl pts
  · rw [e] at hg
    have HG := Lib.hid hg
    clear hg h e
    go_enter Try.func5, Try.ntmps5
    go_wp2_with (first | (go_at_call 16; (with_reducible refine (HG.out _ (by repeat (first | (with_reducible exact HPA.out) | (with_reducible refine PtsAt.later ?_ _) | (with_reducible refine PtsAt.drew ?_) | (with_reducible refine PtsAt.alloc ?_ _)))).mono ?_); rintro e _ ⟨rfl, x, rfl⟩) | (go_at_call 17; (with_reducible refine (shown_12 _).mono ?_); rintro e _ ⟨rfl, x, rfl⟩))
    exact bodyPost_ret (v := .bool true) (by simp [results, Try.results5, go_sem, *]) rfl ⟨rfl, (Later.mk_of (by repeat (first | (with_reducible assumption) | (with_reducible exact Below.refl _ _) | (with_reducible refine Later.after ?_ _) | (with_reducible refine Later.newer ?_ _) | (with_reducible refine Below.drew ?_) | (with_reducible refine Below.setCell ?_ (by first | exact Nat.le_refl _ | exact Nat.le_add_right _ _ | omega | (simp [go_sem]; done) | (simp [go_sem]; omega)) _))))⟩
  have g := gdB_is e
  rw [e] at hg
  have htot := fun w' h' => total_c cl pts g sv w' h'
  obtain ⟨L, hL⟩ : ∃ L, g.ch.cut (min (g.ch.held 0) (g.ch.held (g.ch.ln g.ch.m))) (g.ch.held (g.ch.ln g.ch.m)) = L := ⟨_, rfl⟩
  obtain ⟨N, hN⟩ : ∃ N, L.length = N := ⟨_, rfl⟩
  have hcut := fun w' h' => kr_c cl pts g sv 0 (g.ch.ln g.ch.m) w' L N hL hN h'
  have hT0 := g.ch.ln_pos g.ch.m (Nat.le_refl _)
  rw [Ch.held_id g.ch 0 (by omega) hT0, Ch.held_id g.ch (g.ch.ln g.ch.m) hT0 (by omega), show min 0 (g.ch.ln g.ch.m) = 0 by omega, Ch.cut_whole, g.ends] at hL
  generalize g.ch.ln g.ch.m = T at *
  obtain ⟨Bp, o, c, rfl, hc, hm, hp⟩ := h.ptsB g.n1
  have n1 := g.n1
  have n9 := g.n9
  have HG := Lib.hid hg
  have HCUT := Lib.hid hcut
  have HTOT := Lib.hid htot
  have HN' := Lib.hid hN
  have HL := Lib.hid hL
  have HP := Lib.hid hp
  have lb := hp.lt
  clear hg hcut htot hN hL hT0 h e hp
  generalize hn : pts.length = n at *
  have HN := Lib.hid hn
  clear hn
  obtain ⟨i0, hi0, hz0, hz1, hz2⟩ := infoPt
  go_enter Try.func5, Try.ntmps5
  go_upto_region 3 with (first | (go_at_call 16; (with_reducible refine (HG.out _ (by repeat (first | (with_reducible exact HPA.out) | (with_reducible refine PtsAt.later ?_ _) | (with_reducible refine PtsAt.drew ?_) | (with_reducible refine PtsAt.alloc ?_ _)))).mono ?_); rintro e _ ⟨rfl, x, rfl⟩) | (go_at_call 17; (with_reducible refine (shown_12 _).mono ?_); rintro e _ ⟨rfl, x, rfl⟩))
  go_cut [3] from 13 to 16 (fun s3 wx => ∃ g3 gk capk : Nat, s3 = .pointer (some ⟨g3, 0, none⟩) ∧ Blk wx g3 36 #[.slice (some ⟨gk, 0, none⟩) N capk, .bool false] ∧ PtsB wx gk 0 L ∧ Blk wx w.heap.size 36 #[.slice (some ⟨Bp, o, none⟩) n c, .bool cl] ∧ Below w.heap.size w wx)
  case first =>
    have bS0 : Blk x.out w.heap.size 36 #[.slice (some ⟨Bp, o, none⟩) n c, .bool cl] := (by repeat (first | (with_reducible assumption) | (with_reducible refine Blk.later ?_ _) | (with_reducible refine Blk.drew ?_) | ((with_reducible refine Blk.new' ?_); (simp; done)) | (with_reducible refine Blk.alloc ?_ _)))
    have bW0 : Below w.heap.size w x.out := (by repeat (first | (with_reducible assumption) | (with_reducible exact Below.refl _ _) | (with_reducible refine Later.after ?_ _) | (with_reducible refine Later.newer ?_ _) | (with_reducible refine Below.drew ?_) | (with_reducible refine Below.setCell ?_ (by first | exact Nat.le_refl _ | exact Nat.le_add_right _ _ | omega | (simp [go_sem]; done) | (simp [go_sem]; omega)) _)))
    have hpa0 : PtsAt x.out (.slice (some ⟨Bp, o, none⟩) n c) pts := (by repeat (first | (with_reducible exact HPA.out) | (with_reducible refine PtsAt.later ?_ _) | (with_reducible refine PtsAt.drew ?_) | (with_reducible refine PtsAt.alloc ?_ _)))
    clear HPA
    generalize x.out = V0 at *
    have HPA := Lib.hid hpa0
    obtain ⟨c1, c2, c3⟩ := bS0.all
    go_region_held3 (fun w' => w'.cell? ⟨w.heap.size, 0, none⟩ = some (.slice (some ⟨Bp, o, none⟩) n c) ∧ w'.cell? ⟨w.heap.size, 1, none⟩ = some (.bool cl)) ((simp [go_sem, *]; done))
      (first | (go_at_call 20; (with_reducible refine (HTOT.out _ (by repeat (first | (with_reducible exact HPA.out) | (with_reducible refine PtsAt.later ?_ _) | (with_reducible refine PtsAt.drew ?_) | (with_reducible refine PtsAt.alloc ?_ _)))).mono ?_); rintro _ _ ⟨rfl, x2, rfl⟩) | (go_at_call 18; (with_reducible refine (HCUT.out _ (by repeat (first | (with_reducible exact HPA.out) | (with_reducible refine PtsAt.later ?_ _) | (with_reducible refine PtsAt.drew ?_) | (with_reducible refine PtsAt.alloc ?_ _)))).mono ?_); rintro _ _ ⟨gk, capk, rfl, hok, hck, hgk, x3, rfl⟩; have HOK := Lib.hid hok; clear hok))
    all_goals
      go_wp2_with (fail)
      go_meet
    · refine ⟨_, gk, capk, rfl, Blk.new _ _ _, HOK.out.alloc _, (by repeat (first | (with_reducible assumption) | (with_reducible refine Blk.later ?_ _) | (with_reducible refine Blk.drew ?_) | ((with_reducible refine Blk.new' ?_); (simp; done)) | (with_reducible refine Blk.alloc ?_ _) | (with_reducible refine Blk.other ?_ _ _ (by first | omega | (simp; done) | (simp; omega))))), (by repeat (first | (with_reducible assumption) | (with_reducible exact Below.refl _ _) | (with_reducible refine Later.after ?_ _) | (with_reducible refine Later.newer ?_ _) | (with_reducible refine Below.drew ?_) | (with_reducible refine Below.setCell ?_ (by first | exact Nat.le_refl _ | exact Nat.le_add_right _ _ | omega | (simp [go_sem]; done) | (simp [go_sem]; omega)) _)))⟩
    · have q2 := x2.size_le
      have q3 := x3.size_le
      simp only [World.size_alloc, World.size_drew] at q2 q3 hgk
      have zb : Blk x3.out x2.out.heap.size 36 #[.slice none 0 0, .bool false] := (Blk.new x2.out _ _).later x3
      have bs : Blk x3.out w.heap.size 36 #[.slice (some ⟨Bp, o, none⟩) n c, .bool cl] := ((bS0.drew.later x2).alloc _).later x3
      exact ⟨_, gk, capk, rfl, ((zb.set 0 _).set 1 _).eq (by simp), (HOK.out.other _ _ (by omega)).other _ _ (by omega), (bs.other _ _ (by omega)).other _ _ (by omega), (by repeat (first | (with_reducible assumption) | (with_reducible exact Below.refl _ _) | (with_reducible refine Later.after ?_ _) | (with_reducible refine Later.newer ?_ _) | (with_reducible refine Below.drew ?_) | (with_reducible refine Below.setCell ?_ (by first | exact Nat.le_refl _ | exact Nat.le_add_right _ _ | omega | (simp [go_sem]; done) | (simp [go_sem]; omega)) _)))⟩
    · have q2 := x2.size_le
      have q3 := x3.size_le
      simp only [World.size_alloc, World.size_drew] at q2 q3 hgk
      have zb : Blk x3.out V0.heap.size 36 #[.slice none 0 0, .bool false] := ((Blk.new V0 _ _).drew.later x2).later x3
      have bs : Blk x3.out w.heap.size 36 #[.slice (some ⟨Bp, o, none⟩) n c, .bool cl] := ((bS0.alloc _).drew.later x2).later x3
      exact ⟨_, gk, capk, rfl, ((zb.set 0 _).set 1 _).eq (by simp), (HOK.out.other _ _ (by omega)).other _ _ (by omega), (bs.other _ _ (by omega)).other _ _ (by omega), (by repeat (first | (with_reducible assumption) | (with_reducible exact Below.refl _ _) | (with_reducible refine Later.after ?_ _) | (with_reducible refine Later.newer ?_ _) | (with_reducible refine Below.drew ?_) | (with_reducible refine Below.setCell ?_ (by first | exact Nat.le_refl _ | exact Nat.le_add_right _ _ | omega | (simp [go_sem]; done) | (simp [go_sem]; omega)) _)))⟩
  case rest =>
    obtain ⟨g3, gk, capk, rfl, hb3, hk0, hbS, hV⟩ := hcut
    obtain ⟨y1, y2, y3⟩ := hbS.all
    obtain ⟨z1, z2, z3⟩ := hb3.all
    have lS := hbS.lt
    have lk := hb3.lt
    have lgk := hk0.lt
    have HB0 := Lib.hid hbS
    have HBk := Lib.hid hb3
    have HK0 := Lib.hid hk0
    have hpb := HP.out.below hV lb
    have lpb := hpb.lt
    have HPB := Lib.hid hpb
    have ho0 : (wc.alloc (.cells #[] 23)).ownsRow wc.heap.size 23 2 (.slice (some ⟨wc.heap.size, 0, none⟩) 0 0) 0 [] := World.ownsRow_lit wc #[] 0 (Nat.le_refl _) (by unfold maxLen; omega) rfl
    have HO0 := Lib.hid ho0
    have HV := Lib.hid hV
    clear hbS hb3 hk0 hpb ho0 hV HPA
    by_cases hcl : cl = true ∧ 1 < n
    · have hL2 : L = pts ++ [cor pts 0] := by have h := HL.out; rw [if_pos hcl] at h; exact h.symm
      obtain ⟨rfl, hn1⟩ := hcl
      obtain rfl : N = n + 1 := by rw [← HN'.out, hL2, List.length_append, HN.out]; rfl
      have f1 : decide (1 < n) = true := by simp [hn1]
      have f2 : decide ((1 : Int) < n) = true := by simp; omega
      have n0 : 0 < n := by omega
      have HL2 := Lib.hid hL2
      clear hL2
      go_wp2_with (first | (at_builtin; refine wpList_append_own _ rfl _ _ 30 rfl wc.heap.size 23 i0 (.agg #[.int .i64 0, .int .i64 0]) 2 16 Try.underlying30 hi0 hz0 hz1 hz2 rfl (by decide) _ _ _ rfl (HO0.out) ⟨Bp, o, none⟩ n c (fl pts) rfl (by rw [fl_len, HN.out]) (HPB.out.alloc _).fl_at (fun x hx => fl_one' pts x hx) (by unfold maxLen; omega) (by omega) (by simp) ?_; intro v1 w1 hown hgrow hnil; simp only [Nat.zero_add, List.nil_append] at hown; obtain ⟨g1, cap1, rfl⟩ := Go.Joins.ownsRow_form hown (by omega); have bz := ((HB0.out.alloc _).below_grown (N := wc.heap.size) hgrow (fun r hr => by cases hr; exact Nat.le_refl _) lS); have bk := ((HBk.out.alloc _).below_grown (N := wc.heap.size) hgrow (fun r hr => by cases hr; exact Nat.le_refl _) lk); obtain ⟨y1, y2, y3⟩ := bz.all; obtain ⟨z1, z2, z3⟩ := bk.all; have HBZ := Lib.hid bz; have HBK := Lib.hid bk; have q0 := (own_ptsB hown).cell 0 _ (cor_at pts 0 (by rw [HN.out]; omega)); have ql := (own_ptsB hown).lt; obtain ⟨q0, q1⟩ := q0; simp only [Nat.zero_add, Nat.zero_mul, Nat.add_zero] at q0 q1; have HO1 := Lib.hid hown; have HW1 := Lib.hid hgrow; clear hown hgrow hnil bz bk) | (at_builtin; refine wpList_append_own _ rfl _ _ 30 rfl wc.heap.size 23 i0 (.agg #[.int .i64 0, .int .i64 0]) 2 16 Try.underlying30 hi0 hz0 hz1 hz2 rfl (by decide) _ _ _ rfl (HO1.out.alloc _) ⟨w1.heap.size, 0, none⟩ 1 1 [.int .i64 (cor pts 0).1, .int .i64 (cor pts 0).2] rfl rfl (two_new _ _ _ _) (two_cell _ _) (by unfold maxLen; omega) (by omega) (by have := HW1.out.size; simp at this ⊢; omega) ?_; intro v2 w2 hown hgrow hnil; obtain ⟨g2, cap2, rfl⟩ := Go.Joins.ownsRow_form hown (by omega); have bz := ((HBZ.out.alloc _).below_grown (N := wc.heap.size) hgrow (fun r hr => by cases hr; exact (HO1.out.lt _ rfl).1) lS); have bk := ((HBK.out.alloc _).below_grown (N := wc.heap.size) hgrow (fun r hr => by cases hr; exact (HO1.out.lt _ rfl).1) lk); obtain ⟨y1, y2, y3⟩ := bz.all; obtain ⟨z1, z2, z3⟩ := bk.all; have HO2 := Lib.hid hown; have HW2 := Lib.hid hgrow; clear hown hgrow hnil bz bk) | (go_at_call 13; have s1 : PtsIn w2 gk L := ((((HK0.out.alloc _).grown HW1.out (N := wc.heap.size) (fun r hr => by cases hr; exact Nat.le_refl _) lgk).alloc _).grown HW2.out (N := wc.heap.size) (fun r hr => by cases hr; exact (HO1.out.lt _ rfl).1) lgk).ptsIn; have s2 : PtsIn w2 g2 L := PtsIn.own (base := wc.heap.size) (n := n + 1) (cap := cap2) (by rw [HL2.out, fl_app]; exact HO2.out); (with_reducible refine (same_c _ _ _ _ _ _ L HN'.out (by omega) s1 s2).mono ?_); rintro e _ ⟨rfl, x, rfl⟩))
      have hb9 : Below w.heap.size w w2 := (HV.out.trans ((Below.grown ((Below.grown ((Below.refl _ wc).alloc (Nat.le_refl _) _) HW1.out (by simp) (fun r hr => by cases hr; exact Nat.le_refl _)).alloc (by have := HW1.out.size; simp at this; omega) _) HW2.out (by have := HW1.out.size; simp at this ⊢; omega) (fun r hr => by cases hr; exact (HO1.out.lt _ rfl).1)).mono HV.out.size))
      exact bodyPost_ret (v := .bool true) (by simp [results, Try.results5, go_sem, *]) rfl ⟨rfl, (Later.mk_of (by repeat (first | (with_reducible assumption) | (with_reducible exact Below.refl _ _) | (with_reducible refine Later.after ?_ _) | (with_reducible refine Later.newer ?_ _) | (with_reducible refine Below.drew ?_) | (with_reducible refine Below.setCell ?_ (by first | exact Nat.le_refl _ | exact Nat.le_add_right _ _ | omega | (simp [go_sem]; done) | (simp [go_sem]; omega)) _))))⟩
    · have hL2 : L = pts := by have h := HL.out; rw [if_neg hcl] at h; exact h.symm
      obtain rfl : N = n := by rw [← HN'.out, hL2, HN.out]
      have hz : cl = false ∨ (cl = true ∧ decide (1 < N) = false ∧ decide ((1 : Int) < N) = false) := by
        cases cl
        · exact .inl rfl
        · refine .inr ⟨rfl, ?_⟩
          simp at hcl ⊢
          omega
      have HL2 := Lib.hid hL2
      clear hL2 hcl
      rcases hz with rfl | ⟨rfl, f1, f2⟩
      all_goals
        go_wp2_with (first | (at_builtin; refine wpList_append_own _ rfl _ _ 30 rfl wc.heap.size 23 i0 (.agg #[.int .i64 0, .int .i64 0]) 2 16 Try.underlying30 hi0 hz0 hz1 hz2 rfl (by decide) _ _ _ rfl (HO0.out) ⟨Bp, o, none⟩ N c (fl pts) rfl (by rw [fl_len, HN.out]) (HPB.out.alloc _).fl_at (fun x hx => fl_one' pts x hx) (by unfold maxLen; omega) (by omega) (by simp) ?_; intro v1 w1 hown hgrow hnil; simp only [Nat.zero_add, List.nil_append] at hown; obtain ⟨g1, cap1, rfl⟩ := Go.Joins.ownsRow_form hown (by omega); have bz := ((HB0.out.alloc _).below_grown (N := wc.heap.size) hgrow (fun r hr => by cases hr; exact Nat.le_refl _) lS); have bk := ((HBk.out.alloc _).below_grown (N := wc.heap.size) hgrow (fun r hr => by cases hr; exact Nat.le_refl _) lk); obtain ⟨y1, y2, y3⟩ := bz.all; obtain ⟨z1, z2, z3⟩ := bk.all; have HBZ := Lib.hid bz; have HBK := Lib.hid bk; have q0 := (own_ptsB hown).cell 0 _ (cor_at pts 0 (by rw [HN.out]; omega)); have ql := (own_ptsB hown).lt; obtain ⟨q0, q1⟩ := q0; simp only [Nat.zero_add, Nat.zero_mul, Nat.add_zero] at q0 q1; have HO1 := Lib.hid hown; have HW1 := Lib.hid hgrow; clear hown hgrow hnil bz bk) | (go_at_call 13; have s1 : PtsIn w1 gk L := (((HK0.out.alloc _).grown HW1.out (N := wc.heap.size) (fun r hr => by cases hr; exact Nat.le_refl _) lgk)).ptsIn; have s2 : PtsIn w1 g1 L := PtsIn.own (base := wc.heap.size) (n := N) (cap := cap1) (by rw [HL2.out]; exact HO1.out); (with_reducible refine (same_c _ _ _ _ _ _ L HN'.out (by omega) s1 s2).mono ?_); rintro e _ ⟨rfl, x, rfl⟩))
        have hb9 : Below w.heap.size w w1 := (HV.out.trans ((Below.grown ((Below.refl _ wc).alloc (Nat.le_refl _) _) HW1.out (by simp) (fun r hr => by cases hr; exact Nat.le_refl _)).mono HV.out.size))
        exact bodyPost_ret (v := .bool true) (by simp [results, Try.results5, go_sem, *]) rfl ⟨rfl, (Later.mk_of (by repeat (first | (with_reducible assumption) | (with_reducible exact Below.refl _ _) | (with_reducible refine Later.after ?_ _) | (with_reducible refine Later.newer ?_ _) | (with_reducible refine Below.drew ?_) | (with_reducible refine Below.setCell ?_ (by first | exact Nat.le_refl _ | exact Nat.le_add_right _ _ | omega | (simp [go_sem]; done) | (simp [go_sem]; omega)) _))))⟩
end Go.Proofs.Ytcdnekhpeghkiaa
