/-
  ScriptAgain: walked.
-/
import Derived.Test.YtjmagehfkcnjjaaGreatDoorSHS
import Derived.Test.YtjmagehfkcnjjaaGreatDoorKZ
import Derived.Test.YtjmagehfkcnjjaaGreatDoorRSM
import Derived.Test.YtjmagehfkcnjjaaGreatDoorFT
namespace Go.Proofs.YtjmagehfkcnjjaaGreatDoor
set_option linter.unusedVariables false
open Go.RowKit

set_option maxRecDepth 100000 in
set_option maxHeartbeats 2000000 in
theorem ag_f1 (l : List (Int × Int)) (sv : Value) (w : World) (hp : PtsAt w sv l) (hsh : ∀ v, Below w.heap.size w v → Calls Tryz.prog 17 #[] v fun e w' => e = .returned (.bool true) ∧ ∃ x : Later v, w' = x.out) (h : 30 < l.length) :
    Calls Tryz.prog 7 #[sv] w fun e w' => e = .returned (.bool true) ∧ ∃ x : Later w, w' = x.out := by
  have HSH := Lib.hid hsh
  have HP := Lib.hid hp
  obtain ⟨ap, cp, rfl⟩ := ptsAt_form hp
  clear hsh hp
  have d1 : decide ((30 : Int) < (l.length : Int)) = true := by simp; omega
  generalize l.length = n at *
  go_enter Tryz.func7, Tryz.ntmps7
  go_wp2_with (first | (go_at_call 17; (with_reducible refine (HSH.out _ (by repeat (first | (with_reducible assumption) | (with_reducible exact Below.refl _ _) | (with_reducible refine Later.after ?_ _) | (with_reducible refine Later.newer ?_ _) | (with_reducible refine Below.drew ?_) | (with_reducible refine Below.setCell ?_ (by first | exact Nat.le_refl _ | exact Nat.le_add_right _ _ | omega | (simp [go_sem]; done) | (simp [go_sem]; omega)) _)))).mono ?_); rintro e _ ⟨rfl, xs, rfl⟩))
  exact bodyPost_ret (v := .bool true) (by simp [results, Tryz.results7, go_sem, *]) rfl ⟨rfl, (Later.mk_of (by repeat (first | (with_reducible assumption) | (with_reducible exact Below.refl _ _) | (with_reducible refine Later.after ?_ _) | (with_reducible refine Later.newer ?_ _) | (with_reducible refine Below.drew ?_) | (with_reducible refine Below.setCell ?_ (by first | exact Nat.le_refl _ | exact Nat.le_add_right _ _ | omega | (simp [go_sem]; done) | (simp [go_sem]; omega)) _))))⟩
theorem take_snoc (l : List (Int × Int)) (i : Nat) (q : Int × Int) (h : l[i]? = some q) : l.take (i + 1) = l.take i ++ [q] := by rw [List.take_add_one, h]; rfl
theorem one_eq (q : Int × Int) : (⟨#[77, 32]⟩ : ByteArray) ++ (⟨(prn q.1).toArray⟩ ++ ⟨#[32]⟩ ++ ⟨(prn q.2).toArray⟩) = ⟨(onceT [q]).toArray⟩ ∧ onceT [q] = eachT [q] := by
  refine ⟨?_, by rw [onceT_one, eachT_one]⟩
  rw [onceT_one]
  apply ByteArray.ext
  simp
theorem once_eq (l : List (Int × Int)) (q : Int × Int) (h : l ≠ []) : (⟨(onceT l).toArray⟩ : ByteArray) ++ ⟨#[44]⟩ ++ (⟨(prn q.1).toArray⟩ ++ ⟨#[32]⟩ ++ ⟨(prn q.2).toArray⟩) = ⟨(onceT (l ++ [q])).toArray⟩ := by
  rw [onceT_snoc l q h]
  apply ByteArray.ext
  simp
theorem each_eq (l : List (Int × Int)) (q : Int × Int) (h : l ≠ []) : (⟨(eachT l).toArray⟩ : ByteArray) ++ ⟨#[32, 76, 32]⟩ ++ (⟨(prn q.1).toArray⟩ ++ ⟨#[32]⟩ ++ ⟨(prn q.2).toArray⟩) = ⟨(eachT (l ++ [q])).toArray⟩ := by
  rw [eachT_snoc l q h]
  apply ByteArray.ext
  simp
theorem agm_alloc {W : World} {v : Value} {l : List (Int × Int)} (h : PtsAt W v l) (o : Obj) : PtsAt (W.alloc o) v l := ptsAt_under h ((Below.refl _ W).alloc (Nat.le_refl _) o) (Nat.le_refl _)
theorem agm_later {W : World} {v : Value} {l : List (Int × Int)} (h : PtsAt W v l) (x : Later W) : PtsAt x.out v l := ptsAt_under h x.below (Nat.le_refl _)
theorem agm_drew {W : World} {v : Value} {l : List (Int × Int)} (h : PtsAt W v l) : PtsAt W.drew v l := ptsAt_under h (Below.refl _ W).drew (Nat.le_refl _)
set_option maxRecDepth 100000 in
set_option maxHeartbeats 4000000 in
theorem ag_ok (l : List (Int × Int)) (sv : Value) (w : World) (vs : List Int) (pts : List (Int × Int)) (k1 k2 : Int) (hp : PtsAt w sv l) (hsh : ∀ v, Below w.heap.size w v → Calls Tryz.prog 17 #[] v fun e w' => e = .returned (.bool true) ∧ ∃ x : Later v, w' = x.out) (h : ¬ 30 < l.length) (hI : ∀ p ∈ l, I64 p.1 ∧ I64 p.2)
    (h1 : ∀ v, Below w.heap.size w v → Calls Tryz.prog 21 #[.string ⟨(onceT l).toArray⟩] v (SRet v (vs, pts, 0, 0)))
    (h2 : ∀ v, Below w.heap.size w v → Calls Tryz.prog 21 #[.string ⟨(eachT l).toArray⟩] v (SRet v (vs, pts, 0, 0))) (hvl : vs.length = l.length) :
    Calls Tryz.prog 7 #[sv] w fun e w' => e = .returned (.bool true) ∧ ∃ x : Later w, w' = x.out := by
  have HSH := Lib.hid hsh
  have HP := Lib.hid hp
  have HPA1 := Lib.hid h1
  have HPA2 := Lib.hid h2
  have HI := Lib.hid hI
  have HVL := Lib.hid hvl; clear hvl
  obtain ⟨e1, e2, k⟩ := (by
    obtain ⟨ap, cp, rfl⟩ := ptsAt_form hp
    exact ⟨ap, cp, rfl, (pts_cell hp).2.2⟩ : ∃ ap cp, sv = .slice ap l.length cp ∧ (0 < l.length → ∃ b o, ap = some ⟨b, o, none⟩ ∧ b < w.heap.size ∧ ∀ (i : Nat) (p : Int × Int), l[i]? = some p → w.cell? ⟨b, o + i * 2, none⟩ = some (.int .i64 p.1) ∧ w.cell? ⟨b, o + i * 2 + 1, none⟩ = some (.int .i64 p.2)))
  obtain ⟨rfl, k⟩ := k
  have HK := Lib.hid k
  have d1 : decide ((30 : Int) < (l.length : Int)) = false := by simp; omega
  clear hsh hp h1 h2 hI k
  generalize hn : l.length = n at *
  have HN := Lib.hid hn
  clear hn
  go_enter Tryz.func7, Tryz.ntmps7
  go_wp2_with (first | (go_at_call 17; (with_reducible refine (HSH.out _ (by repeat (first | (with_reducible assumption) | (with_reducible exact Below.refl _ _) | (with_reducible refine Later.after ?_ _) | (with_reducible refine Later.newer ?_ _) | (with_reducible refine Below.drew ?_) | (with_reducible refine Below.setCell ?_ (by first | exact Nat.le_refl _ | exact Nat.le_add_right _ _ | omega | (simp [go_sem]; done) | (simp [go_sem]; omega)) _)))).mono ?_); rintro e _ ⟨rfl, xs, rfl⟩))
  go_loopw [3, 4, 5] (fun s1 s2 iv wr => ∃ i : Nat, i ≤ n ∧ iv = .int .i64 (i : Int) ∧ s1 = .string ⟨(onceT (l.take i)).toArray⟩ ∧ s2 = .string ⟨(eachT (l.take i)).toArray⟩ ∧ ∃ y : Later w, wr = y.out) (fun _ _ iv _ => n - (intOf iv).toNat)
  case atStart => exact ⟨0, Nat.zero_le _, rfl, rfl, rfl, (Later.mk_of (by repeat (first | (with_reducible assumption) | (with_reducible exact Below.refl _ _) | (with_reducible refine Later.after ?_ _) | (with_reducible refine Later.newer ?_ _) | (with_reducible refine Below.drew ?_) | (with_reducible refine Below.setCell ?_ (by first | exact Nat.le_refl _ | exact Nat.le_add_right _ _ | omega | (simp [go_sem]; done) | (simp [go_sem]; omega)) _))))⟩
  case round =>
    obtain ⟨i, hi, rfl, rfl, rfl, y, rfl⟩ := hrel
    by_cases hlt : i < n
    · have hd1 : decide ((i : Int) < (n : Int)) = true := by simp; exact hlt
      have hd2 : decide (i < n) = true := by simp; exact hlt
      obtain ⟨b, o, rfl, lb, f⟩ := HK.out (by omega)
      obtain ⟨⟨X, Y⟩, hq⟩ : ∃ v, l[i]? = some v := ⟨_, List.getElem?_eq_getElem (by rw [HN.out]; exact hlt)⟩
      obtain ⟨g1, g2⟩ := f i (X, Y) hq
      have r1 := (y.below.cell (p := ⟨b, o + i * 2, none⟩) lb).trans g1
      have r2 := (y.below.cell (p := ⟨b, o + i * 2 + 1, none⟩) lb).trans g2
      simp only [] at r1 r2
      have lb' : b < y.out.heap.size := Nat.lt_of_lt_of_le lb y.size_le
      obtain ⟨x64, y64⟩ := HI.out (X, Y) (List.mem_of_getElem? hq)
      unfold I64 at x64 y64
      simp only [] at x64 y64
      have hl30 : (l.take i).length ≤ 30 := by rw [List.length_take]; omega
      have hit : ∀ p ∈ l.take i, I64 p.1 ∧ I64 p.2 := fun p hp => HI.out p (List.mem_of_mem_take hp)
      have ho := (once_text (l.take i) hit hl30).1
      have he := (each_text (l.take i) hit hl30).1
      have hx30 := prn_len30 X (by omega)
      have hy30 := prn_len30 Y (by omega)
      have hts := take_snoc l i (X, Y) hq
      have hne : i ≠ 0 → l.take i ≠ [] := fun h0 k => by have h1 := congrArg List.length k; rw [List.length_take, HN.out, List.length_nil] at h1; omega
      have E1 : Hid ((⟨#[77, 32]⟩ : ByteArray) ++ (⟨(prn X).toArray⟩ ++ ⟨#[32]⟩ ++ ⟨(prn Y).toArray⟩) = ⟨(onceT [(X, Y)]).toArray⟩ ∧ onceT [(X, Y)] = eachT [(X, Y)]) := Lib.hid (one_eq (X, Y))
      have E2 : Hid (i ≠ 0 → (⟨(onceT (l.take i)).toArray⟩ : ByteArray) ++ ⟨#[44]⟩ ++ (⟨(prn X).toArray⟩ ++ ⟨#[32]⟩ ++ ⟨(prn Y).toArray⟩) = ⟨(onceT (l.take i ++ [(X, Y)])).toArray⟩) := Lib.hid fun h0 => once_eq _ (X, Y) (hne h0)
      have E3 : Hid (i ≠ 0 → (⟨(eachT (l.take i)).toArray⟩ : ByteArray) ++ ⟨#[32, 76, 32]⟩ ++ (⟨(prn X).toArray⟩ ++ ⟨#[32]⟩ ++ ⟨(prn Y).toArray⟩) = ⟨(eachT (l.take i ++ [(X, Y)])).toArray⟩) := Lib.hid fun h0 => each_eq _ (X, Y) (hne h0)
      have hpx := fun v => rprint_l X (by omega) (by omega) v
      have hpy := fun v => rprint_l Y (by omega) (by omega) v
      obtain ⟨SO, hSO⟩ : ∃ S : ByteArray, S = ⟨(onceT (l.take i)).toArray⟩ := ⟨_, rfl⟩
      obtain ⟨SE, hSE⟩ : ∃ S : ByteArray, S = ⟨(eachT (l.take i)).toArray⟩ := ⟨_, rfl⟩
      obtain ⟨PX, hPX⟩ : ∃ S : ByteArray, S = ⟨(prn X).toArray⟩ := ⟨_, rfl⟩
      obtain ⟨PY, hPY⟩ : ∃ S : ByteArray, S = ⟨(prn Y).toArray⟩ := ⟨_, rfl⟩
      have sO : SO.size ≤ 4000 := by rw [hSO, ba_size]; exact ho
      have sE : SE.size ≤ 4000 := by rw [hSE, ba_size]; exact he
      have sX : PX.size ≤ 30 := by rw [hPX, ba_size]; exact hx30
      have sY : PY.size ≤ 30 := by rw [hPY, ba_size]; exact hy30
      rw [← hPX, ← hPY] at E1
      rw [← hPX, ← hPY, ← hSO] at E2
      rw [← hPX, ← hPY, ← hSE] at E3
      rw [← hSO, ← hSE]
      rw [← hPX] at hpx
      rw [← hPY] at hpy
      have HPX := Lib.hid hpx
      have HPY := Lib.hid hpy
      have HTS := Lib.hid hts
      have HSO := Lib.hid hSO
      have HSE := Lib.hid hSE
      clear hpx hpy hts hne hit ho he hx30 hy30 hl30 hq f g1 g2 hSO hSE hPX hPY x64 y64
      go_wp2_with (fail)
      refine wp_region_later (by kernel_rfl) (by kernel_rfl) ?_
      repeat (go_big_quiet_step ((first | (go_at_call 24; with_reducible exact Later.call _ (HPX.out _)) | (go_at_call 24; with_reducible exact Later.call _ (HPY.out _)))))
      refine wpQuiet_nil ?_
      intro x
      by_cases h0 : i = 0
      · subst h0
        go_wp2_with (fail)
        have h1 : l.take 1 = [(X, Y)] := HTS.out
        exact ⟨⟨1, by omega, rfl, by rw [h1, ← E1.out.1], by rw [h1, ← E1.out.2, ← E1.out.1], (Later.mk_of (by repeat (first | (with_reducible assumption) | (with_reducible exact Below.refl _ _) | (with_reducible refine Later.after ?_ _) | (with_reducible refine Later.newer ?_ _) | (with_reducible refine Below.drew ?_) | (with_reducible refine Below.setCell ?_ (by first | exact Nat.le_refl _ | exact Nat.le_add_right _ _ | omega | (simp [go_sem]; done) | (simp [go_sem]; omega)) _))))⟩, by simp [intOf]; omega⟩
      · have h0' : ((i : Int) == 0) = false := by simpa using h0
        go_wp2_with (fail)
        exact ⟨⟨i + 1, by omega, by go_num, by rw [HTS.out, ← E2.out h0], by rw [HTS.out, ← E3.out h0], (Later.mk_of (by repeat (first | (with_reducible assumption) | (with_reducible exact Below.refl _ _) | (with_reducible refine Later.after ?_ _) | (with_reducible refine Later.newer ?_ _) | (with_reducible refine Below.drew ?_) | (with_reducible refine Below.setCell ?_ (by first | exact Nat.le_refl _ | exact Nat.le_add_right _ _ | omega | (simp [go_sem]; done) | (simp [go_sem]; omega)) _))))⟩, by simp [intOf]; omega⟩
    · obtain rfl : i = n := by omega
      have hd1 : decide ((i : Int) < (i : Int)) = false := by simp
      have hd2 : decide (i < i) = false := by simp
      rw [List.take_of_length_le (by rw [HN.out]; exact Nat.le_refl _)]
      go_upto_region 16 with (first
        | (go_at_call 21; (with_reducible refine (HPA1.out _ (by repeat (first | (with_reducible assumption) | (with_reducible exact Below.refl _ _) | (with_reducible refine Later.after ?_ _) | (with_reducible refine Later.newer ?_ _) | (with_reducible refine Below.drew ?_) | (with_reducible refine Below.setCell ?_ (by first | exact Nat.le_refl _ | exact Nat.le_add_right _ _ | omega | (simp [go_sem]; done) | (simp [go_sem]; omega)) _)))).mono ?_); rintro e _ ⟨_, _, rfl, hv, hp, x1, rfl⟩; have hv1 := intsAt_own hv; have hp1 := ptsAt_own hp; obtain ⟨a1, n1, c1, rfl⟩ := own_slice hv; obtain ⟨a2, n2, c2, rfl⟩ := own_slice hp; have HV1 := Lib.hid hv1; have HP1 := Lib.hid hp1; clear hv hp hv1 hp1)
        | (go_at_call 21; (with_reducible refine (HPA2.out _ (by repeat (first | (with_reducible assumption) | (with_reducible exact Below.refl _ _) | (with_reducible refine Later.after ?_ _) | (with_reducible refine Later.newer ?_ _) | (with_reducible refine Below.drew ?_) | (with_reducible refine Below.setCell ?_ (by first | exact Nat.le_refl _ | exact Nat.le_add_right _ _ | omega | (simp [go_sem]; done) | (simp [go_sem]; omega)) _)))).mono ?_); rintro e _ ⟨_, _, rfl, hv, hp, x2, rfl⟩; have hv2 := intsAt_own hv; have hp2 := ptsAt_own hp; obtain ⟨a3, n3, c3, rfl⟩ := own_slice hv; obtain ⟨a4, n4, c4, rfl⟩ := own_slice hp; have HV2 := Lib.hid hv2; have HP2 := Lib.hid hp2; clear hv hp hv2 hp2))
      have q1 := ((Blk.new x1.out 31 #[.slice a1 n1 c1, .slice a2 n2 c2]).later x2).alloc (.cells #[.slice a3 n3 c3, .slice a4 n4 c4] 31)
      have q2 := Blk.new x2.out 31 #[.slice a3 n3 c3, .slice a4 n4 c4]
      have H1 := Lib.hid (((HV1.out.alloc (.cells #[.slice a1 n1 c1, .slice a2 n2 c2] 31)).later x2).alloc (.cells #[.slice a3 n3 c3, .slice a4 n4 c4] 31))
      have H2 := Lib.hid (agm_alloc (agm_later (agm_alloc HP1.out (.cells #[.slice a1 n1 c1, .slice a2 n2 c2] 31)) x2) (.cells #[.slice a3 n3 c3, .slice a4 n4 c4] 31))
      have H3 := Lib.hid (HV2.out.alloc (.cells #[.slice a3 n3 c3, .slice a4 n4 c4] 31))
      have H4 := Lib.hid (agm_alloc HP2.out (.cells #[.slice a3 n3 c3, .slice a4 n4 c4] 31))
      have hB : Below w.heap.size w (x2.out.alloc (.cells #[.slice a3 n3 c3, .slice a4 n4 c4] 31)) := by repeat (first | (with_reducible assumption) | (with_reducible exact Below.refl _ _) | (with_reducible refine Later.after ?_ _) | (with_reducible refine Later.newer ?_ _) | (with_reducible refine Below.drew ?_) | (with_reducible refine Below.setCell ?_ (by first | exact Nat.le_refl _ | exact Nat.le_add_right _ _ | omega | (simp [go_sem]; done) | (simp [go_sem]; omega)) _))
      generalize x2.out.alloc (.cells #[.slice a3 n3 c3, .slice a4 n4 c4] 31) = W9 at *
      generalize x1.out.heap.size = B1 at *
      generalize x2.out.heap.size = B2 at *
      obtain ⟨z1, z2, z3⟩ := q1.all
      obtain ⟨z4, z5, z6⟩ := q2.all
      clear q1 q2
      have hnn : n1 = i := (ints_cell H1.out).1.trans HVL.out
      subst hnn
      refine wp_region_later (by kernel_rfl) (by kernel_rfl) ?_
      repeat (go_big_quiet_step ((first | (go_at_call 20; with_reducible exact Later.call _ (its_c _ _ _ _ _ _ _)) | (go_at_call 23; with_reducible exact Later.call _ (rsame_yes vs pts _ _ _ _ _ _ _ _ _ _ _ _ _ (by repeat (first | (with_reducible exact H1.out) | (with_reducible refine IntsAt.later ?_ _) | (with_reducible refine IntsAt.drew ?_))) (by repeat (first | (with_reducible exact H2.out) | (with_reducible refine agm_later ?_ _) | (with_reducible refine agm_drew ?_))) (by repeat (first | (with_reducible exact H3.out) | (with_reducible refine IntsAt.later ?_ _) | (with_reducible refine IntsAt.drew ?_))) (by repeat (first | (with_reducible exact H4.out) | (with_reducible refine agm_later ?_ _) | (with_reducible refine agm_drew ?_))))))))
      refine wpQuiet_nil ?_
      intro x
      go_wp2_with (fail)
      exact bodyPost_ret (v := .bool true) (by simp [results, Tryz.results7, go_sem, *]) rfl ⟨rfl, (Later.mk_of (by repeat (first | (with_reducible assumption) | (with_reducible exact Below.refl _ _) | (with_reducible refine Later.after ?_ _) | (with_reducible refine Later.newer ?_ _) | (with_reducible refine Below.drew ?_) | (with_reducible refine Below.setCell ?_ (by first | exact Nat.le_refl _ | exact Nat.le_add_right _ _ | omega | (simp [go_sem]; done) | (simp [go_sem]; omega)) _))))⟩

set_option maxRecDepth 100000 in
set_option maxHeartbeats 4000000 in
theorem ag_far (l : List (Int × Int)) (sv : Value) (w : World) (vs : List Int) (pts : List (Int × Int)) (k1 k2 : Int) (hp : PtsAt w sv l) (hsh : ∀ v, Below w.heap.size w v → Calls Tryz.prog 17 #[] v fun e w' => e = .returned (.bool true) ∧ ∃ x : Later v, w' = x.out) (h : ¬ 30 < l.length) (hI : ∀ p ∈ l, I64 p.1 ∧ I64 p.2)
    (h1 : ∀ v, Below w.heap.size w v → Calls Tryz.prog 21 #[.string ⟨(onceT l).toArray⟩] v (SRet v (vs, pts, k1, 72)))
    (h2 : ∀ v, Below w.heap.size w v → Calls Tryz.prog 21 #[.string ⟨(eachT l).toArray⟩] v (SRet v (vs, pts, k2, 72)))  :
    Calls Tryz.prog 7 #[sv] w fun e w' => e = .returned (.bool true) ∧ ∃ x : Later w, w' = x.out := by
  have HSH := Lib.hid hsh
  have HP := Lib.hid hp
  have HPA1 := Lib.hid h1
  have HPA2 := Lib.hid h2
  have HI := Lib.hid hI
  skip
  obtain ⟨e1, e2, k⟩ := (by
    obtain ⟨ap, cp, rfl⟩ := ptsAt_form hp
    exact ⟨ap, cp, rfl, (pts_cell hp).2.2⟩ : ∃ ap cp, sv = .slice ap l.length cp ∧ (0 < l.length → ∃ b o, ap = some ⟨b, o, none⟩ ∧ b < w.heap.size ∧ ∀ (i : Nat) (p : Int × Int), l[i]? = some p → w.cell? ⟨b, o + i * 2, none⟩ = some (.int .i64 p.1) ∧ w.cell? ⟨b, o + i * 2 + 1, none⟩ = some (.int .i64 p.2)))
  obtain ⟨rfl, k⟩ := k
  have HK := Lib.hid k
  have d1 : decide ((30 : Int) < (l.length : Int)) = false := by simp; omega
  clear hsh hp h1 h2 hI k
  generalize hn : l.length = n at *
  have HN := Lib.hid hn
  clear hn
  go_enter Tryz.func7, Tryz.ntmps7
  go_wp2_with (first | (go_at_call 17; (with_reducible refine (HSH.out _ (by repeat (first | (with_reducible assumption) | (with_reducible exact Below.refl _ _) | (with_reducible refine Later.after ?_ _) | (with_reducible refine Later.newer ?_ _) | (with_reducible refine Below.drew ?_) | (with_reducible refine Below.setCell ?_ (by first | exact Nat.le_refl _ | exact Nat.le_add_right _ _ | omega | (simp [go_sem]; done) | (simp [go_sem]; omega)) _)))).mono ?_); rintro e _ ⟨rfl, xs, rfl⟩))
  go_loopw [3, 4, 5] (fun s1 s2 iv wr => ∃ i : Nat, i ≤ n ∧ iv = .int .i64 (i : Int) ∧ s1 = .string ⟨(onceT (l.take i)).toArray⟩ ∧ s2 = .string ⟨(eachT (l.take i)).toArray⟩ ∧ ∃ y : Later w, wr = y.out) (fun _ _ iv _ => n - (intOf iv).toNat)
  case atStart => exact ⟨0, Nat.zero_le _, rfl, rfl, rfl, (Later.mk_of (by repeat (first | (with_reducible assumption) | (with_reducible exact Below.refl _ _) | (with_reducible refine Later.after ?_ _) | (with_reducible refine Later.newer ?_ _) | (with_reducible refine Below.drew ?_) | (with_reducible refine Below.setCell ?_ (by first | exact Nat.le_refl _ | exact Nat.le_add_right _ _ | omega | (simp [go_sem]; done) | (simp [go_sem]; omega)) _))))⟩
  case round =>
    obtain ⟨i, hi, rfl, rfl, rfl, y, rfl⟩ := hrel
    by_cases hlt : i < n
    · have hd1 : decide ((i : Int) < (n : Int)) = true := by simp; exact hlt
      have hd2 : decide (i < n) = true := by simp; exact hlt
      obtain ⟨b, o, rfl, lb, f⟩ := HK.out (by omega)
      obtain ⟨⟨X, Y⟩, hq⟩ : ∃ v, l[i]? = some v := ⟨_, List.getElem?_eq_getElem (by rw [HN.out]; exact hlt)⟩
      obtain ⟨g1, g2⟩ := f i (X, Y) hq
      have r1 := (y.below.cell (p := ⟨b, o + i * 2, none⟩) lb).trans g1
      have r2 := (y.below.cell (p := ⟨b, o + i * 2 + 1, none⟩) lb).trans g2
      simp only [] at r1 r2
      have lb' : b < y.out.heap.size := Nat.lt_of_lt_of_le lb y.size_le
      obtain ⟨x64, y64⟩ := HI.out (X, Y) (List.mem_of_getElem? hq)
      unfold I64 at x64 y64
      simp only [] at x64 y64
      have hl30 : (l.take i).length ≤ 30 := by rw [List.length_take]; omega
      have hit : ∀ p ∈ l.take i, I64 p.1 ∧ I64 p.2 := fun p hp => HI.out p (List.mem_of_mem_take hp)
      have ho := (once_text (l.take i) hit hl30).1
      have he := (each_text (l.take i) hit hl30).1
      have hx30 := prn_len30 X (by omega)
      have hy30 := prn_len30 Y (by omega)
      have hts := take_snoc l i (X, Y) hq
      have hne : i ≠ 0 → l.take i ≠ [] := fun h0 k => by have h1 := congrArg List.length k; rw [List.length_take, HN.out, List.length_nil] at h1; omega
      have E1 : Hid ((⟨#[77, 32]⟩ : ByteArray) ++ (⟨(prn X).toArray⟩ ++ ⟨#[32]⟩ ++ ⟨(prn Y).toArray⟩) = ⟨(onceT [(X, Y)]).toArray⟩ ∧ onceT [(X, Y)] = eachT [(X, Y)]) := Lib.hid (one_eq (X, Y))
      have E2 : Hid (i ≠ 0 → (⟨(onceT (l.take i)).toArray⟩ : ByteArray) ++ ⟨#[44]⟩ ++ (⟨(prn X).toArray⟩ ++ ⟨#[32]⟩ ++ ⟨(prn Y).toArray⟩) = ⟨(onceT (l.take i ++ [(X, Y)])).toArray⟩) := Lib.hid fun h0 => once_eq _ (X, Y) (hne h0)
      have E3 : Hid (i ≠ 0 → (⟨(eachT (l.take i)).toArray⟩ : ByteArray) ++ ⟨#[32, 76, 32]⟩ ++ (⟨(prn X).toArray⟩ ++ ⟨#[32]⟩ ++ ⟨(prn Y).toArray⟩) = ⟨(eachT (l.take i ++ [(X, Y)])).toArray⟩) := Lib.hid fun h0 => each_eq _ (X, Y) (hne h0)
      have hpx := fun v => rprint_l X (by omega) (by omega) v
      have hpy := fun v => rprint_l Y (by omega) (by omega) v
      obtain ⟨SO, hSO⟩ : ∃ S : ByteArray, S = ⟨(onceT (l.take i)).toArray⟩ := ⟨_, rfl⟩
      obtain ⟨SE, hSE⟩ : ∃ S : ByteArray, S = ⟨(eachT (l.take i)).toArray⟩ := ⟨_, rfl⟩
      obtain ⟨PX, hPX⟩ : ∃ S : ByteArray, S = ⟨(prn X).toArray⟩ := ⟨_, rfl⟩
      obtain ⟨PY, hPY⟩ : ∃ S : ByteArray, S = ⟨(prn Y).toArray⟩ := ⟨_, rfl⟩
      have sO : SO.size ≤ 4000 := by rw [hSO, ba_size]; exact ho
      have sE : SE.size ≤ 4000 := by rw [hSE, ba_size]; exact he
      have sX : PX.size ≤ 30 := by rw [hPX, ba_size]; exact hx30
      have sY : PY.size ≤ 30 := by rw [hPY, ba_size]; exact hy30
      rw [← hPX, ← hPY] at E1
      rw [← hPX, ← hPY, ← hSO] at E2
      rw [← hPX, ← hPY, ← hSE] at E3
      rw [← hSO, ← hSE]
      rw [← hPX] at hpx
      rw [← hPY] at hpy
      have HPX := Lib.hid hpx
      have HPY := Lib.hid hpy
      have HTS := Lib.hid hts
      have HSO := Lib.hid hSO
      have HSE := Lib.hid hSE
      clear hpx hpy hts hne hit ho he hx30 hy30 hl30 hq f g1 g2 hSO hSE hPX hPY x64 y64
      go_wp2_with (fail)
      refine wp_region_later (by kernel_rfl) (by kernel_rfl) ?_
      repeat (go_big_quiet_step ((first | (go_at_call 24; with_reducible exact Later.call _ (HPX.out _)) | (go_at_call 24; with_reducible exact Later.call _ (HPY.out _)))))
      refine wpQuiet_nil ?_
      intro x
      by_cases h0 : i = 0
      · subst h0
        go_wp2_with (fail)
        have h1 : l.take 1 = [(X, Y)] := HTS.out
        exact ⟨⟨1, by omega, rfl, by rw [h1, ← E1.out.1], by rw [h1, ← E1.out.2, ← E1.out.1], (Later.mk_of (by repeat (first | (with_reducible assumption) | (with_reducible exact Below.refl _ _) | (with_reducible refine Later.after ?_ _) | (with_reducible refine Later.newer ?_ _) | (with_reducible refine Below.drew ?_) | (with_reducible refine Below.setCell ?_ (by first | exact Nat.le_refl _ | exact Nat.le_add_right _ _ | omega | (simp [go_sem]; done) | (simp [go_sem]; omega)) _))))⟩, by simp [intOf]; omega⟩
      · have h0' : ((i : Int) == 0) = false := by simpa using h0
        go_wp2_with (fail)
        exact ⟨⟨i + 1, by omega, by go_num, by rw [HTS.out, ← E2.out h0], by rw [HTS.out, ← E3.out h0], (Later.mk_of (by repeat (first | (with_reducible assumption) | (with_reducible exact Below.refl _ _) | (with_reducible refine Later.after ?_ _) | (with_reducible refine Later.newer ?_ _) | (with_reducible refine Below.drew ?_) | (with_reducible refine Below.setCell ?_ (by first | exact Nat.le_refl _ | exact Nat.le_add_right _ _ | omega | (simp [go_sem]; done) | (simp [go_sem]; omega)) _))))⟩, by simp [intOf]; omega⟩
    · obtain rfl : i = n := by omega
      have hd1 : decide ((i : Int) < (i : Int)) = false := by simp
      have hd2 : decide (i < i) = false := by simp
      rw [List.take_of_length_le (by rw [HN.out]; exact Nat.le_refl _)]
      go_upto_region 16 with (first
        | (go_at_call 21; (with_reducible refine (HPA1.out _ (by repeat (first | (with_reducible assumption) | (with_reducible exact Below.refl _ _) | (with_reducible refine Later.after ?_ _) | (with_reducible refine Later.newer ?_ _) | (with_reducible refine Below.drew ?_) | (with_reducible refine Below.setCell ?_ (by first | exact Nat.le_refl _ | exact Nat.le_add_right _ _ | omega | (simp [go_sem]; done) | (simp [go_sem]; omega)) _)))).mono ?_); rintro e _ ⟨_, _, rfl, hv, hp, x1, rfl⟩; have hv1 := intsAt_own hv; have hp1 := ptsAt_own hp; obtain ⟨a1, n1, c1, rfl⟩ := own_slice hv; obtain ⟨a2, n2, c2, rfl⟩ := own_slice hp; have HV1 := Lib.hid hv1; have HP1 := Lib.hid hp1; clear hv hp hv1 hp1)
        | (go_at_call 21; (with_reducible refine (HPA2.out _ (by repeat (first | (with_reducible assumption) | (with_reducible exact Below.refl _ _) | (with_reducible refine Later.after ?_ _) | (with_reducible refine Later.newer ?_ _) | (with_reducible refine Below.drew ?_) | (with_reducible refine Below.setCell ?_ (by first | exact Nat.le_refl _ | exact Nat.le_add_right _ _ | omega | (simp [go_sem]; done) | (simp [go_sem]; omega)) _)))).mono ?_); rintro e _ ⟨_, _, rfl, hv, hp, x2, rfl⟩; have hv2 := intsAt_own hv; have hp2 := ptsAt_own hp; obtain ⟨a3, n3, c3, rfl⟩ := own_slice hv; obtain ⟨a4, n4, c4, rfl⟩ := own_slice hp; have HV2 := Lib.hid hv2; have HP2 := Lib.hid hp2; clear hv hp hv2 hp2))
      have q1 := ((Blk.new x1.out 31 #[.slice a1 n1 c1, .slice a2 n2 c2]).later x2).alloc (.cells #[.slice a3 n3 c3, .slice a4 n4 c4] 31)
      have q2 := Blk.new x2.out 31 #[.slice a3 n3 c3, .slice a4 n4 c4]
      have H1 := Lib.hid (((HV1.out.alloc (.cells #[.slice a1 n1 c1, .slice a2 n2 c2] 31)).later x2).alloc (.cells #[.slice a3 n3 c3, .slice a4 n4 c4] 31))
      have H2 := Lib.hid (agm_alloc (agm_later (agm_alloc HP1.out (.cells #[.slice a1 n1 c1, .slice a2 n2 c2] 31)) x2) (.cells #[.slice a3 n3 c3, .slice a4 n4 c4] 31))
      have H3 := Lib.hid (HV2.out.alloc (.cells #[.slice a3 n3 c3, .slice a4 n4 c4] 31))
      have H4 := Lib.hid (agm_alloc HP2.out (.cells #[.slice a3 n3 c3, .slice a4 n4 c4] 31))
      have hB : Below w.heap.size w (x2.out.alloc (.cells #[.slice a3 n3 c3, .slice a4 n4 c4] 31)) := by repeat (first | (with_reducible assumption) | (with_reducible exact Below.refl _ _) | (with_reducible refine Later.after ?_ _) | (with_reducible refine Later.newer ?_ _) | (with_reducible refine Below.drew ?_) | (with_reducible refine Below.setCell ?_ (by first | exact Nat.le_refl _ | exact Nat.le_add_right _ _ | omega | (simp [go_sem]; done) | (simp [go_sem]; omega)) _))
      generalize x2.out.alloc (.cells #[.slice a3 n3 c3, .slice a4 n4 c4] 31) = W9 at *
      generalize x1.out.heap.size = B1 at *
      generalize x2.out.heap.size = B2 at *
      obtain ⟨z1, z2, z3⟩ := q1.all
      obtain ⟨z4, z5, z6⟩ := q2.all
      clear q1 q2
      refine wp_region_later (by kernel_rfl) (by kernel_rfl) ?_
      repeat (go_big_quiet_step ((first | (go_at_call 20; with_reducible exact Later.call _ (its_c _ _ _ _ _ _ _)) | (go_at_call 23; with_reducible exact Later.call _ (rsame_yes vs pts _ _ _ _ _ _ _ _ _ _ _ _ _ (by repeat (first | (with_reducible exact H1.out) | (with_reducible refine IntsAt.later ?_ _) | (with_reducible refine IntsAt.drew ?_))) (by repeat (first | (with_reducible exact H2.out) | (with_reducible refine agm_later ?_ _) | (with_reducible refine agm_drew ?_))) (by repeat (first | (with_reducible exact H3.out) | (with_reducible refine IntsAt.later ?_ _) | (with_reducible refine IntsAt.drew ?_))) (by repeat (first | (with_reducible exact H4.out) | (with_reducible refine agm_later ?_ _) | (with_reducible refine agm_drew ?_))))))))
      refine wpQuiet_nil ?_
      intro x
      go_wp2_with (fail)
      exact bodyPost_ret (v := .bool true) (by simp [results, Tryz.results7, go_sem, *]) rfl ⟨rfl, (Later.mk_of (by repeat (first | (with_reducible assumption) | (with_reducible exact Below.refl _ _) | (with_reducible refine Later.after ?_ _) | (with_reducible refine Later.newer ?_ _) | (with_reducible refine Below.drew ?_) | (with_reducible refine Below.setCell ?_ (by first | exact Nat.le_refl _ | exact Nat.le_add_right _ _ | omega | (simp [go_sem]; done) | (simp [go_sem]; omega)) _))))⟩

set_option maxRecDepth 100000 in
set_option maxHeartbeats 4000000 in
theorem ag_bad (l : List (Int × Int)) (sv : Value) (w : World) (vs : List Int) (pts : List (Int × Int)) (k1 k2 : Int) (hp : PtsAt w sv l) (hsh : ∀ v, Below w.heap.size w v → Calls Tryz.prog 17 #[] v fun e w' => e = .returned (.bool true) ∧ ∃ x : Later v, w' = x.out) (h : ¬ 30 < l.length) (hI : ∀ p ∈ l, I64 p.1 ∧ I64 p.2)
    (h1 : ∀ v, Below w.heap.size w v → Calls Tryz.prog 21 #[.string ⟨(onceT l).toArray⟩] v (SRet v (vs, pts, k1, 80)))
    (h2 : ∀ v, Below w.heap.size w v → Calls Tryz.prog 21 #[.string ⟨(eachT l).toArray⟩] v (SRet v (vs, pts, k2, 80)))  :
    Calls Tryz.prog 7 #[sv] w fun e w' => e = .returned (.bool true) ∧ ∃ x : Later w, w' = x.out := by
  have HSH := Lib.hid hsh
  have HP := Lib.hid hp
  have HPA1 := Lib.hid h1
  have HPA2 := Lib.hid h2
  have HI := Lib.hid hI
  skip
  obtain ⟨e1, e2, k⟩ := (by
    obtain ⟨ap, cp, rfl⟩ := ptsAt_form hp
    exact ⟨ap, cp, rfl, (pts_cell hp).2.2⟩ : ∃ ap cp, sv = .slice ap l.length cp ∧ (0 < l.length → ∃ b o, ap = some ⟨b, o, none⟩ ∧ b < w.heap.size ∧ ∀ (i : Nat) (p : Int × Int), l[i]? = some p → w.cell? ⟨b, o + i * 2, none⟩ = some (.int .i64 p.1) ∧ w.cell? ⟨b, o + i * 2 + 1, none⟩ = some (.int .i64 p.2)))
  obtain ⟨rfl, k⟩ := k
  have HK := Lib.hid k
  have d1 : decide ((30 : Int) < (l.length : Int)) = false := by simp; omega
  clear hsh hp h1 h2 hI k
  generalize hn : l.length = n at *
  have HN := Lib.hid hn
  clear hn
  go_enter Tryz.func7, Tryz.ntmps7
  go_wp2_with (first | (go_at_call 17; (with_reducible refine (HSH.out _ (by repeat (first | (with_reducible assumption) | (with_reducible exact Below.refl _ _) | (with_reducible refine Later.after ?_ _) | (with_reducible refine Later.newer ?_ _) | (with_reducible refine Below.drew ?_) | (with_reducible refine Below.setCell ?_ (by first | exact Nat.le_refl _ | exact Nat.le_add_right _ _ | omega | (simp [go_sem]; done) | (simp [go_sem]; omega)) _)))).mono ?_); rintro e _ ⟨rfl, xs, rfl⟩))
  go_loopw [3, 4, 5] (fun s1 s2 iv wr => ∃ i : Nat, i ≤ n ∧ iv = .int .i64 (i : Int) ∧ s1 = .string ⟨(onceT (l.take i)).toArray⟩ ∧ s2 = .string ⟨(eachT (l.take i)).toArray⟩ ∧ ∃ y : Later w, wr = y.out) (fun _ _ iv _ => n - (intOf iv).toNat)
  case atStart => exact ⟨0, Nat.zero_le _, rfl, rfl, rfl, (Later.mk_of (by repeat (first | (with_reducible assumption) | (with_reducible exact Below.refl _ _) | (with_reducible refine Later.after ?_ _) | (with_reducible refine Later.newer ?_ _) | (with_reducible refine Below.drew ?_) | (with_reducible refine Below.setCell ?_ (by first | exact Nat.le_refl _ | exact Nat.le_add_right _ _ | omega | (simp [go_sem]; done) | (simp [go_sem]; omega)) _))))⟩
  case round =>
    obtain ⟨i, hi, rfl, rfl, rfl, y, rfl⟩ := hrel
    by_cases hlt : i < n
    · have hd1 : decide ((i : Int) < (n : Int)) = true := by simp; exact hlt
      have hd2 : decide (i < n) = true := by simp; exact hlt
      obtain ⟨b, o, rfl, lb, f⟩ := HK.out (by omega)
      obtain ⟨⟨X, Y⟩, hq⟩ : ∃ v, l[i]? = some v := ⟨_, List.getElem?_eq_getElem (by rw [HN.out]; exact hlt)⟩
      obtain ⟨g1, g2⟩ := f i (X, Y) hq
      have r1 := (y.below.cell (p := ⟨b, o + i * 2, none⟩) lb).trans g1
      have r2 := (y.below.cell (p := ⟨b, o + i * 2 + 1, none⟩) lb).trans g2
      simp only [] at r1 r2
      have lb' : b < y.out.heap.size := Nat.lt_of_lt_of_le lb y.size_le
      obtain ⟨x64, y64⟩ := HI.out (X, Y) (List.mem_of_getElem? hq)
      unfold I64 at x64 y64
      simp only [] at x64 y64
      have hl30 : (l.take i).length ≤ 30 := by rw [List.length_take]; omega
      have hit : ∀ p ∈ l.take i, I64 p.1 ∧ I64 p.2 := fun p hp => HI.out p (List.mem_of_mem_take hp)
      have ho := (once_text (l.take i) hit hl30).1
      have he := (each_text (l.take i) hit hl30).1
      have hx30 := prn_len30 X (by omega)
      have hy30 := prn_len30 Y (by omega)
      have hts := take_snoc l i (X, Y) hq
      have hne : i ≠ 0 → l.take i ≠ [] := fun h0 k => by have h1 := congrArg List.length k; rw [List.length_take, HN.out, List.length_nil] at h1; omega
      have E1 : Hid ((⟨#[77, 32]⟩ : ByteArray) ++ (⟨(prn X).toArray⟩ ++ ⟨#[32]⟩ ++ ⟨(prn Y).toArray⟩) = ⟨(onceT [(X, Y)]).toArray⟩ ∧ onceT [(X, Y)] = eachT [(X, Y)]) := Lib.hid (one_eq (X, Y))
      have E2 : Hid (i ≠ 0 → (⟨(onceT (l.take i)).toArray⟩ : ByteArray) ++ ⟨#[44]⟩ ++ (⟨(prn X).toArray⟩ ++ ⟨#[32]⟩ ++ ⟨(prn Y).toArray⟩) = ⟨(onceT (l.take i ++ [(X, Y)])).toArray⟩) := Lib.hid fun h0 => once_eq _ (X, Y) (hne h0)
      have E3 : Hid (i ≠ 0 → (⟨(eachT (l.take i)).toArray⟩ : ByteArray) ++ ⟨#[32, 76, 32]⟩ ++ (⟨(prn X).toArray⟩ ++ ⟨#[32]⟩ ++ ⟨(prn Y).toArray⟩) = ⟨(eachT (l.take i ++ [(X, Y)])).toArray⟩) := Lib.hid fun h0 => each_eq _ (X, Y) (hne h0)
      have hpx := fun v => rprint_l X (by omega) (by omega) v
      have hpy := fun v => rprint_l Y (by omega) (by omega) v
      obtain ⟨SO, hSO⟩ : ∃ S : ByteArray, S = ⟨(onceT (l.take i)).toArray⟩ := ⟨_, rfl⟩
      obtain ⟨SE, hSE⟩ : ∃ S : ByteArray, S = ⟨(eachT (l.take i)).toArray⟩ := ⟨_, rfl⟩
      obtain ⟨PX, hPX⟩ : ∃ S : ByteArray, S = ⟨(prn X).toArray⟩ := ⟨_, rfl⟩
      obtain ⟨PY, hPY⟩ : ∃ S : ByteArray, S = ⟨(prn Y).toArray⟩ := ⟨_, rfl⟩
      have sO : SO.size ≤ 4000 := by rw [hSO, ba_size]; exact ho
      have sE : SE.size ≤ 4000 := by rw [hSE, ba_size]; exact he
      have sX : PX.size ≤ 30 := by rw [hPX, ba_size]; exact hx30
      have sY : PY.size ≤ 30 := by rw [hPY, ba_size]; exact hy30
      rw [← hPX, ← hPY] at E1
      rw [← hPX, ← hPY, ← hSO] at E2
      rw [← hPX, ← hPY, ← hSE] at E3
      rw [← hSO, ← hSE]
      rw [← hPX] at hpx
      rw [← hPY] at hpy
      have HPX := Lib.hid hpx
      have HPY := Lib.hid hpy
      have HTS := Lib.hid hts
      have HSO := Lib.hid hSO
      have HSE := Lib.hid hSE
      clear hpx hpy hts hne hit ho he hx30 hy30 hl30 hq f g1 g2 hSO hSE hPX hPY x64 y64
      go_wp2_with (fail)
      refine wp_region_later (by kernel_rfl) (by kernel_rfl) ?_
      repeat (go_big_quiet_step ((first | (go_at_call 24; with_reducible exact Later.call _ (HPX.out _)) | (go_at_call 24; with_reducible exact Later.call _ (HPY.out _)))))
      refine wpQuiet_nil ?_
      intro x
      by_cases h0 : i = 0
      · subst h0
        go_wp2_with (fail)
        have h1 : l.take 1 = [(X, Y)] := HTS.out
        exact ⟨⟨1, by omega, rfl, by rw [h1, ← E1.out.1], by rw [h1, ← E1.out.2, ← E1.out.1], (Later.mk_of (by repeat (first | (with_reducible assumption) | (with_reducible exact Below.refl _ _) | (with_reducible refine Later.after ?_ _) | (with_reducible refine Later.newer ?_ _) | (with_reducible refine Below.drew ?_) | (with_reducible refine Below.setCell ?_ (by first | exact Nat.le_refl _ | exact Nat.le_add_right _ _ | omega | (simp [go_sem]; done) | (simp [go_sem]; omega)) _))))⟩, by simp [intOf]; omega⟩
      · have h0' : ((i : Int) == 0) = false := by simpa using h0
        go_wp2_with (fail)
        exact ⟨⟨i + 1, by omega, by go_num, by rw [HTS.out, ← E2.out h0], by rw [HTS.out, ← E3.out h0], (Later.mk_of (by repeat (first | (with_reducible assumption) | (with_reducible exact Below.refl _ _) | (with_reducible refine Later.after ?_ _) | (with_reducible refine Later.newer ?_ _) | (with_reducible refine Below.drew ?_) | (with_reducible refine Below.setCell ?_ (by first | exact Nat.le_refl _ | exact Nat.le_add_right _ _ | omega | (simp [go_sem]; done) | (simp [go_sem]; omega)) _))))⟩, by simp [intOf]; omega⟩
    · obtain rfl : i = n := by omega
      have hd1 : decide ((i : Int) < (i : Int)) = false := by simp
      have hd2 : decide (i < i) = false := by simp
      rw [List.take_of_length_le (by rw [HN.out]; exact Nat.le_refl _)]
      go_upto_region 16 with (first
        | (go_at_call 21; (with_reducible refine (HPA1.out _ (by repeat (first | (with_reducible assumption) | (with_reducible exact Below.refl _ _) | (with_reducible refine Later.after ?_ _) | (with_reducible refine Later.newer ?_ _) | (with_reducible refine Below.drew ?_) | (with_reducible refine Below.setCell ?_ (by first | exact Nat.le_refl _ | exact Nat.le_add_right _ _ | omega | (simp [go_sem]; done) | (simp [go_sem]; omega)) _)))).mono ?_); rintro e _ ⟨_, _, rfl, hv, hp, x1, rfl⟩; have hv1 := intsAt_own hv; have hp1 := ptsAt_own hp; obtain ⟨a1, n1, c1, rfl⟩ := own_slice hv; obtain ⟨a2, n2, c2, rfl⟩ := own_slice hp; have HV1 := Lib.hid hv1; have HP1 := Lib.hid hp1; clear hv hp hv1 hp1)
        | (go_at_call 21; (with_reducible refine (HPA2.out _ (by repeat (first | (with_reducible assumption) | (with_reducible exact Below.refl _ _) | (with_reducible refine Later.after ?_ _) | (with_reducible refine Later.newer ?_ _) | (with_reducible refine Below.drew ?_) | (with_reducible refine Below.setCell ?_ (by first | exact Nat.le_refl _ | exact Nat.le_add_right _ _ | omega | (simp [go_sem]; done) | (simp [go_sem]; omega)) _)))).mono ?_); rintro e _ ⟨_, _, rfl, hv, hp, x2, rfl⟩; have hv2 := intsAt_own hv; have hp2 := ptsAt_own hp; obtain ⟨a3, n3, c3, rfl⟩ := own_slice hv; obtain ⟨a4, n4, c4, rfl⟩ := own_slice hp; have HV2 := Lib.hid hv2; have HP2 := Lib.hid hp2; clear hv hp hv2 hp2))
      have q1 := ((Blk.new x1.out 31 #[.slice a1 n1 c1, .slice a2 n2 c2]).later x2).alloc (.cells #[.slice a3 n3 c3, .slice a4 n4 c4] 31)
      have q2 := Blk.new x2.out 31 #[.slice a3 n3 c3, .slice a4 n4 c4]
      have H1 := Lib.hid (((HV1.out.alloc (.cells #[.slice a1 n1 c1, .slice a2 n2 c2] 31)).later x2).alloc (.cells #[.slice a3 n3 c3, .slice a4 n4 c4] 31))
      have H2 := Lib.hid (agm_alloc (agm_later (agm_alloc HP1.out (.cells #[.slice a1 n1 c1, .slice a2 n2 c2] 31)) x2) (.cells #[.slice a3 n3 c3, .slice a4 n4 c4] 31))
      have H3 := Lib.hid (HV2.out.alloc (.cells #[.slice a3 n3 c3, .slice a4 n4 c4] 31))
      have H4 := Lib.hid (agm_alloc HP2.out (.cells #[.slice a3 n3 c3, .slice a4 n4 c4] 31))
      have hB : Below w.heap.size w (x2.out.alloc (.cells #[.slice a3 n3 c3, .slice a4 n4 c4] 31)) := by repeat (first | (with_reducible assumption) | (with_reducible exact Below.refl _ _) | (with_reducible refine Later.after ?_ _) | (with_reducible refine Later.newer ?_ _) | (with_reducible refine Below.drew ?_) | (with_reducible refine Below.setCell ?_ (by first | exact Nat.le_refl _ | exact Nat.le_add_right _ _ | omega | (simp [go_sem]; done) | (simp [go_sem]; omega)) _))
      generalize x2.out.alloc (.cells #[.slice a3 n3 c3, .slice a4 n4 c4] 31) = W9 at *
      generalize x1.out.heap.size = B1 at *
      generalize x2.out.heap.size = B2 at *
      obtain ⟨z1, z2, z3⟩ := q1.all
      obtain ⟨z4, z5, z6⟩ := q2.all
      clear q1 q2
      refine wp_region_later (by kernel_rfl) (by kernel_rfl) ?_
      repeat (go_big_quiet_step ((first | (go_at_call 20; with_reducible exact Later.call _ (its_c _ _ _ _ _ _ _)) | (go_at_call 23; with_reducible exact Later.call _ (rsame_yes vs pts _ _ _ _ _ _ _ _ _ _ _ _ _ (by repeat (first | (with_reducible exact H1.out) | (with_reducible refine IntsAt.later ?_ _) | (with_reducible refine IntsAt.drew ?_))) (by repeat (first | (with_reducible exact H2.out) | (with_reducible refine agm_later ?_ _) | (with_reducible refine agm_drew ?_))) (by repeat (first | (with_reducible exact H3.out) | (with_reducible refine IntsAt.later ?_ _) | (with_reducible refine IntsAt.drew ?_))) (by repeat (first | (with_reducible exact H4.out) | (with_reducible refine agm_later ?_ _) | (with_reducible refine agm_drew ?_))))))))
      refine wpQuiet_nil ?_
      intro x
      go_wp2_with (fail)
      exact bodyPost_ret (v := .bool true) (by simp [results, Tryz.results7, go_sem, *]) rfl ⟨rfl, (Later.mk_of (by repeat (first | (with_reducible assumption) | (with_reducible exact Below.refl _ _) | (with_reducible refine Later.after ?_ _) | (with_reducible refine Later.newer ?_ _) | (with_reducible refine Below.drew ?_) | (with_reducible refine Below.setCell ?_ (by first | exact Nat.le_refl _ | exact Nat.le_add_right _ _ | omega | (simp [go_sem]; done) | (simp [go_sem]; omega)) _))))⟩

theorem again_walk (l : List (Int × Int)) (sv : Value) (mx : Int) (w : World) (hp : PtsAt w sv l) (hI : ∀ p ∈ l, I64 p.1 ∧ I64 p.2) (hm : w.cell? ⟨2, 0, none⟩ = some (.int .i64 mx)) (htab : Lib.TabIs Tryz.prog w "internal/strconv.uint64pow10" .u64 Lib.pow10Tab) :
    Calls Tryz.prog 7 #[sv] w fun e w' => e = .returned (.bool true) ∧ ∃ x : Later w, w' = x.out := by
  have hmv : ∀ v, Below w.heap.size w v → v.cell? ⟨2, 0, none⟩ = some (.int .i64 mx) := fun v hb => (hb.cell (p := ⟨2, 0, none⟩) (World.block_lt_of_cell? w _ hm)).trans hm
  have hsh : ∀ v, Below w.heap.size w v → Calls Tryz.prog 17 #[] v fun e w' => e = .returned (.bool true) ∧ ∃ x : Later v, w' = x.out := fun v hb => shown_8 mx v (hmv v hb) (Lib.tabBelow_of_tabIs htab v hb)
  by_cases h : 30 < l.length
  · exact ag_f1 l sv w hp hsh h
  · obtain ⟨e1, e2, e3, e4, e5⟩ := spR_again l hI (by omega)
    obtain ⟨o1, o2, o3⟩ := once_text l hI (by omega)
    obtain ⟨q1, q2, q3⟩ := each_text l hI (by omega)
    have h1 : ∀ v, Below w.heap.size w v → Calls Tryz.prog 21 #[.string ⟨(onceT l).toArray⟩] v (SRet v (spR (onceT l))) := fun v hb => sparse_c (onceT l) mx (by omega) (by omega) (iany_ascii _ (by omega) o2) v (hmv v hb)
    have h2 : ∀ v, Below w.heap.size w v → Calls Tryz.prog 21 #[.string ⟨(eachT l).toArray⟩] v (SRet v (spR (eachT l))) := fun v hb => sparse_c (eachT l) mx (by omega) (by omega) (iany_ascii _ (by omega) q2) v (hmv v hb)
    have r1 : ∀ E, (spR (onceT l)).2.2.2 = E → spR (onceT l) = ((spR (onceT l)).1, (spR (onceT l)).2.1, (spR (onceT l)).2.2.1, E) := fun E hE => by rw [← hE]
    have r2 : ∀ E, (spR (onceT l)).2.2.2 = E → spR (eachT l) = ((spR (onceT l)).1, (spR (onceT l)).2.1, (spR (eachT l)).2.2.1, E) := fun E hE => by rw [← hE, e1, e2, e3]
    rcases e4 with e | e | e
    · obtain ⟨k1, k2, k3⟩ := e5 e
      have r1' := r1 _ e
      have r2' := r2 _ e
      rw [k1] at r1'
      rw [k2] at r2'
      refine ag_ok l sv w (spR (onceT l)).1 (spR (onceT l)).2.1 0 0 hp hsh h hI (fun v hb => ?_) (fun v hb => ?_) k3
      · have := h1 v hb; rw [r1'] at this; exact this
      · have := h2 v hb; rw [r2'] at this; exact this
    · refine ag_far l sv w (spR (onceT l)).1 (spR (onceT l)).2.1 (spR (onceT l)).2.2.1 (spR (eachT l)).2.2.1 hp hsh h hI (fun v hb => ?_) (fun v hb => ?_)
      · have := h1 v hb; rw [r1 _ e] at this; exact this
      · have := h2 v hb; rw [r2 _ e] at this; exact this
    · refine ag_bad l sv w (spR (onceT l)).1 (spR (onceT l)).2.1 (spR (onceT l)).2.2.1 (spR (eachT l)).2.2.1 hp hsh h hI (fun v hb => ?_) (fun v hb => ?_)
      · have := h1 v hb; rw [r1 _ e] at this; exact this
      · have := h2 v hb; rw [r2 _ e] at this; exact this
end Go.Proofs.YtjmagehfkcnjjaaGreatDoor
