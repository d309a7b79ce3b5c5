/-
  Where a chain is, by its ruler.
-/
import Derived.Test.YtcdnekhpeghkiaaD5
namespace Go.Proofs.Ytcdnekhpeghkiaa
set_option linter.unusedVariables false
open Go.RowKit

theorem cor_mod (pts : List (Int × Int)) (i : Nat) : cor pts (i % pts.length) = cor pts i := by
  unfold cor
  rw [Nat.mod_mod]
theorem first_L (C : Ch) (x : Int) (gl M cap : Nat) (w : World) (hM : M = C.m + 1) (hl : LnsB w gl C) (hcap : M ≤ cap) (m1 : 1 ≤ C.m) (m9 : C.m ≤ 100) (hx : x ≤ C.ln C.m) :
    Calls Try.prog 56 #[.slice (some ⟨gl, 0, none⟩) M cap, .int .i64 x] w fun e w' => e = .returned (.int .i64 (C.idx x : Nat)) ∧ ∃ x : Later w, w' = x.out := by
  obtain ⟨h1, h2, h3⟩ := C.idx_is x (by omega) hx
  exact first_c C.ln x (C.idx x) gl 0 C.m cap M w hM hl.lt hl.cell m1 (by omega) hcap (by omega) h3 (fun i hi him => by
    have := C.ln_mono (i + 1) (C.idx x + 1) (by omega) (by omega)
    omega)
/-- the chord at so much of the way -/
def Ch.ix (C : Ch) (x : Int) : Nat := if C.m = 0 then 0 else C.idx x
set_option maxRecDepth 100000 in
set_option maxHeartbeats 1000000 in
theorem rat_0 (cl : Bool) (pts : List (Int × Int)) (g : GoodC cl pts) (Bp o n c gl M cap : Nat) (d : Int) (w : World) (hn : pts.length = n) (hc : n ≤ c) (hp : PtsB w Bp o pts) (hM : M = g.ch.m + 1) (hm : g.ch.m = 0) (hl : LnsB w gl g.ch) (hcap : M ≤ cap) :
    Calls Try.prog 38 #[.agg #[.slice (some ⟨Bp, o, none⟩) n c, .bool cl, .slice (some ⟨gl, 0, none⟩) M cap], .int .i64 d] w fun e w' => e = .returned (.tuple #[.int .i64 (g.ch.ix (g.ch.held d) : Nat), .agg #[.int .i64 (g.ch.at (g.ch.held d)).1, .int .i64 (g.ch.at (g.ch.held d)).2]]) ∧ ∃ x : Later w, w' = x.out := by
  have n1 := g.n1
  have e1 : g.ch.ix (g.ch.held d) = 0 := by unfold Ch.ix; rw [if_pos hm]
  have e2 : g.ch.at (g.ch.held d) = cor pts 0 := by unfold Ch.at; rw [if_pos hm]; rfl
  rw [e1, e2]
  obtain ⟨q0, q1⟩ := hp.cell 0 _ (cor_at pts 0 n1)
  have lp := hp.lt
  have lg := hl.lt
  have HL := Lib.hid hl
  have hM1 : M = 1 := by omega
  subst hM1
  generalize cor pts 0 = p at *
  obtain ⟨p0, p1⟩ := p
  simp only [Nat.zero_mul, Nat.add_zero] at q0 q1
  have n1' : 1 ≤ n := by omega
  clear e1 e2 hp hl hM hm
  go_enter Try.func38, Try.ntmps38
  go_wp2_with (fail)
  refine wp_region_later_tail 6 (by kernel_rfl) (by kernel_rfl) ?_
  simp only [List.take_succ_cons, List.take_zero, List.drop_succ_cons, List.drop_zero]
  repeat (go_big_quiet_step ((first | fail)))
  refine wpQuiet_nil ?_
  intro x
  go_wp2_with (fail)
  exact bodyPost_ret (v := .tuple #[.int .i64 0, .agg #[.int .i64 p0, .int .i64 p1]]) (by simp [results, Try.results38, go_sem, *]) rfl ⟨rfl, (Later.mk_of (by repeat (first | (with_reducible assumption) | (with_reducible exact Below.refl _ _) | (with_reducible refine Later.after ?_ _) | (with_reducible refine Later.newer ?_ _) | (with_reducible refine Below.drew ?_) | (with_reducible refine Below.setCell ?_ (by first | exact Nat.le_refl _ | exact Nat.le_add_right _ _ | omega | (simp [go_sem]; done) | (simp [go_sem]; omega)) _))))⟩
set_option maxRecDepth 100000 in
set_option maxHeartbeats 2000000 in
theorem rat_1 (cl : Bool) (pts : List (Int × Int)) (g : GoodC cl pts) (Bp o n c gl M cap : Nat) (d : Int) (w : World) (hn : pts.length = n) (hc : n ≤ c) (hp : PtsB w Bp o pts) (hM : M = g.ch.m + 1) (hm : 1 ≤ g.ch.m) (hl : LnsB w gl g.ch) (hcap : M ≤ cap) :
    Calls Try.prog 38 #[.agg #[.slice (some ⟨Bp, o, none⟩) n c, .bool cl, .slice (some ⟨gl, 0, none⟩) M cap], .int .i64 d] w fun e w' => e = .returned (.tuple #[.int .i64 (g.ch.ix (g.ch.held d) : Nat), .agg #[.int .i64 (g.ch.at (g.ch.held d)).1, .int .i64 (g.ch.at (g.ch.held d)).2]]) ∧ ∃ x : Later w, w' = x.out := by
  have n1 := g.n1
  have n9 := g.n9
  have m9 := g.m_le
  obtain ⟨x0, x9⟩ := g.ch.held_in d
  have hh := fun w' hl' => rheld_c g.ch Bp o n c gl M cap cl d w' hM hl' m9
  have hf := fun w' hl' => first_L g.ch (g.ch.held d) gl M cap w' hM hl' hcap hm m9 x9
  have e1 : g.ch.ix (g.ch.held d) = g.ch.idx (g.ch.held d) := by unfold Ch.ix; rw [if_neg (by omega)]
  have e2 : g.ch.at (g.ch.held d) = wayP (g.ch.P (g.ch.idx (g.ch.held d))) (g.ch.P (g.ch.idx (g.ch.held d) + 1)) (g.ch.held d - g.ch.ln (g.ch.idx (g.ch.held d))) (g.ch.d (g.ch.idx (g.ch.held d))) := by unfold Ch.at; rw [if_neg (by omega)]
  rw [e1, e2]
  obtain ⟨i1, i2, i3⟩ := g.ch.idx_is (g.ch.held d) (by omega) x9
  generalize hX : g.ch.held d = X at *
  generalize hI : g.ch.idx X = i at *
  have i4 : g.ch.ln i ≤ X := by
    cases i with
    | zero => exact x0
    | succ i => have := i3 i (by omega); omega
  have na := g.near _ (cor_mem pts i n1)
  have nb := g.near _ (cor_mem pts (i + 1) n1)
  have dd1 := dst_le2 _ _ na nb
  have dd0 := g.ch.dp i i1
  have hla := hl.cell i (by omega)
  have hlb := hl.cell (i + 1) (by omega)
  have hln := g.ch.ln_s i
  have hl9 := g.ln_le (i + 1)
  have hl0 := g.ch.ln_pos i (by omega)
  have hin : i < n := by
    have h : g.ch.m = mch cl pts := rfl
    unfold mch at h
    split at h <;> omega
  obtain ⟨j, hj⟩ : ∃ j, j = (i + 1) % n := ⟨_, rfl⟩
  have hjn : j < n := by rw [hj]; exact Nat.mod_lt _ (by omega)
  obtain ⟨q0, q1⟩ := hp.cell i _ (cor_at pts i (by omega))
  obtain ⟨q2, q3⟩ := hp.cell j _ (cor_at pts j (by omega))
  have ecj : cor pts j = cor pts (i + 1) := by rw [hj, ← hn]; exact cor_mod pts (i + 1)
  rw [ecj] at q2 q3
  have hP : ∀ k, g.ch.P k = cor pts k := fun _ => rfl
  have hD : g.ch.d i = dst (cor pts i) (cor pts (i + 1)) := rfl
  rw [hP, hP]
  rw [← hD] at dd1
  have hal := fun v => along_c (cor pts i).1 (cor pts i).2 (cor pts (i + 1)).1 (cor pts (i + 1)).2 (X - g.ch.ln i) (g.ch.d i) v (by unfold nearP at na; omega) (by unfold nearP at na; omega) (by unfold nearP at na; omega) (by unfold nearP at na; omega) (by unfold nearP at nb; omega) (by unfold nearP at nb; omega) (by unfold nearP at nb; omega) (by unfold nearP at nb; omega) dd0 (by omega) (by omega) (by omega)
  have hal2 : wayP (cor pts i) (cor pts (i + 1)) (X - g.ch.ln i) (g.ch.d i) = ((cor pts i).1 + nrst (((cor pts (i + 1)).1 - (cor pts i).1) * (X - g.ch.ln i)) (g.ch.d i), (cor pts i).2 + nrst (((cor pts (i + 1)).2 - (cor pts i).2) * (X - g.ch.ln i)) (g.ch.d i)) := rfl
  rw [hal2]
  have hi9 : ((i + 1 : Nat) : Int) ≤ 100 := by omega
  obtain ⟨K, hK⟩ : ∃ K, K = i + 1 := ⟨_, rfl⟩
  rw [← hK] at hlb hln hl9 i2
  rw [Nat.zero_add] at hla hlb
  have lp := hp.lt
  have lg := hl.lt
  have HL := Lib.hid hl
  have HH := Lib.hid hh
  have HF := Lib.hid hf
  generalize g.ch.d i = D at *
  generalize g.ch.ln i = A at *
  generalize g.ch.ln K = B at *
  generalize (cor pts i).1 + nrst (((cor pts (i + 1)).1 - (cor pts i).1) * (X - A)) D = RX at *
  generalize (cor pts i).2 + nrst (((cor pts (i + 1)).2 - (cor pts i).2) * (X - A)) D = RY at *
  generalize cor pts i = p at *
  generalize cor pts (i + 1) = q at *
  obtain ⟨p0, p1⟩ := p
  obtain ⟨z0, z1⟩ := q
  simp only [] at q0 q1 q2 q3 hal
  obtain ⟨kk, hkk⟩ : ∃ kk, X - A = kk := ⟨_, rfl⟩
  rw [hkk] at hal
  have f1 : IntKind.i64.wrap (X - A) = kk := by rw [IntWalk.i64_in _ (by omega)]; exact hkk
  have f2 : wrap64 (X - A) = kk := by unfold wrap64; omega
  have f3 : B - A = D := by omega
  have f4 : IntKind.i64.wrap (B - A) = D := by rw [IntWalk.i64_in _ (by omega)]; exact f3
  have f5 : wrap64 (B - A) = D := by unfold wrap64; omega
  have f16 : wrap64 D = D := by unfold wrap64; omega
  have f17 : IntKind.i64.wrap D = D := by rw [IntWalk.i64_in _ (by omega)]
  have f18 : wrap64 kk = kk := by unfold wrap64; omega
  have f19 : IntKind.i64.wrap kk = kk := by rw [IntWalk.i64_in _ (by omega)]
  have f6 : (i : Int) + 1 = (K : Int) := by omega
  have f7 : IntKind.i64.wrap ((i : Int) + 1) = (K : Int) := by rw [IntWalk.i64_in _ (by omega)]; omega
  have f8 : (K : Int).tmod (n : Int) = (j : Int) := by
    rw [Int.tmod_eq_emod_of_nonneg (by omega), hj, hK]
    exact (Int.natCast_emod _ _).symm
  have f9 : (K : Int) % (n : Int) = (j : Int) := by rw [hj, hK]; exact (Int.natCast_emod _ _).symm
  have f10 : ((n : Int) == 0) = false := by simp; omega
  have f11 : i < M := by omega
  have f12 : K < M := by omega
  have f13 : (M == 1) = false := by simp; omega
  have f14 : ((M : Int) == 1) = false := by simp; omega
  have f15 : IntKind.i64.wrap (j : Int) = (j : Int) := by rw [IntWalk.i64_in _ (by omega)]
  have HA := Lib.hid hal
  have n1' : 1 ≤ n := by omega
  have hi0 : (0 : Int) ≤ i := by omega
  have hj0 : (0 : Int) ≤ j := by omega
  have hK0 : (0 : Int) ≤ K := by omega
  have HKK := Lib.hid hK
  clear hal hh hf hl hp hM hm hX hI e1 e2 i2 i3 i4 na nb dd1 dd0 hln hl9 hl0 ecj hP hD hal2 hK hkk x0 x9 hj hn i1 m9 n1 n9
  simp only []
  go_enter Try.func38, Try.ntmps38
  go_wp2_with (fail)
  refine wp_region_later (by kernel_rfl) (by kernel_rfl) ?_
  repeat (go_big_quiet_step ((first | (go_at_call 37; with_reducible exact Later.call _ (HH.out _ (((HL.out.alloc _).alloc _).later _))) | (go_at_call 56; with_reducible exact Later.call _ (HF.out _ (((HL.out.alloc _).alloc _).later _))))))
  refine wpQuiet_nil ?_
  intro x
  go_wp2_with (fail)
  skip
  refine wp_region_pick [0, 1, 2, 3, 4, 5, 6, 7, 8, 9, 10, 11, 12, 13, 14, 15, 16, 17, 18, 19, 20, 21, 22, 23, 24, 25, 26, 27, 28, 29, 30, 31, 32, 33, 34, 35, 36, 37, 38, 39, 40] [41, 42] (by kernel_rfl) (by kernel_rfl) rfl rfl ?_
  simp only [pick, List.getElem?_cons_zero, List.getElem?_cons_succ]
  repeat (go_big_quiet_step ((first | (go_at_call 37; with_reducible exact Later.call _ (HH.out _ ((((HL.out.alloc _).alloc _).later _).later _))) | (go_at_call 57; with_reducible exact Later.call _ (HA.out _)))))
  refine wpQuiet_nil ?_
  intro x
  gi_wp2
  go_wp2_with (fail)
  exact bodyPost_ret (v := .tuple #[.int .i64 i, .agg #[.int .i64 RX, .int .i64 RY]]) (by simp [results, Try.results38, go_sem, *]) rfl ⟨rfl, (Later.mk_of (by repeat (first | (with_reducible assumption) | (with_reducible exact Below.refl _ _) | (with_reducible refine Later.after ?_ _) | (with_reducible refine Later.newer ?_ _) | (with_reducible refine Below.drew ?_) | (with_reducible refine Below.setCell ?_ (by first | exact Nat.le_refl _ | exact Nat.le_add_right _ _ | omega | (simp [go_sem]; done) | (simp [go_sem]; omega)) _))))⟩
theorem rat_c (cl : Bool) (pts : List (Int × Int)) (g : GoodC cl pts) (Bp o n c gl M cap : Nat) (d : Int) (w : World) (hn : pts.length = n) (hc : n ≤ c) (hp : PtsB w Bp o pts) (hM : M = g.ch.m + 1) (hl : LnsB w gl g.ch) (hcap : M ≤ cap) :
    Calls Try.prog 38 #[.agg #[.slice (some ⟨Bp, o, none⟩) n c, .bool cl, .slice (some ⟨gl, 0, none⟩) M cap], .int .i64 d] w fun e w' => e = .returned (.tuple #[.int .i64 (g.ch.ix (g.ch.held d) : Nat), .agg #[.int .i64 (g.ch.at (g.ch.held d)).1, .int .i64 (g.ch.at (g.ch.held d)).2]]) ∧ ∃ x : Later w, w' = x.out := by
  by_cases hm : g.ch.m = 0
  · exact rat_0 cl pts g Bp o n c gl M cap d w hn hc hp hM hm hl hcap
  · exact rat_1 cl pts g Bp o n c gl M cap d w hn hc hp hM (by omega) hl hcap
end Go.Proofs.Ytcdnekhpeghkiaa
