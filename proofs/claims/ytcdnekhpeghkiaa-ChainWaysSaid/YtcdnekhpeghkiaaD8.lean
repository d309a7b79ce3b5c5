/-
  A part of a chain.
-/
import Derived.Test.YtcdnekhpeghkiaaD7
import Derived.Test.YtcdnekhpeghkiaaC1
namespace Go.Proofs.Ytcdnekhpeghkiaa
set_option linter.unusedVariables false
open Go.RowKit

theorem PtsB.alloc {W : World} {b o : Nat} {pts : List (Int × Int)} (h : PtsB W b o pts) (ob : Obj) : PtsB (W.alloc ob) b o pts := h.below ((Below.refl _ W).alloc (Nat.le_refl _) ob) h.lt
theorem LnsB.set {W : World} {g b : Nat} {C : Ch} (h : LnsB W g C) (i : Nat) (v : Value) (hne : g ≠ b) : LnsB (W.setCell ⟨b, i, none⟩ v) g C := by
  have kb : (W.setCell ⟨b, i, none⟩ v).heap[g]? = W.heap[g]? := Below.heap_setCell W _ v g hne
  exact ⟨by rw [World.size_setCell]; exact h.lt, fun j hj => (World.cell?_of_block (a := ⟨g, 0 + j, none⟩) kb).trans (h.cell j hj)⟩
/-- the state behind the ruler's laying: the chain's box, the result's box, the ruler's block -/
structure CutA (w : World) (C : Ch) (sv : Value) (cl : Bool) (M gr gl cap : Nat) (W : World) : Prop where
  cbox : Blk W w.heap.size 36 #[sv, .bool cl]
  rbox : Blk W (w.heap.size + 1) 36 #[.slice none 0 0, .bool false]
  ruler : Blk W gr 80 #[sv, .bool cl, .slice (some ⟨gl, 0, none⟩) M cap]
  lns : LnsB W gl C
  room : M ≤ cap
  gr1 : w.heap.size + 1 < gr
  gl1 : w.heap.size + 1 < gl
  below : Below w.heap.size w W
theorem CutA.later {w : World} {C : Ch} {sv : Value} {cl : Bool} {M gr gl cap : Nat} {W : World} (h : CutA w C sv cl M gr gl cap W) (x : Later W) : CutA w C sv cl M gr gl cap x.out :=
  ⟨h.cbox.later x, h.rbox.later x, h.ruler.later x, h.lns.later x, h.room, h.gr1, h.gl1, h.below.trans (x.below.mono h.below.size)⟩
theorem Ch.held_id (C : Ch) (x : Int) (h0 : 0 ≤ x) (h1 : x ≤ C.ln C.m) : C.held x = x := by unfold Ch.held; omega
theorem CutA.alloc {w : World} {C : Ch} {sv : Value} {cl : Bool} {M gr gl cap : Nat} {W : World} (h : CutA w C sv cl M gr gl cap W) (o : Obj) : CutA w C sv cl M gr gl cap (W.alloc o) :=
  ⟨h.cbox.alloc _, h.rbox.alloc _, h.ruler.alloc _, h.lns.alloc _, h.room, h.gr1, h.gl1, h.below.alloc h.below.size _⟩
/-- the corners between, up to number k -/
def midK (C : Ch) (x z : Int) (k : Nat) : List (Int × Int) := ((List.range' 1 k).filter fun i => decide (x < C.ln i) && decide (C.ln i < z)).map C.P
theorem midK_s (C : Ch) (x z : Int) (k : Nat) : midK C x z (k + 1) = midK C x z k ++ if decide (x < C.ln (k + 1)) && decide (C.ln (k + 1) < z) then [C.P (k + 1)] else [] := by
  unfold midK
  rw [List.range'_concat, List.filter_append, List.map_append]
  congr 1
  rw [show 1 + 1 * k = k + 1 by omega]
  by_cases h : (decide (x < C.ln (k + 1)) && decide (C.ln (k + 1) < z)) = true
  · rw [if_pos h]; simp only [List.filter, h]; rfl
  · rw [if_neg h]; simp only [List.filter, Bool.eq_false_iff.2 h]; rfl
theorem midK_len (C : Ch) (x z : Int) (k : Nat) : (midK C x z k).length ≤ k := by
  unfold midK
  rw [List.length_map]
  exact Nat.le_trans (List.length_filter_le _ _) (by simp)
theorem two_at {W : World} {g : Nat} {T : TypeId} {u v : Value} (h : Blk W g T #[u, v]) : ∀ j x, ([u, v] : List Value)[j]? = some x → W.cell? ((⟨g, 0, none⟩ : Addr).add j) = some x := by
  intro j x hx
  rw [Addr.add_mid, Nat.zero_add, h.cell]
  simpa using hx
theorem two_cell (x y : Int) : ∀ v ∈ ([.int .i64 x, .int .i64 y] : List Value), v.oneCell' = true := by
  intro v hv
  simp only [List.mem_cons, List.not_mem_nil, or_false] at hv
  rcases hv with rfl | rfl <;> rfl
theorem fl_app (a b : List (Int × Int)) : fl (a ++ b) = fl a ++ fl b := by unfold fl; rw [List.flatMap_append]
theorem Blk.below_grown {W W' : World} {b N : Nat} {T : TypeId} {c : Array Value} {row : Option Nat} (h : Blk W b T c) (hg : W.grownBy W' row) (hr : ∀ r, row = some r → N ≤ r) (hb : b < N) : Blk W' b T c := h.grown hg hr hb
theorem cmp_arm {W : World} {base : Nat} {v : Value} {out : List (Int × Int)} {a b : Int} (h : W.ownsRow base 23 2 v (out.length + 1) (fl out ++ [.int .i64 a, .int .i64 b])) (h9 : out.length ≤ 1000) :
    ∃ g cap, v = .slice (some ⟨g, 0, none⟩) (out.length + 1) cap ∧ Calls Try.prog 39 #[.slice (some ⟨g, 0, none⟩) (out.length + 1) cap] W (CRet W base g cap (out ++ [(a, b)])) := by
  rw [show ([.int .i64 a, .int .i64 b] : List Value) = fl [(a, b)] from rfl, ← fl_app] at h
  have h' : W.ownsRow base 23 2 v (out ++ [(a, b)]).length (fl (out ++ [(a, b)])) := by simpa using h
  obtain ⟨g, cap, e, hc⟩ := compact_own W base v (out ++ [(a, b)]) h' (by simp) (by simp; omega)
  rw [e] at hc
  have el : (out ++ [(a, b)]).length = out.length + 1 := by simp
  rw [el] at hc e
  exact ⟨g, cap, e, hc⟩
structure KInv (W5 : World) (C : Ch) (X Z : Int) (p : Int × Int) (k : Nat) (o : Value) (out : List (Int × Int)) (W : World) : Prop where
  own : W.ownsRow W5.heap.size 23 2 o out.length (fl out)
  res : out = p :: midK C X Z k
  below : Below W5.heap.size W5 W
/-- what Cut hands back -/
def KRet (w : World) (L : List (Int × Int)) (e : Ending) (w' : World) : Prop :=
  ∃ g cap, e = .returned (.agg #[.slice (some ⟨g, 0, none⟩) L.length cap, .bool false]) ∧ w'.ownsRow w.heap.size 23 2 (.slice (some ⟨g, 0, none⟩) L.length cap) L.length (fl L) ∧ ∃ x : Later w, w' = x.out
set_option maxRecDepth 100000 in
set_option maxHeartbeats 4000000 in
theorem cut_c (cl : Bool) (pts : List (Int × Int)) (g : GoodC cl pts) (sv : Value) (da db : Int) (w : World) (h : PtsAt w sv pts) :
    Calls Try.prog 18 #[.agg #[sv, .bool cl], .int .i64 da, .int .i64 db] w (KRet w (g.ch.cut (min (g.ch.held da) (g.ch.held db)) (g.ch.held db))) := by
  obtain ⟨M, hM⟩ : ∃ M, g.ch.m + 1 = M := ⟨_, rfl⟩
  have hlen := fun w' h' => lensM_c cl pts g sv w' M hM h'
  obtain ⟨Bp, o, c, rfl, hc, hm, hp⟩ := h.ptsB g.n1
  have hi1 := g.ch.held_in da
  have hi2 := g.ch.held_in db
  obtain ⟨X0, hX0⟩ : ∃ X0, g.ch.held da = X0 := ⟨_, rfl⟩
  obtain ⟨Z, hZ⟩ : ∃ Z, g.ch.held db = Z := ⟨_, rfl⟩
  obtain ⟨X, hX⟩ : ∃ X, min X0 Z = X := ⟨_, rfl⟩
  have hhe1 := fun gl cap w' hl => rheld_c g.ch Bp o pts.length c gl M cap cl da w' hM.symm hl g.m_le
  have hhe2 := fun gl cap w' hl => rheld_c g.ch Bp o pts.length c gl M cap cl db w' hM.symm hl g.m_le
  have hat1 := fun gl cap w' hp' hl hcap => rat_c cl pts g Bp o pts.length c gl M cap X w' rfl hc hp' hM.symm hl hcap
  have hat2 := fun gl cap w' hp' hl hcap => rat_c cl pts g Bp o pts.length c gl M cap Z w' rfl hc hp' hM.symm hl hcap
  rw [hX0] at hi1 hhe1
  rw [hZ] at hi2 hhe2
  rw [hX0, hZ, hX]
  rw [Ch.held_id g.ch X (by omega) (by omega)] at hat1
  rw [Ch.held_id g.ch Z (by omega) (by omega)] at hat2
  obtain ⟨⟨p0, p1⟩, hp1⟩ : ∃ p, g.ch.at X = p := ⟨_, rfl⟩
  obtain ⟨⟨z0, z1⟩, hp2⟩ : ∃ p, g.ch.at Z = p := ⟨_, rfl⟩
  rw [hp1] at hat1
  rw [hp2] at hat2
  generalize g.ch.ix X = iX at *
  generalize g.ch.ix Z = iZ at *
  have HLEN := Lib.hid hlen
  have HAT1 := Lib.hid hat1
  have HAT2 := Lib.hid hat2
  have HHE1 := Lib.hid hhe1
  have HHE2 := Lib.hid hhe2
  have HP1 := Lib.hid hp1
  have HP2 := Lib.hid hp2
  have H := Lib.hid h
  have HP := Lib.hid hp
  have lb := hp.lt
  have n1 := g.n1
  have n9 := g.n9
  have m9 := g.m_le
  have HM := Lib.hid hM
  clear hlen hat1 hat2 h hp hhe1 hhe2 hM hp1 hp2 hi1 hi2 hX0 hZ
  generalize hn : pts.length = n at *
  have HN := Lib.hid hn
  clear hn
  go_enter Try.func18, Try.ntmps18
  go_upto_region 1 with (fail)
  go_cut [7] from 15 to 18 (fun s7 wx => ∃ gr gl cap : Nat, s7 = .pointer (some ⟨gr, 0, none⟩) ∧ CutA w g.ch (.slice (some ⟨Bp, o, none⟩) n c) cl M gr gl cap wx)
  case first =>
    go_region_held3 (fun w' => w'.cell? ⟨w.heap.size, 0, none⟩ = some (.slice (some ⟨Bp, o, none⟩) n c) ∧ w'.cell? ⟨w.heap.size, 1, none⟩ = some (.bool cl)) ((simp [go_sem, *]; done))
      (first | (go_at_call 21; (with_reducible refine (HLEN.out _ (H.out.below (B := w.heap.size) (by repeat (first | (with_reducible assumption) | (with_reducible exact Below.refl _ _) | (with_reducible refine Later.after ?_ _) | (with_reducible refine Later.newer ?_ _) | (with_reducible refine Below.drew ?_) | (with_reducible refine Below.setCell ?_ (by first | exact Nat.le_refl _ | exact Nat.le_add_right _ _ | omega | (simp [go_sem]; done) | (simp [go_sem]; omega)) _))) (Nat.le_refl _))).mono ?_); rintro _ _ ⟨gl, cap, rfl, hgl, hlb, hcap, x, rfl⟩; have HO := Lib.hid hlb; clear hlb))
    all_goals
      go_wp2_with (fail)
      go_meet
    · refine ⟨_, gl, cap, rfl, (by repeat (first | (with_reducible assumption) | (with_reducible refine Blk.later ?_ _) | (with_reducible refine Blk.drew ?_) | ((with_reducible refine Blk.new' ?_); (simp; done)) | (with_reducible refine Blk.alloc ?_ _) | (with_reducible refine Blk.other ?_ _ _ (by first | omega | (simp; done) | (simp; omega))))), (by repeat (first | (with_reducible assumption) | (with_reducible refine Blk.later ?_ _) | (with_reducible refine Blk.drew ?_) | ((with_reducible refine Blk.new' ?_); (simp; done)) | (with_reducible refine Blk.alloc ?_ _) | (with_reducible refine Blk.other ?_ _ _ (by first | omega | (simp; done) | (simp; omega))))), Blk.new _ _ _, HO.out.alloc _, hcap, ?_, ?_, (by repeat (first | (with_reducible assumption) | (with_reducible exact Below.refl _ _) | (with_reducible refine Later.after ?_ _) | (with_reducible refine Later.newer ?_ _) | (with_reducible refine Below.drew ?_) | (with_reducible refine Below.setCell ?_ (by first | exact Nat.le_refl _ | exact Nat.le_add_right _ _ | omega | (simp [go_sem]; done) | (simp [go_sem]; omega)) _)))⟩
      · have := x.size_le; simp at this; omega
      · simp at hgl; omega
    · refine ⟨_, gl, cap, rfl, (by repeat (first | (with_reducible assumption) | (with_reducible refine Blk.later ?_ _) | (with_reducible refine Blk.drew ?_) | ((with_reducible refine Blk.new' ?_); (simp; done)) | (with_reducible refine Blk.alloc ?_ _) | (with_reducible refine Blk.other ?_ _ _ (by first | omega | (simp; done) | (simp; omega))))), (by repeat (first | (with_reducible assumption) | (with_reducible refine Blk.later ?_ _) | (with_reducible refine Blk.drew ?_) | ((with_reducible refine Blk.new' ?_); (simp; done)) | (with_reducible refine Blk.alloc ?_ _) | (with_reducible refine Blk.other ?_ _ _ (by first | omega | (simp; done) | (simp; omega))))), (((Blk.later (Blk.drew (Blk.new' (by simp))) _).set _ _).set _ _).set _ _ |>.eq (by simp), ((HO.out.set _ _ ?_).set _ _ ?_).set _ _ ?_, hcap, ?_, ?_, (by repeat (first | (with_reducible assumption) | (with_reducible exact Below.refl _ _) | (with_reducible refine Later.after ?_ _) | (with_reducible refine Later.newer ?_ _) | (with_reducible refine Below.drew ?_) | (with_reducible refine Below.setCell ?_ (by first | exact Nat.le_refl _ | exact Nat.le_add_right _ _ | omega | (simp [go_sem]; done) | (simp [go_sem]; omega)) _)))⟩
      all_goals first | omega | (simp at hgl ⊢; omega)
  case rest =>
    obtain ⟨gr, gl, cap, rfl, hA⟩ := hcut
    obtain ⟨c1, c2, c3⟩ := hA.cbox.all
    obtain ⟨r1, r2, r3⟩ := hA.rbox.all
    obtain ⟨u1, u2, u3⟩ := hA.ruler.all
    have hcap := hA.room
    have hB := hA.below
    have HL := Lib.hid hA.lns
    have HPc := Lib.hid (HP.out.below hA.below lb)
    have HA := Lib.hid hA
    clear hA
    go_upto_region 3 with (first | (go_at_call 37; (with_reducible refine (HHE2.out gl cap _ (by repeat (first | (with_reducible exact HL.out) | (with_reducible refine LnsB.later ?_ _) | (with_reducible refine LnsB.alloc ?_ _)))).mono ?_); rintro e _ ⟨rfl, x1, rfl⟩))
    go_upto_region 4 with (first | (go_at_call 37; (with_reducible refine (HHE1.out gl cap _ (by repeat (first | (with_reducible exact HL.out) | (with_reducible refine LnsB.later ?_ _) | (with_reducible refine LnsB.alloc ?_ _)))).mono ?_); rintro e _ ⟨rfl, x2, rfl⟩))
    have hA2 := (HA.out.later x1).later x2
    have hL2 := (HL.out.later x1).later x2
    have hP2 := (HPc.out.later x1).later x2
    clear c1 c2 c3 r1 r2 r3 u1 u2 u3 hB HL HPc
    generalize x2.out = V2 at *
    obtain ⟨c1, c2, c3⟩ := hA2.cbox.all
    obtain ⟨r1, r2, r3⟩ := hA2.rbox.all
    obtain ⟨u1, u2, u3⟩ := hA2.ruler.all
    have HL := Lib.hid hL2
    have HPc := Lib.hid hP2
    have HA2 := Lib.hid hA2
    clear hA2 hL2 hP2
    go_upto_region 5 with (first | (go_at_call 38; (with_reducible refine (HAT1.out gl cap _ (by repeat (first | (with_reducible exact HPc.out) | (with_reducible refine PtsB.later ?_ _) | (with_reducible refine PtsB.alloc ?_ _))) (by repeat (first | (with_reducible exact HL.out) | (with_reducible refine LnsB.later ?_ _) | (with_reducible refine LnsB.alloc ?_ _))) hcap).mono ?_); rintro e _ ⟨rfl, x3, rfl⟩))
    go_upto_region 6 with (first | (go_at_call 38; (with_reducible refine (HAT2.out gl cap _ (by repeat (first | (with_reducible exact HPc.out) | (with_reducible refine PtsB.later ?_ _) | (with_reducible refine PtsB.alloc ?_ _))) (by repeat (first | (with_reducible exact HL.out) | (with_reducible refine LnsB.later ?_ _) | (with_reducible refine LnsB.alloc ?_ _))) hcap).mono ?_); rintro e _ ⟨rfl, x4, rfl⟩))
    have hA3 := (((HA2.out.later x3).alloc (.cells #[.int .i64 p0, .int .i64 p1] 23)).later x4).alloc (.cells #[.int .i64 z0, .int .i64 z1] 23)
    have hP3 := (((HPc.out.later x3).alloc (.cells #[.int .i64 p0, .int .i64 p1] 23)).later x4).alloc (.cells #[.int .i64 z0, .int .i64 z1] 23)
    have hp0 : Blk ((x4.out).alloc (.cells #[.int .i64 z0, .int .i64 z1] 23)) x3.out.heap.size 23 #[.int .i64 p0, .int .i64 p1] := ((Blk.new x3.out 23 _).later x4).alloc _
    have hq0 : Blk ((x4.out).alloc (.cells #[.int .i64 z0, .int .i64 z1] 23)) x4.out.heap.size 23 #[.int .i64 z0, .int .i64 z1] := Blk.new x4.out 23 _
    have hw3 := hA3.below
    have hg9 : w.heap.size + 1 < x3.out.heap.size := by have := x3.size_le; omega
    have hg11 : w.heap.size + 1 < x4.out.heap.size := by have := x4.size_le; simp only [World.size_alloc] at this; omega
    clear c1 c2 c3 r1 r2 r3 u1 u2 u3 HL HPc
    generalize x4.out.heap.size = g11 at *
    generalize x3.out.heap.size = g9 at *
    generalize (x4.out).alloc (.cells #[.int .i64 z0, .int .i64 z1] 23) = W5 at *
    clear x4 HA2 x3 x2 x1 HA
    obtain ⟨m, hm⟩ : ∃ m, g.ch.m = m := ⟨_, rfl⟩
    have hmM : M = m + 1 := by rw [← HM.out, hm]
    have hm9 : m ≤ 100 := by omega
    obtain ⟨q1, q2, q3⟩ := hp0.all
    obtain ⟨u1, u2, u3⟩ := hA3.ruler.all
    have HA := Lib.hid hA3
    have HPP := Lib.hid hP3
    have HQ := Lib.hid hq0
    have HBW := Lib.hid hw3
    have Hm := Lib.hid hm
    have s0 := hw3.size
    clear hA3 hP3 hp0 hq0 hw3 hm
    go_upto_region 7 with (fail)
    go_cut [43, 44, 45] from 41 to 45 (fun s43 s44 s45 wx => ∃ off c', s43 = .slice (some ⟨gl, off, none⟩) m c' ∧ s44 = .int .i64 m ∧ s45 = .int .i64 0 ∧ (0 < m → off = 1) ∧ m ≤ c' ∧ wx = W5.alloc (.cells #[.int .i64 p0, .int .i64 p1] 23))
    case first =>
      have e2 : 1 ≤ M := by omega
      have e1 : M - 1 = m := by omega
      have HMm := Lib.hid hmM
      by_cases hcc : cap = 1
      · subst hcc
        clear hmM
        go_wp2_with (fail)
        go_meet
        exact ⟨_, _, rfl, rfl, rfl, fun h => by have := HMm.out; omega, by have := HMm.out; omega, rfl⟩
      · have c1 : (cap = 1) = False := eq_false hcc
        have c2 : (cap - 1 = 0) = False := eq_false (by omega)
        have c3 : 1 < cap := by omega
        have c4 : (1 = cap) = False := eq_false (by omega)
        clear hmM
        go_wp2_with (fail)
        go_meet
        exact ⟨_, _, rfl, rfl, rfl, fun h => rfl, by have := HMm.out; omega, rfl⟩
    case rest =>
      obtain ⟨off, c', rfl, rfl, rfl, hoff, hmc, rfl⟩ := hcut
      clear q1 q2 q3 u1 u2 u3 hmM
      obtain ⟨i0, hi0, hz0, hz1, hz2⟩ := infoPt
      have hown0 : (W5.alloc (.cells #[.int .i64 p0, .int .i64 p1] 23)).ownsRow W5.heap.size 23 2 (.slice (some ⟨W5.heap.size, 0, none⟩) 1 1) 1 (fl [(p0, p1)]) :=
        World.ownsRow_lit W5 #[.int .i64 p0, .int .i64 p1] 1 (Nat.le_refl _) (by unfold maxLen; omega) rfl
      have hI0 : KInv W5 g.ch X Z (p0, p1) 0 (.slice (some ⟨W5.heap.size, 0, none⟩) 1 1) [(p0, p1)] (W5.alloc (.cells #[.int .i64 p0, .int .i64 p1] 23)) :=
        ⟨hown0, by simp [midK], (Below.refl _ W5).alloc (Nat.le_refl _) _⟩
      have HI0 := Lib.hid hI0
      clear hown0 hI0
      go_wp2_with (fail)
      go_loopw [12, 45] (fun u12 u45 wr => ∃ (k : Nat) (out : List (Int × Int)), k ≤ m ∧ u45 = .int .i64 k ∧ KInv W5 g.ch X Z (p0, p1) k u12 out wr) (fun _ u _ => m - (intOf u).toNat)
      case atStart => exact ⟨0, _, by omega, rfl, HI0.out⟩
      case round =>
        obtain ⟨k, out, hk, rfl, hI⟩ := hrel
        by_cases hlt : k < m
        · have hd : decide (k < m) = true := by simp [hlt]
          have ho := hoff (by omega)
          subst ho
          obtain ⟨L, hL⟩ : ∃ L, g.ch.ln (k + 1) = L := ⟨_, rfl⟩
          have q := (HA.out.lns.below hI.below (HA.out.lns.lt)).cell (k + 1) (by have := Hm.out; omega)
          rw [hL, show 0 + (k + 1) = 1 + k by omega] at q
          have lg := Nat.lt_of_lt_of_le HA.out.lns.lt hI.below.size
          have HI := Lib.hid hI
          have HLL := Lib.hid hL
          clear hI hL
          have hmid := midK_s g.ch X Z k
          rw [HLL.out] at hmid
          have HMID := Lib.hid hmid
          clear hmid
          by_cases hx : X < L ∧ L < Z
          · have hx1 : decide (X < L) = true := by simp [hx.1]
            have hx2 : decide (L < Z) = true := by simp [hx.2]
            have HX := Lib.hid hx
            clear hx
            have sA := HA.out.cbox.lt
            have sB := HA.out.rbox.lt
            have bx := HA.out.cbox.below HI.out.below (by omega)
            obtain ⟨b1, b2, b3⟩ := bx.all
            obtain ⟨j, hj⟩ : ∃ j, j = (k + 1) % n := ⟨_, rfl⟩
            have hjn : j < n := by rw [hj]; exact Nat.mod_lt _ (by omega)
            have ecj : cor pts j = g.ch.P (k + 1) := by rw [hj, ← HN.out]; exact cor_mod pts (k + 1)
            have hpk := (HPP.out.below HI.out.below HPP.out.lt)
            obtain ⟨q2, q3⟩ := hpk.cell j _ (cor_at pts j (by rw [HN.out]; exact hjn))
            have lp := hpk.lt
            rw [ecj] at q2 q3
            obtain ⟨⟨y0, y1⟩, hy⟩ : ∃ y, g.ch.P (k + 1) = y := ⟨_, rfl⟩
            rw [hy] at q2 q3
            simp only [] at q2 q3
            obtain ⟨K, hK⟩ : ∃ K, K = k + 1 := ⟨_, rfl⟩
            have hMl := midK_len g.ch X Z k
            have hol : out.length ≤ k + 1 := by rw [HI.out.res]; simp only [List.length_cons]; omega
            have f6 : (k : Int) + 1 = (K : Int) := by omega
            have f7 : IntKind.i64.wrap ((k : Int) + 1) = (K : Int) := by rw [IntWalk.i64_in _ (by omega)]; omega
            have f8 : (K : Int).tmod (n : Int) = (j : Int) := by
              rw [Int.tmod_eq_emod_of_nonneg (by omega), hj, hK]
              exact (Int.natCast_emod _ _).symm
            have f9 : (K : Int) % (n : Int) = (j : Int) := by rw [hj, hK]; exact (Int.natCast_emod _ _).symm
            have f10 : ((n : Int) == 0) = false := by simp; omega
            have f15 : IntKind.i64.wrap (j : Int) = (j : Int) := by rw [IntWalk.i64_in _ (by omega)]
            have HKK := Lib.hid hK
            have HY := Lib.hid hy
            clear bx hpk ecj hy hK hj hMl
            go_wp2_with (fail)
            refine wp_region_one [0, 1, 2, 3, 4, 5, 6, 7, 8, 9, 10] 11 [12, 13] (fun g => .slice (some ⟨g, 0, none⟩) 1 1) (.cells #[.int .i64 y0, .int .i64 y1] 23) (by kernel_rfl) (by kernel_rfl) (by kernel_rfl) (by kernel_rfl) (by kernel_rfl) (noInit_of (by kernel_rfl)) (fun y => ?_)
            simp only [pick, List.getElem?_cons_zero, List.getElem?_cons_succ]
            repeat (go_big_quiet_step ((first | fail)))
            refine wpQuiet_nil ?_
            refine ⟨(by intro o ho; obtain rfl := Option.some.inj ho; refine ⟨rfl, fun wc => ?_⟩; simp [execOp, go_sem]; done), ?_⟩
            intro gq x hgq hx
            simp only [dstOf, List.getElem?_toArray, List.getElem?_cons_succ, List.getElem?_cons_zero, Option.bind_some, Act.put, List.setIfInBounds_toArray, List.set_cons_succ, List.set_cons_zero]
            have bg : Blk x.out gq 23 #[.int .i64 y0, .int .i64 y1] := hx
            have HG := Lib.hid bg
            clear hx bg
            gi_wp2_with (gi_at_builtin; refine wpListIn_append_own _ rfl _ _ 30 rfl W5.heap.size 23 i0 (.agg #[.int .i64 0, .int .i64 0]) 2 16 Try.underlying30 hi0 hz0 hz1 hz2 rfl (by decide) _ _ _ rfl (own_later HI.out.own x) ⟨gq, 0, none⟩ 1 1 [.int .i64 y0, .int .i64 y1] rfl rfl (two_at HG.out) (two_cell _ _) (by unfold maxLen; omega) (by omega) (by have := x.size_le; have := HI.out.below.size; omega) ?_; intro v' w3 hown hgrow hnil; have HO := Lib.hid hown; have HW := Lib.hid hgrow; clear hown hgrow hnil)
            go_wp2_with (fail)
            have hgs : ∀ r, u12.ownBlock = some r → W5.heap.size ≤ r := fun r hr => (HI.out.own.lt r hr).1
            have hb3 : Below W5.heap.size W5 w3 := Below.grown (HI.out.below.trans (x.below.mono HI.out.below.size)) HW.out (by have := x.size_le; have := HI.out.below.size; omega) hgs
            go_roundw
            case rel => exact ⟨k + 1, out ++ [(y0, y1)], by omega, by go_num, by have h := HO.out; rw [show ([.int .i64 y0, .int .i64 y1] : List Value) = fl [(y0, y1)] from rfl, ← fl_app] at h; simpa using h, by rw [HMID.out, HI.out.res, if_pos (by simp [HX.out.1, HX.out.2]), HY.out]; rfl, hb3⟩
            case measure => simp [intOf]; omega
          · have HX := Lib.hid hx
            have hz : decide (X < L) = false ∨ (decide (X < L) = true ∧ decide (L < Z) = false) := by
              by_cases h1 : X < L
              · exact .inr ⟨by simp [h1], by simp; omega⟩
              · exact .inl (by simp [h1])
            clear hx
            rcases hz with hx1 | ⟨hx1, hx2⟩
            all_goals
              go_wp2_with (fail)
              go_roundw
              case rel => exact ⟨k + 1, out, by omega, by go_num, HI.out.own, by rw [HMID.out, HI.out.res, if_neg (by simp; have := HX.out; omega)]; simp, HI.out.below⟩
              case measure => simp [intOf]; omega
        · obtain rfl : k = m := by omega
          have eres : out ++ [(z0, z1)] = (p0, p1) :: midK g.ch X Z k ++ [(z0, z1)] := by rw [hI.res]
          have ecut : g.ch.cut X Z = cpt (out ++ [(z0, z1)]) := by
            rw [eres]
            unfold Ch.cut
            rw [HP1.out, HP2.out]
            unfold Ch.mid midK
            rw [Hm.out]
          have hMl := midK_len g.ch X Z k
          have hol : out.length ≤ k + 1 := by rw [hI.res]; simp only [List.length_cons]; omega
          have sA := HA.out.cbox.lt
          have sB := HA.out.rbox.lt
          obtain ⟨x1, x2, x3⟩ := (HQ.out.below hI.below HQ.out.lt).all
          obtain ⟨y1, y2, y3⟩ := (HA.out.rbox.below hI.below (by omega)).all
          have HI := Lib.hid hI
          have HE := Lib.hid ecut
          clear hI eres ecut hMl
          go_wp2_with (first | (at_builtin; refine wpList_append_own _ rfl _ _ 30 rfl W5.heap.size 23 i0 (.agg #[.int .i64 0, .int .i64 0]) 2 16 Try.underlying30 hi0 hz0 hz1 hz2 rfl (by decide) _ _ _ rfl (HI.out.own.alloc _) ⟨wr.heap.size, 0, none⟩ 1 1 [.int .i64 z0, .int .i64 z1] rfl rfl (two_new _ _ _ _) (two_cell _ _) (by unfold maxLen; omega) (by omega) (by have := HI.out.below.size; simp; omega) ?_; intro v' w3 hown hgrow hnil; have HO := Lib.hid hown; have HW := Lib.hid hgrow; clear hown hgrow hnil; have hout := cmp_arm HO.out (by omega); obtain ⟨gg, cc, rfl, hcmp⟩ := hout; have bz := (HA.out.rbox.below (HI.out.below.alloc HI.out.below.size _) (by omega)).below_grown HW.out (fun r hr => (HI.out.own.lt r hr).1) (by omega); have HCMP := Lib.hid hcmp; have HBZ := Lib.hid bz; clear hcmp bz) | (go_at_call 39; (with_reducible refine (HCMP.out).mono ?_); rintro _ w4 ⟨rfl, hO⟩; have HOO := Lib.hid hO; have bz4 := HBZ.out.below_grown hO.grown (N := W5.heap.size) (fun r hr => by cases hr; exact (hO.own.lt _ rfl).1) (by omega); have HB4 := Lib.hid bz4; obtain ⟨v1, v2, v3⟩ := bz4.all; clear hO bz4))
          have ggl := (HOO.out.own.lt gg rfl).1
          have hb3 : Below W5.heap.size W5 w3 := Below.grown (HI.out.below.alloc HI.out.below.size _) HW.out (by have := HI.out.below.size; simp only [World.size_alloc]; omega) (fun r hr => (HI.out.own.lt r hr).1)
          have hb4 : Below W5.heap.size W5 w4 := Below.grown hb3 HOO.out.grown hb3.size (fun j hj => by cases hj; exact ggl)
          have hw4 : Below w.heap.size w w4 := HBW.out.trans (hb4.mono HBW.out.size)
          have ow : w4.ownsRow w.heap.size 23 2 (.slice (some ⟨gg, 0, none⟩) (cpt (out ++ [(z0, z1)])).length cc) (cpt (out ++ [(z0, z1)])).length (fl (cpt (out ++ [(z0, z1)]))) := own_base HOO.out.own (by omega)
          refine bodyPost_ret (v := .agg #[.slice (some ⟨gg, 0, none⟩) (cpt (out ++ [(z0, z1)])).length cc, .bool false]) (by simp [results, Try.results18, go_sem, *]) rfl ?_
          unfold KRet
          rw [HE.out]
          exact ⟨gg, cc, rfl, Go.ownsRow_setCell_other (Go.ownsRow_setCell_other ow (by simp only [Value.ownBlock]; intro h; cases h; omega) _) (by simp only [Value.ownBlock]; intro h; cases h; omega) _, Later.mk_of (by repeat (first | (with_reducible assumption) | (with_reducible exact Below.refl _ _) | (with_reducible refine Later.after ?_ _) | (with_reducible refine Later.newer ?_ _) | (with_reducible refine Below.drew ?_) | (with_reducible refine Below.setCell ?_ (by first | exact Nat.le_refl _ | exact Nat.le_add_right _ _ | omega | (simp [go_sem]; done) | (simp [go_sem]; omega)) _)))⟩
end Go.Proofs.Ytcdnekhpeghkiaa
