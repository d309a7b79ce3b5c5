/-
  Two parts that lie one behind the other: walked.
-/
import Derived.Test.YtcdnekhpeghkiaaE3
import Derived.Deep.AppendLies
namespace Go.Proofs.Ytcdnekhpeghkiaa
set_option linter.unusedVariables false
open Go.RowKit

theorem sb_ne {α : Type} {l1 l2 : List α} {i k : Nat} (hi : i < l2.length) (h : (l2.drop i).Sublist (l1.drop k)) : k < l1.length := by
  have := h.length_le
  simp only [List.length_drop] at this
  omega
theorem sb_hit {α : Type} {l1 l2 : List α} {i k : Nat} (hi : i < l2.length) (h : (l2.drop i).Sublist (l1.drop k)) : (l2.drop (i + 1)).Sublist (l1.drop k) := by
  rw [List.drop_eq_getElem_cons hi] at h
  exact (List.sublist_cons_self _ _).trans h
theorem sb_cons {α : Type} {x y : α} {us vs : List α} (h : (x :: us).Sublist (y :: vs)) (hne : y ≠ x) : (x :: us).Sublist vs := by
  cases h with
  | cons _ h => exact h
  | cons_cons _ h => exact absurd rfl hne
theorem sb_miss {α : Type} {l1 l2 : List α} {i k : Nat} {a b : α} (ha : l1[k]? = some a) (hb : l2[i]? = some b) (hne : a ≠ b) (h : (l2.drop i).Sublist (l1.drop k)) : (l2.drop i).Sublist (l1.drop (k + 1)) := by
  obtain ⟨hk, rfl⟩ := List.getElem?_eq_some_iff.1 ha
  obtain ⟨hi, rfl⟩ := List.getElem?_eq_some_iff.1 hb
  rw [List.drop_eq_getElem_cons hi, List.drop_eq_getElem_cons hk] at h
  rw [List.drop_eq_getElem_cons hi]
  exact sb_cons h hne
/-- an append to a row of the text's own, at a step of a region that draws its order -/
theorem step_append_own {P : Program} {w : World} {ops : Array Oper} {o : Oper} {a : Act} {K : Act → World → Prop} {Q : Exit → Act → World → Prop} {E : Prop} (hgd : o.guard = none) (s x : Operand) (t : TypeId)
    (ho : o.op = .call { callee := .builtin .append, args := #[s, x], argTypes := #[t, t] })
    (base : Nat) (e : TypeId) (i : TypeInfo) (z : Value) (size bytes : Nat) (ht : P.underlying t = some (.slice e)) (hi : P.info? e = some i) (hz : i.zero = some z)
    (hsize : i.size = size) (hby : i.bytes = bytes) (hzs : z.cells.size = size) (hsz : 0 < size)
    (v : Value) (n : Nat) (xs : List Value) (hs : a.eval s = v) (hown : w.ownsRow base e size v n xs)
    (ad : Addr) (m c : Nat) (news : List Value) (hx : a.eval x = .slice (some ad) m c) (hl : news.length = m * size) (hnews : ∀ j u, news[j]? = some u → w.cell? (ad.add j) = some u) (h1 : ∀ u ∈ news, u.oneCell' = true)
    (h63 : n + m ≤ maxLen) (hbytes : (n + m) * bytes ≤ 140737488355328) (hbase : base ≤ w.heap.size)
    (h : ∀ v' w', w'.ownsRow base e size v' (n + m) (xs ++ news) → w.grownBy w' v.ownBlock → K (a.put o.dst v') w') :
    if Region.wanted o (yielded ops a.tmps) = true then Oper.wp P o a w K Q else E := by
  have hw : Region.wanted o (yielded ops a.tmps) = true := by simp [Region.wanted, hgd]
  rw [if_pos hw]
  obtain ⟨v', w', hr, h2, h3, _⟩ := run_append_own (P := P) w base t o.type e i z size bytes ht hi hz hsize hby hzs hsz v n xs hown ad m c news hl hnews h1 h63 hbytes hbase
  unfold Oper.wp execOp
  simp only [ho, resolve, invoke, builtin, Sem.run_bind, Sem.run_pure, Result.andThen_ok, List.map_toArray, List.map_cons, List.map_nil, hs, hx, hr]
  exact h v' w' h2 h3
theorem PtsB.tail {W : World} {b o : Nat} {l : List (Int × Int)} (h : PtsB W b o l) : PtsB W b (o + 2) l.tail := ⟨h.lt, fun i p hp => by
  have hp' : l[i + 1]? = some p := by cases l with
    | nil => simp at hp
    | cons a r => simpa using hp
  have k := h.cell (i + 1) p hp'
  rw [show o + 2 + i * 2 = o + (i + 1) * 2 by omega]
  exact k⟩
theorem PtsB.fl_at6 {W : World} {b o : Nat} {pts : List (Int × Int)} (h : PtsB W b o pts) : ∀ j u, (fl pts)[j]? = some u → W.cell? ((⟨b, o, none⟩ : Addr).add j) = some u := by
  intro j u hu
  rw [Addr.add_mid]
  have hj : j < (fl pts).length := (List.getElem?_eq_some_iff.1 hu).1
  rw [fl_len] at hj
  obtain ⟨i, hi⟩ : ∃ i, j = i * 2 ∨ j = i * 2 + 1 := ⟨j / 2, by omega⟩
  have hil : i < pts.length := by omega
  have hp : pts[i]? = some pts[i] := List.getElem?_eq_getElem hil
  obtain ⟨c1, c2⟩ := h.cell i _ hp
  obtain ⟨d1, d2⟩ := fl_at pts i _ hp
  rcases hi with rfl | rfl
  · rw [d1] at hu; rw [← Option.some.inj hu]; exact c1
  · rw [d2] at hu; rw [← Option.some.inj hu]; exact c2
theorem fl_one6 (l : List (Int × Int)) (x : Value) (h : x ∈ fl l) : x.oneCell' = true := by
  unfold fl at h
  rw [List.mem_flatMap] at h
  obtain ⟨q, _, hq⟩ := h
  simp only [List.mem_cons, List.not_mem_nil, or_false] at hq
  rcases hq with rfl | rfl <;> rfl
theorem PtsB.grown6 {W W' : World} {b o N : Nat} {l : List (Int × Int)} {row : Option Nat} (h : PtsB W b o l) (hg : W.grownBy W' row) (hr : ∀ r, row = some r → N ≤ r) (hb : b < N) : PtsB W' b o l :=
  h.heap (hg.block b h.lt (fun e => by have := hr b e.symm; omega))
theorem Ch.cut_len (C : Ch) (x z : Int) : (C.cut x z).length ≤ C.m + 2 := by
  unfold Ch.cut
  refine Nat.le_trans (cpt_len _) ?_
  unfold Ch.mid
  simp only [List.length_append, List.length_cons, List.length_nil, List.length_map]
  have := List.length_filter_le (fun i => decide (x < C.ln i) && decide (C.ln i < z)) (List.range' 1 C.m)
  simp only [List.length_range'] at this
  omega
/-- the parts, laid: the chain's box, the boxes of the three parts -/
structure PA (w : World) (sv : Value) (cl : Bool) (pts : List (Int × Int)) (W : World) : Prop where
  box : Blk W w.heap.size 36 #[sv, .bool cl]
  pts : PtsAt W sv pts
  below : Below w.heap.size w W
structure PK (L : List (Int × Int)) (N b g c : Nat) (W : World) : Prop where
  box : Blk W b 36 #[.slice (some ⟨g, 0, none⟩) N c, .bool false]
  pts : PtsB W g 0 L
  room : N ≤ c
theorem PA.below' {w : World} {sv : Value} {cl : Bool} {pts : List (Int × Int)} {W W' : World} (h : PA w sv cl pts W) (k : Below W.heap.size W W') : PA w sv cl pts W' :=
  ⟨h.box.below k h.box.lt, h.pts.below k (Nat.le_refl _), h.below.trans (k.mono h.below.size)⟩
theorem PK.below' {L : List (Int × Int)} {N b g c : Nat} {W W' : World} (h : PK L N b g c W) (k : Below W.heap.size W W') : PK L N b g c W' :=
  ⟨h.box.below k h.box.lt, h.pts.below k h.pts.lt, h.room⟩
theorem PA.next {w : World} {sv : Value} {cl : Bool} {pts : List (Int × Int)} {W : World} (h : PA w sv cl pts W) (x : Later W) (o : Obj) : PA w sv cl pts (x.out.alloc o) := h.below' (Later.newer x.below o)
theorem PK.next {L : List (Int × Int)} {N b g c : Nat} {W : World} (h : PK L N b g c W) (x : Later W) (o : Obj) : PK L N b g c (x.out.alloc o) := h.below' (Later.newer x.below o)
theorem pk_new {L : List (Int × Int)} {N g c : Nat} {W : World} (h : PtsB W g 0 L) (hc : N ≤ c) : PK L N W.heap.size g c (W.alloc (.cells #[.slice (some ⟨g, 0, none⟩) N c, .bool false] 36)) :=
  ⟨Blk.new _ _ _, h.alloc _, hc⟩
set_option maxRecDepth 100000 in
set_option maxHeartbeats 4000000 in
theorem parts_walk (a b d : Int) (sv : Value) (cl : Bool) (pts : List (Int × Int)) (a0 : 0 ≤ a) (a9 : a ≤ 4294967295) (b0 : 0 ≤ b) (b9 : b ≤ 4294967295) (d0 : 0 ≤ d) (d9 : d ≤ 4294967295) (w : World) (h : PtsAt w sv pts) :
    Calls Try.prog 7 #[.agg #[sv, .bool cl], .int .u32 a, .int .u32 b, .int .u32 d] w fun e w' => e = .returned (.bool true) ∧ ∃ x : Later w, w' = x.out := by
  have hg := fun w' h' => good12_c cl pts sv w' h'
  have HPA := Lib.hid h
  cases e : gdB cl pts
  · rw [e] at hg
    have HG := Lib.hid hg
    clear hg h e
    go_enter Try.func7, Try.ntmps7
    go_wp2_with (first | (go_at_call 16; (with_reducible refine (HG.out _ (by repeat (first | (with_reducible exact HPA.out) | (with_reducible refine PtsAt.later ?_ _) | (with_reducible refine PtsAt.alloc ?_ _)))).mono ?_); rintro e _ ⟨rfl, x, rfl⟩) | (go_at_call 17; (with_reducible refine (shown_12 _).mono ?_); rintro e _ ⟨rfl, x, rfl⟩))
    exact bodyPost_ret (v := .bool true) (by simp [results, Try.results7, go_sem, *]) rfl ⟨rfl, (Later.mk_of (by repeat (first | (with_reducible assumption) | (with_reducible exact Below.refl _ _) | (with_reducible refine Later.after ?_ _) | (with_reducible refine Later.newer ?_ _) | (with_reducible refine Below.drew ?_) | (with_reducible refine Below.setCell ?_ (by first | exact Nat.le_refl _ | exact Nat.le_add_right _ _ | omega | (simp [go_sem]; done) | (simp [go_sem]; omega)) _))))⟩
  have g := gdB_is e
  rw [e] at hg
  obtain ⟨X, hX⟩ : ∃ X, min (min a b) d = X := ⟨_, rfl⟩
  obtain ⟨Z, hZ⟩ : ∃ Z, max (max a b) d = Z := ⟨_, rfl⟩
  obtain ⟨Y, hY⟩ : ∃ Y, a + b + d - X - Z = Y := ⟨_, rfl⟩
  have hXY : X ≤ Y := by omega
  have hYZ : Y ≤ Z := by omega
  have X0 : 0 ≤ X := by omega
  have Z9 : Z ≤ 4294967295 := by omega
  have m12 := g.ch.held_mono X Y hXY
  have m23 := g.ch.held_mono Y Z hYZ
  have h0 := (g.ch.held_in X).1
  have h9 := (g.ch.held_in Z).2
  obtain ⟨L1, hL1⟩ : ∃ L, g.ch.cut (min (g.ch.held X) (g.ch.held Y)) (g.ch.held Y) = L := ⟨_, rfl⟩
  obtain ⟨L2, hL2⟩ : ∃ L, g.ch.cut (min (g.ch.held Y) (g.ch.held Z)) (g.ch.held Z) = L := ⟨_, rfl⟩
  obtain ⟨L3, hL3⟩ : ∃ L, g.ch.cut (min (g.ch.held X) (g.ch.held Z)) (g.ch.held Z) = L := ⟨_, rfl⟩
  obtain ⟨N1, hN1⟩ : ∃ N, L1.length = N := ⟨_, rfl⟩
  obtain ⟨N2, hN2⟩ : ∃ N, L2.length = N := ⟨_, rfl⟩
  obtain ⟨N3, hN3⟩ : ∃ N, L3.length = N := ⟨_, rfl⟩
  have hc1 := fun w' h' => kr_c cl pts g sv X Y w' L1 N1 hL1 hN1 h'
  have hc2 := fun w' h' => kr_c cl pts g sv Y Z w' L2 N2 hL2 hN2 h'
  have hc3 := fun w' h' => kr_c cl pts g sv X Z w' L3 N3 hL3 hN3 h'
  have hat := fun w' h' => at_c cl pts g sv Y w' h'
  rw [show min (g.ch.held X) (g.ch.held Y) = g.ch.held X by omega] at hL1
  rw [show min (g.ch.held Y) (g.ch.held Z) = g.ch.held Y by omega] at hL2
  rw [show min (g.ch.held X) (g.ch.held Z) = g.ch.held X by omega] at hL3
  obtain ⟨hsub, hlen⟩ := g.ch.cut_parts (g.ch.held X) (g.ch.held Y) (g.ch.held Z) h0 m12 m23 h9
  have hls := g.ch.cut_last (g.ch.held X) (g.ch.held Y)
  have hhd := g.ch.cut_head (g.ch.held Y) (g.ch.held Z)
  have k1 := g.ch.cut_len (g.ch.held X) (g.ch.held Y)
  have k2 := g.ch.cut_len (g.ch.held Y) (g.ch.held Z)
  have k3 := g.ch.cut_len (g.ch.held X) (g.ch.held Z)
  have m9 := g.m_le
  rw [hL1] at hls k1 hsub hlen
  rw [hL2] at hhd k2 hsub hlen
  rw [hL3] at k3 hsub hlen
  rw [hN1] at k1
  rw [hN2] at k2
  rw [hN3] at k3 hlen
  generalize g.ch.ix (g.ch.held Y) = iy at *
  generalize g.ch.at (g.ch.held Y) = q at *
  obtain ⟨q0, q1⟩ := q
  have p1 : 1 ≤ N1 := by
    cases L1 with
    | nil => simp at hls
    | cons u r => simp at hN1; omega
  have p2 : 1 ≤ N2 := by
    cases L2 with
    | nil => simp at hhd
    | cons u r => simp at hN2; omega
  obtain ⟨m1, hm1⟩ : ∃ m, N1 = m + 1 := ⟨N1 - 1, by omega⟩
  obtain ⟨m2, hm2⟩ : ∃ m, N2 = m + 1 := ⟨N2 - 1, by omega⟩
  have l1 : L1[m1]? = some (q0, q1) := by rw [List.getLast?_eq_getElem?, hN1, show N1 - 1 = m1 by omega] at hls; exact hls
  have l2 : L2[0]? = some (q0, q1) := by rw [← List.head?_eq_getElem?]; exact hhd
  have ht2 : L2.tail.length = m2 := by rw [List.length_tail, hN2]; omega
  obtain ⟨G, hG⟩ : ∃ G, L1 ++ L2.tail = G := ⟨_, rfl⟩
  obtain ⟨NG, hNG⟩ : ∃ N, N1 + m2 = N := ⟨_, rfl⟩
  have hGl : G.length = NG := by rw [← hG, List.length_append, hN1, ht2]; exact hNG
  rw [hG] at hsub hlen
  rw [hGl] at hlen
  have HG := Lib.hid hg
  have HC1 := Lib.hid hc1
  have HC2 := Lib.hid hc2
  have HC3 := Lib.hid hc3
  have HAT := Lib.hid hat
  have HL1 := Lib.hid l1
  have HL2 := Lib.hid l2
  have HSUB := Lib.hid hsub
  have HGG := Lib.hid hG
  have HGL := Lib.hid hGl
  have HN1 := Lib.hid hN1
  have HN2 := Lib.hid hN2
  have HN3 := Lib.hid hN3
  have HT2 := Lib.hid ht2
  have HM1 := Lib.hid hm1
  have HM2 := Lib.hid hm2
  have HNG := Lib.hid hNG
  have hXb : min a (min b d) = X := by omega
  have hZb : max a (max b d) = Z := by omega
  obtain ⟨i0, hi0, hz0, hz1, hz2⟩ := infoPt
  have n1b : N1 ≤ 102 := by omega
  have n2b : N2 ≤ 102 := by omega
  have n3b : N3 ≤ 102 := by omega
  clear hg hc1 hc2 hc3 hat l1 l2 hsub hG hGl hN1 hN2 hN3 ht2 hls hhd hL1 hL2 hL3 h0 h9 m12 m23 e h k1 k2 k3
  have f1 : (N1 == 0) = false := by simp; omega
  have f2 : ((N1 : Int) == 0) = false := by simp; omega
  have f3 : (N2 == 0) = false := by simp; omega
  have f4 : ((N2 : Int) == 0) = false := by simp; omega
  have d3 : (N1 : Int) - 1 = (m1 : Int) := by omega
  have d1 : IntKind.i64.wrap ((N1 : Int) - 1) = (m1 : Int) := by rw [IntWalk.i64_in _ (by omega)]; omega
  have d2 : wrap64 ((N1 : Int) - 1) = (m1 : Int) := by unfold wrap64; omega
  have mN : m1 < N1 := by omega
  have m0 : (0 : Int) ≤ m1 := by omega
  have N20 : 0 < N2 := by omega
  have ng1 : 1 ≤ NG := by omega
  have ng9 : NG ≤ 1000 := by omega
  have Y0 : 0 ≤ Y := by omega
  have Y9 : Y ≤ 4294967295 := by omega
  have X9 : X ≤ 4294967295 := by omega
  have Z0 : 0 ≤ Z := by omega
  clear hm1 hm2 hNG
  go_enter Try.func7, Try.ntmps7
  go_upto_region 3 with (first | (go_at_call 16; (with_reducible refine (HG.out _ (by repeat (first | (with_reducible exact HPA.out) | (with_reducible refine PtsAt.later ?_ _) | (with_reducible refine PtsAt.alloc ?_ _)))).mono ?_); rintro e _ ⟨rfl, x, rfl⟩) | (go_at_call 17; (with_reducible refine (shown_12 _).mono ?_); rintro e _ ⟨rfl, x, rfl⟩))
  have hPA0 : PA w sv cl pts x.out := ⟨(by repeat (first | (with_reducible assumption) | (with_reducible refine Blk.later ?_ _) | (with_reducible refine Blk.drew ?_) | ((with_reducible refine Blk.new' ?_); (simp; done)) | (with_reducible refine Blk.alloc ?_ _))), (by repeat (first | (with_reducible exact HPA.out) | (with_reducible refine PtsAt.later ?_ _) | (with_reducible refine PtsAt.alloc ?_ _))), (by repeat (first | (with_reducible assumption) | (with_reducible exact Below.refl _ _) | (with_reducible refine Later.after ?_ _) | (with_reducible refine Later.newer ?_ _) | (with_reducible refine Below.drew ?_) | (with_reducible refine Below.setCell ?_ (by first | exact Nat.le_refl _ | exact Nat.le_add_right _ _ | omega | (simp [go_sem]; done) | (simp [go_sem]; omega)) _)))⟩
  clear HPA
  generalize x.out = V0 at *
  clear x
  obtain ⟨y1, y2, y3⟩ := hPA0.box.all
  have HPA := Lib.hid hPA0.pts
  have HPA1 := Lib.hid hPA0
  have HX := Lib.hid hX
  have HZ := Lib.hid hZ
  clear hPA0
  go_cut [9] from 28 to 32 (fun s9 wx => s9 = .int .i64 X ∧ wx = V0)
  case first =>
    clear hX hZ hXb hZb
    go_wp2_with (fail)
    all_goals
      go_meet
      exact ⟨by have := HX.out; first | rfl | (congr 1; omega), rfl⟩
  case rest =>
  obtain ⟨rfl, rfl⟩ := hcut
  go_upto_region 4 with (fail)
  go_cut [10] from 33 to 37 (fun s10 wx => s10 = .int .i64 Z ∧ wx = wc)
  case first =>
    clear hX hZ hXb hZb
    go_wp2_with (fail)
    all_goals
      go_meet
      exact ⟨by have := HZ.out; first | rfl | (congr 1; omega), rfl⟩
  case rest =>
  obtain ⟨rfl, hwc⟩ := hcut
  subst hwc
  clear hX hZ hXb hZb
  go_upto_region 7 with (first | (go_at_call 18; (with_reducible refine (HC1.out _ (by repeat (first | (with_reducible exact HPA.out) | (with_reducible refine PtsAt.later ?_ _) | (with_reducible refine PtsAt.alloc ?_ _)))).mono ?_); rintro _ _ ⟨g1, c1, rfl, hok, hck1, hgk, x, rfl⟩))
  have hPA := HPA1.out.next x (.cells #[.slice (some ⟨g1, 0, none⟩) N1 c1, .bool false] 36)
  have hK1 : PK L1 N1 x.out.heap.size g1 c1 (x.out.alloc (.cells #[.slice (some ⟨g1, 0, none⟩) N1 c1, .bool false] 36)) := pk_new hok hck1
  clear HPA HPA1 y1 y2 y3 hok hgk
  generalize x.out.heap.size = b1 at *
  generalize (x.out.alloc (.cells #[.slice (some ⟨g1, 0, none⟩) N1 c1, .bool false] 36)) = V1 at *
  clear x
  obtain ⟨y1, y2, y3⟩ := hPA.box.all
  have HPA := Lib.hid hPA.pts
  have HPA1 := Lib.hid hPA
  have HK1 := Lib.hid hK1
  clear hPA hK1
  go_upto_region 8 with (first | (go_at_call 18; (with_reducible refine (HC2.out _ (by repeat (first | (with_reducible exact HPA.out) | (with_reducible refine PtsAt.later ?_ _) | (with_reducible refine PtsAt.alloc ?_ _)))).mono ?_); rintro _ _ ⟨g2, c2, rfl, hok, hck2, hgk, x, rfl⟩))
  have hPA := HPA1.out.next x (.cells #[.slice (some ⟨g2, 0, none⟩) N2 c2, .bool false] 36)
  have hK1 := HK1.out.next x (.cells #[.slice (some ⟨g2, 0, none⟩) N2 c2, .bool false] 36)
  have hK2 : PK L2 N2 x.out.heap.size g2 c2 (x.out.alloc (.cells #[.slice (some ⟨g2, 0, none⟩) N2 c2, .bool false] 36)) := pk_new hok hck2
  clear HPA HPA1 y1 y2 y3 HK1 hok hgk
  generalize x.out.heap.size = b2 at *
  generalize (x.out.alloc (.cells #[.slice (some ⟨g2, 0, none⟩) N2 c2, .bool false] 36)) = V2 at *
  clear x
  obtain ⟨y1, y2, y3⟩ := hPA.box.all
  have HPA := Lib.hid hPA.pts
  have HPA1 := Lib.hid hPA
  have HK1 := Lib.hid hK1
  have HK2 := Lib.hid hK2
  clear hPA hK1 hK2
  go_upto_region 9 with (first | (go_at_call 18; (with_reducible refine (HC3.out _ (by repeat (first | (with_reducible exact HPA.out) | (with_reducible refine PtsAt.later ?_ _) | (with_reducible refine PtsAt.alloc ?_ _)))).mono ?_); rintro _ _ ⟨g3, c3, rfl, hok, hck3, hgk, x, rfl⟩))
  have hPA := HPA1.out.next x (.cells #[.slice (some ⟨g3, 0, none⟩) N3 c3, .bool false] 36)
  have hK1 := HK1.out.next x (.cells #[.slice (some ⟨g3, 0, none⟩) N3 c3, .bool false] 36)
  have hK2 := HK2.out.next x (.cells #[.slice (some ⟨g3, 0, none⟩) N3 c3, .bool false] 36)
  have hK3 : PK L3 N3 x.out.heap.size g3 c3 (x.out.alloc (.cells #[.slice (some ⟨g3, 0, none⟩) N3 c3, .bool false] 36)) := pk_new hok hck3
  clear HPA HPA1 y1 y2 y3 HK1 HK2 hok hgk
  generalize x.out.heap.size = b3 at *
  generalize (x.out.alloc (.cells #[.slice (some ⟨g3, 0, none⟩) N3 c3, .bool false] 36)) = V3 at *
  clear x
  obtain ⟨y1, y2, y3⟩ := hPA.box.all
  have HPA := Lib.hid hPA.pts
  have HPA1 := Lib.hid hPA
  have HK1 := Lib.hid hK1
  have HK2 := Lib.hid hK2
  have HK3 := Lib.hid hK3
  clear hPA hK1 hK2 hK3
  go_upto_region 10 with (first | (go_at_call 19; (with_reducible refine (HAT.out _ (by repeat (first | (with_reducible exact HPA.out) | (with_reducible refine PtsAt.later ?_ _) | (with_reducible refine PtsAt.alloc ?_ _)))).mono ?_); rintro e _ ⟨rfl, x, rfl⟩))
  have hPA := HPA1.out.next x (.cells #[.int .i64 q0, .int .i64 q1] 23)
  have hK1 := HK1.out.next x (.cells #[.int .i64 q0, .int .i64 q1] 23)
  have hK2 := HK2.out.next x (.cells #[.int .i64 q0, .int .i64 q1] 23)
  have hK3 := HK3.out.next x (.cells #[.int .i64 q0, .int .i64 q1] 23)
  have bq : Blk (x.out.alloc (.cells #[.int .i64 q0, .int .i64 q1] 23)) x.out.heap.size 23 #[.int .i64 q0, .int .i64 q1] := Blk.new _ _ _
  clear HPA HPA1 HK1 HK2 HK3 y1 y2 y3
  generalize x.out.heap.size = b4 at *
  generalize (x.out.alloc (.cells #[.int .i64 q0, .int .i64 q1] 23)) = V4 at *
  clear x
  obtain ⟨q2, q3, q4⟩ := bq.all
  obtain ⟨r1, r2, r3⟩ := hK1.box.all
  obtain ⟨s1, s2, s3⟩ := hK2.box.all
  obtain ⟨t0, t1⟩ := hK1.pts.cell m1 _ HL1.out
  obtain ⟨t2, t3⟩ := hK2.pts.cell 0 _ HL2.out
  have t4 := hK1.pts.lt
  have t5 := hK2.pts.lt
  simp only [Nat.zero_add, Nat.zero_mul, Nat.add_zero] at t0 t1 t2 t3
  have HPA1 := Lib.hid hPA
  have HK1 := Lib.hid hK1
  have HK2 := Lib.hid hK2
  have HK3 := Lib.hid hK3
  clear hPA hK1 hK2 hK3 bq
  refine wp_region_later (by kernel_rfl) (by kernel_rfl) ?_
  repeat (go_big_quiet_step ((first | fail)))
  refine wpQuiet_nil ?_
  intro x
  have hPA := HPA1.out.below' x.below
  have hK1 := HK1.out.below' x.below
  have hK2 := HK2.out.below' x.below
  have hK3 := HK3.out.below' x.below
  clear q2 q3 q4 r1 r2 r3 s1 s2 s3 t0 t1 t2 t3 t4 t5 HPA1 HK1 HK2 HK3
  go_upto_region 12 with (fail)
  generalize x.out = V5 at *
  clear x
  have ho0 : (V5.drew.alloc (.cells #[] 23)).ownsRow V5.heap.size 23 2 (.slice (some ⟨V5.heap.size, 0, none⟩) 0 0) 0 [] := World.ownsRow_lit V5.drew #[] 0 (Nat.le_refl _) (by unfold maxLen; omega) rfl
  have HO0 := Lib.hid ho0
  have HPA1 := Lib.hid hPA
  have HK1 := Lib.hid hK1
  have HK2 := Lib.hid hK2
  have HK3 := Lib.hid hK3
  clear hPA hK1 hK2 hK3 ho0
  go_cut [17] from 98 to 105 (fun s17 wx => ∃ gg cg, s17 = .slice (some ⟨gg, 0, none⟩) NG cg ∧ wx.ownsRow V5.heap.size 23 2 (.slice (some ⟨gg, 0, none⟩) NG cg) NG (fl G) ∧ Below V5.heap.size V5 wx)
  case first =>
    obtain ⟨r1, r2, r3⟩ := HK1.out.box.all
    obtain ⟨s1, s2, s3⟩ := HK2.out.box.all
    have hc1 := HK1.out.room
    have hc2 := HK2.out.room
    have e2 : 1 ≤ N2 := by omega
    have e3 : (1 : Int) ≤ N2 := by omega
    have e1 : N2 - 1 = m2 := by have := HM2.out; omega
    by_cases hcc : c2 = 1
    · obtain rfl : m2 = 0 := by have := HM2.out; omega
      subst hcc
      go_region_held3 (fun w' => w'.cell? ⟨b1, 0, none⟩ = some (.slice (some ⟨g1, 0, none⟩) N1 c1) ∧ w'.cell? ⟨b2, 0, none⟩ = some (.slice (some ⟨g2, 0, none⟩) N2 1)) ((simp [go_sem, *]; done))
        (first | (refine step_append_own rfl _ _ 30 rfl V5.heap.size 23 i0 (.agg #[.int .i64 0, .int .i64 0]) 2 16 Try.underlying30 hi0 hz0 hz1 hz2 rfl (by decide) _ 0 [] rfl HO0.out ⟨g1, 0, none⟩ N1 c1 (fl L1) rfl (by rw [fl_len, HN1.out]) ((HK1.out.pts.heap (W' := V5.drew) rfl).alloc _).fl_at6 (fun x hx => fl_one6 _ x hx) (by unfold maxLen; omega) (by omega) (by simp) ?_; intro v1 w1 hown hgrow; simp only [Nat.zero_add, List.nil_append] at hown; obtain ⟨ga, ca, rfl⟩ := Go.Joins.ownsRow_form hown (by omega); have zb1 := ((Blk.alloc (HK1.out.box.drew) _).below_grown (N := V5.heap.size) hgrow (fun r hr => by cases hr; exact Nat.le_refl _) HK1.out.box.lt); have zb2 := ((Blk.alloc (HK2.out.box.drew) _).below_grown (N := V5.heap.size) hgrow (fun r hr => by cases hr; exact Nat.le_refl _) HK2.out.box.lt); have zp2 := (((HK2.out.pts.heap (W' := V5.drew) rfl).alloc _).grown6 (N := V5.heap.size) hgrow (fun r hr => by cases hr; exact Nat.le_refl _) HK2.out.pts.lt); obtain ⟨zc1, zc2, zc3⟩ := zb1.all; obtain ⟨zd1, zd2, zd3⟩ := zb2.all; have HO1 := Lib.hid hown; have HW1 := Lib.hid hgrow; have HZ1 := Lib.hid zb1; have HZ2 := Lib.hid zb2; have HZP := Lib.hid zp2; clear hown hgrow zb1 zb2 zp2) | (refine step_append_own rfl _ _ 30 rfl V5.heap.size 23 i0 (.agg #[.int .i64 0, .int .i64 0]) 2 16 Try.underlying30 hi0 hz0 hz1 hz2 rfl (by decide) _ N1 (fl L1) rfl HO1.out ⟨g2, 0, none⟩ 0 0 (fl L2.tail) rfl (by rw [fl_len, HT2.out]) (fun j u hu => by have h2 := HT2.out; have : L2.tail = [] := List.eq_nil_of_length_eq_zero h2; rw [this] at hu; simp [fl] at hu) (fun x hx => fl_one6 _ x hx) (by unfold maxLen; omega) (by omega) (by have := HW1.out.size; simp at this; omega) ?_; intro v2 w2 hown hgrow; rw [HNG.out, ← fl_app, HGG.out] at hown; obtain ⟨gg, cg, rfl⟩ := Go.Joins.ownsRow_form hown (by omega); have zb1 := (HZ1.out.below_grown (N := V5.heap.size) hgrow (fun r hr => by cases hr; exact (HO1.out.lt _ rfl).1) HK1.out.box.lt); have zb2 := (HZ2.out.below_grown (N := V5.heap.size) hgrow (fun r hr => by cases hr; exact (HO1.out.lt _ rfl).1) HK2.out.box.lt); obtain ⟨ze1, ze2, ze3⟩ := zb1.all; obtain ⟨zf1, zf2, zf3⟩ := zb2.all; have HO2 := Lib.hid hown; have HW2 := Lib.hid hgrow; clear hown hgrow zb1 zb2))
      go_wp2_with (fail)
      go_meet
      exact ⟨_, _, rfl, HO2.out, Below.grown (Below.grown (((Below.refl _ V5).drew).alloc (Nat.le_refl _) _) HW1.out (by simp) (fun r hr => by cases hr; exact Nat.le_refl _)) HW2.out (by have := HW1.out.size; simp at this; omega) (fun r hr => by cases hr; exact (HO1.out.lt _ rfl).1)⟩
    · have c1' : (c2 = 1) = False := eq_false hcc
      have c2' : (c2 - 1 = 0) = False := eq_false (by omega)
      have c3' : 1 < c2 := by omega
      have c4' : (1 = c2) = False := eq_false (by omega)
      go_region_held3 (fun w' => w'.cell? ⟨b1, 0, none⟩ = some (.slice (some ⟨g1, 0, none⟩) N1 c1) ∧ w'.cell? ⟨b2, 0, none⟩ = some (.slice (some ⟨g2, 0, none⟩) N2 c2)) ((simp [go_sem, *]; done))
        (first | (refine step_append_own rfl _ _ 30 rfl V5.heap.size 23 i0 (.agg #[.int .i64 0, .int .i64 0]) 2 16 Try.underlying30 hi0 hz0 hz1 hz2 rfl (by decide) _ 0 [] rfl HO0.out ⟨g1, 0, none⟩ N1 c1 (fl L1) rfl (by rw [fl_len, HN1.out]) ((HK1.out.pts.heap (W' := V5.drew) rfl).alloc _).fl_at6 (fun x hx => fl_one6 _ x hx) (by unfold maxLen; omega) (by omega) (by simp) ?_; intro v1 w1 hown hgrow; simp only [Nat.zero_add, List.nil_append] at hown; obtain ⟨ga, ca, rfl⟩ := Go.Joins.ownsRow_form hown (by omega); have zb1 := ((Blk.alloc (HK1.out.box.drew) _).below_grown (N := V5.heap.size) hgrow (fun r hr => by cases hr; exact Nat.le_refl _) HK1.out.box.lt); have zb2 := ((Blk.alloc (HK2.out.box.drew) _).below_grown (N := V5.heap.size) hgrow (fun r hr => by cases hr; exact Nat.le_refl _) HK2.out.box.lt); have zp2 := (((HK2.out.pts.heap (W' := V5.drew) rfl).alloc _).grown6 (N := V5.heap.size) hgrow (fun r hr => by cases hr; exact Nat.le_refl _) HK2.out.pts.lt); obtain ⟨zc1, zc2, zc3⟩ := zb1.all; obtain ⟨zd1, zd2, zd3⟩ := zb2.all; have HO1 := Lib.hid hown; have HW1 := Lib.hid hgrow; have HZ1 := Lib.hid zb1; have HZ2 := Lib.hid zb2; have HZP := Lib.hid zp2; clear hown hgrow zb1 zb2 zp2) | (refine step_append_own rfl _ _ 30 rfl V5.heap.size 23 i0 (.agg #[.int .i64 0, .int .i64 0]) 2 16 Try.underlying30 hi0 hz0 hz1 hz2 rfl (by decide) _ N1 (fl L1) rfl HO1.out ⟨g2, 2, none⟩ m2 (c2 - 1) (fl L2.tail) rfl (by rw [fl_len, HT2.out]) HZP.out.tail.fl_at6 (fun x hx => fl_one6 _ x hx) (by unfold maxLen; omega) (by omega) (by have := HW1.out.size; simp at this; omega) ?_; intro v2 w2 hown hgrow; rw [HNG.out, ← fl_app, HGG.out] at hown; obtain ⟨gg, cg, rfl⟩ := Go.Joins.ownsRow_form hown (by omega); have zb1 := (HZ1.out.below_grown (N := V5.heap.size) hgrow (fun r hr => by cases hr; exact (HO1.out.lt _ rfl).1) HK1.out.box.lt); have zb2 := (HZ2.out.below_grown (N := V5.heap.size) hgrow (fun r hr => by cases hr; exact (HO1.out.lt _ rfl).1) HK2.out.box.lt); obtain ⟨ze1, ze2, ze3⟩ := zb1.all; obtain ⟨zf1, zf2, zf3⟩ := zb2.all; have HO2 := Lib.hid hown; have HW2 := Lib.hid hgrow; clear hown hgrow zb1 zb2))
      go_wp2_with (fail)
      go_meet
      exact ⟨_, _, rfl, HO2.out, Below.grown (Below.grown (((Below.refl _ V5).drew).alloc (Nat.le_refl _) _) HW1.out (by simp) (fun r hr => by cases hr; exact Nat.le_refl _)) HW2.out (by have := HW1.out.size; simp at this; omega) (fun r hr => by cases hr; exact (HO1.out.lt _ rfl).1)⟩
  case rest =>
    obtain ⟨gg, cg, rfl, hown, hB⟩ := hcut
    have hG := own_ptsB hown
    have hK3 := HK3.out.below' hB
    obtain ⟨r1, r2, r3⟩ := hK3.box.all
    have lg := hG.lt
    have l3 := hK3.pts.lt
    have HG' := Lib.hid hG
    have HB := Lib.hid hB
    have HP3 := Lib.hid hK3.pts
    have HW := Lib.hid (HPA1.out.below.trans (hB.mono HPA1.out.below.size))
    clear hown hG hK3 hB HPA1 HK1 HK2 HK3 HO0
    go_wp2_with (fail)
    go_loopw [18, 19] (fun u v wr => ∃ k i : Nat, k ≤ NG ∧ i ≤ N3 ∧ u = .int .i64 k ∧ v = .int .i64 i ∧ Hid ((L3.drop i).Sublist (G.drop k)) ∧ ∃ y : Later wc, wr = y.out) (fun _ v _ => N3 - (intOf v).toNat)
    case atStart => exact ⟨0, 0, by omega, by omega, rfl, rfl, Lib.hid (by simpa using HSUB.out), ⟨wc, Below.refl _ _⟩, rfl⟩
    case round =>
      obtain ⟨k0, i, hk0, hi', rfl, rfl, hsub, y, rfl⟩ := hrel
      by_cases hiM : i < N3
      · have hd2 : decide (i < N3) = true := by simp [hiM]
        go_wp2_with (fail)
        go_loopw [18] (fun u wr => ∃ k : Nat, k ≤ NG ∧ u = .int .i64 k ∧ Hid ((L3.drop i).Sublist (G.drop k)) ∧ ∃ z : Later wc, wr = z.out) (fun u _ => NG - (intOf u).toNat)
        case atStart => exact ⟨k0, hk0, rfl, hsub, y, rfl⟩
        case round =>
          obtain ⟨k, hk, rfl, hsub2, z, rfl⟩ := hrel
          have hkM : k < NG := by
            have := sb_ne (by rw [HN3.out]; exact hiM) hsub2.out
            rwa [HGL.out] at this
          have hd1 : decide (k < NG) = true := by simp [hkM]
          obtain ⟨⟨u0, u1⟩, h1⟩ : ∃ p, G[k]? = some p := ⟨_, List.getElem?_eq_getElem (by rw [HGL.out]; exact hkM)⟩
          obtain ⟨⟨v0, v1⟩, h2⟩ : ∃ p, L3[i]? = some p := ⟨_, List.getElem?_eq_getElem (by rw [HN3.out]; exact hiM)⟩
          obtain ⟨z0, z1⟩ := HG'.out.cell k _ h1
          obtain ⟨z2, z3⟩ := HP3.out.cell i _ h2
          simp only [Nat.zero_add] at z0 z1 z2 z3
          have H1 := Lib.hid h1
          have H2 := Lib.hid h2
          clear h1 h2
          by_cases ex : u0 = v0
          · subst ex
            by_cases ey : u1 = v1
            · subst ey
              have hne : (k == NG) = false := by simp; omega
              have hne' : ((k : Int) == NG) = false := by simp; omega
              go_wp2_with (fail)
              refine wp_region_later (by kernel_rfl) (by kernel_rfl) ?_
              repeat (go_big_quiet_step ((first | fail)))
              refine wpQuiet_nil ?_
              intro x7
              go_wp2_with (fail)
              go_roundw
              case rel => exact ⟨k, i + 1, by omega, by omega, rfl, by go_num, Lib.hid (sb_hit (by rw [HN3.out]; exact hiM) hsub2.out), ⟨x7.out, z.below.trans (x7.below.mono z.below.size)⟩, rfl⟩
              case measure => simp [intOf]; omega
            · have ey' : (u1 == v1) = false := by simp [ey]
              have HN : Hid (u1 ≠ v1) := Lib.hid ey
              clear ey
              go_wp2_with (fail)
              refine wp_region_later (by kernel_rfl) (by kernel_rfl) ?_
              repeat (go_big_quiet_step ((first | fail)))
              refine wpQuiet_nil ?_
              intro x7
              go_wp2_with (fail)
              go_roundw
              case rel => exact ⟨k + 1, by omega, by go_num, Lib.hid (sb_miss H1.out H2.out (fun e => HN.out (congrArg Prod.snd e)) hsub2.out), ⟨x7.out, z.below.trans (x7.below.mono z.below.size)⟩, rfl⟩
              case measure => simp [intOf]; omega
          · have ex' : (u0 == v0) = false := by simp [ex]
            have HN : Hid (u0 ≠ v0) := Lib.hid ex
            clear ex
            go_wp2_with (fail)
            refine wp_region_later (by kernel_rfl) (by kernel_rfl) ?_
            repeat (go_big_quiet_step ((first | fail)))
            refine wpQuiet_nil ?_
            intro x7
            go_wp2_with (fail)
            go_roundw
            case rel => exact ⟨k + 1, by omega, by go_num, Lib.hid (sb_miss H1.out H2.out (fun e => HN.out (congrArg Prod.fst e)) hsub2.out), ⟨x7.out, z.below.trans (x7.below.mono z.below.size)⟩, rfl⟩
            case measure => simp [intOf]; omega
      · obtain rfl : i = N3 := by omega
        have g1 : decide (NG ≤ i + 1) = true := by simp; omega
        have g2 : decide ((NG : Int) ≤ (i : Int) + 1) = true := by simp; omega
        have g3 : (NG : Int) ≤ (i : Int) + 1 := by omega
        have hB9 := HW.out
        go_wp2_with (fail)
        exact bodyPost_ret (v := .bool true) (by simp [results, Try.results7, go_sem, *]) rfl ⟨rfl, (Later.mk_of (by repeat (first | (with_reducible assumption) | (with_reducible exact Below.refl _ _) | (with_reducible refine Later.after ?_ _) | (with_reducible refine Later.newer ?_ _) | (with_reducible refine Below.drew ?_) | (with_reducible refine Below.setCell ?_ (by first | exact Nat.le_refl _ | exact Nat.le_add_right _ _ | omega | (simp [go_sem]; done) | (simp [go_sem]; omega)) _))))⟩
end Go.Proofs.Ytcdnekhpeghkiaa
