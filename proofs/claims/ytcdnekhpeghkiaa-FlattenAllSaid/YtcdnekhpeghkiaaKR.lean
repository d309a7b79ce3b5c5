/-
  Texts that stand as one.
-/
import Derived.Test.YtcdnekhpeghkiaaQL
import Derived.Test.YtcdnekhpeghkiaaP7
/-
  The chains of subpaths: walked.
-/
namespace Go.Proofs.Ytcdnekhpeghkiaa
set_option linter.unusedVariables false
open Go.RowKit

/-- a chain -/
structure ChV where
  pts : List (Int × Int)
  cl : Bool
def chV (q : ChV × Value) : List Value := [q.2, .bool q.1.cl]
def chsV (R : List (ChV × Value)) : List Value := R.flatMap chV
theorem chsV_app (a b : List (ChV × Value)) : chsV (a ++ b) = chsV a ++ chsV b := by unfold chsV; rw [List.flatMap_append]
/-- chains that a text owns -/
structure Chs (T : TypeId) (W : World) (B : Nat) (cv : Value) (R : List (ChV × Value)) : Prop where
  own : W.ownsRow B T 2 cv R.length (chsV R)
  rows : ∀ q ∈ R, (∃ g c, q.2 = .slice (some ⟨g, 0, none⟩) q.1.pts.length c) ∧ W.ownsRow B 23 2 q.2 q.1.pts.length (fl q.1.pts)
theorem Chs.later {T : TypeId} {W : World} {B : Nat} {cv : Value} {R : List (ChV × Value)} (h : Chs T W B cv R) (x : Later W) : Chs T x.out B cv R :=
  ⟨own_later h.own x, fun q hq => ⟨(h.rows q hq).1, own_later (h.rows q hq).2 x⟩⟩
theorem Chs.alloc {T : TypeId} {W : World} {B : Nat} {cv : Value} {R : List (ChV × Value)} (h : Chs T W B cv R) (o : Obj) : Chs T (W.alloc o) B cv R :=
  ⟨h.own.alloc o, fun q hq => ⟨(h.rows q hq).1, (h.rows q hq).2.alloc o⟩⟩
theorem Chs.base {T : TypeId} {W : World} {B B' : Nat} {cv : Value} {R : List (ChV × Value)} (h : Chs T W B cv R) (hb : B' ≤ B) : Chs T W B' cv R :=
  ⟨own_base h.own hb, fun q hq => ⟨(h.rows q hq).1, own_base (h.rows q hq).2 hb⟩⟩
theorem Chs.nil (T : TypeId) (W : World) (B : Nat) : Chs T W B (.slice none 0 0) [] := ⟨World.ownsRow_nil _ _ _ _, fun q hq => by simp at hq⟩
theorem Chs.made {T : TypeId} (W : World) (B : Nat) (h : B ≤ W.heap.size) : Chs T (W.alloc (.cells #[] T)) B (.slice (some ⟨W.heap.size, 0, none⟩) 0 0) [] :=
  ⟨World.ownsRow_made W #[] 0 h (by unfold maxLen; omega) rfl, fun q hq => by simp at hq⟩
theorem Chs.push {T : TypeId} {W W' : World} {B : Nat} {cv cv' : Value} {R : List (ChV × Value)} (h : Chs T W B cv R) (hT : 23 ≠ T) (q : ChV × Value) (hq : (∃ g c, q.2 = .slice (some ⟨g, 0, none⟩) q.1.pts.length c) ∧ W.ownsRow B 23 2 q.2 q.1.pts.length (fl q.1.pts))
    (ho : W'.ownsRow B T 2 cv' (R.length + 1) (chsV R ++ chV q)) (hg : W.grownBy W' cv.ownBlock) : Chs T W' B cv' (R ++ [q]) where
  own := by
    rw [List.length_append, chsV_app]
    simpa [chsV] using ho
  rows := fun p hp => by
    rcases List.mem_append.1 hp with hp | hp
    · exact ⟨(h.rows p hp).1, (h.rows p hp).2.kept hg (rows_apart (h.rows p hp).2 h.own hT)⟩
    · obtain rfl := List.mem_singleton.1 hp
      exact ⟨hq.1, hq.2.kept hg (rows_apart hq.2 h.own hT)⟩
theorem Chs.form {T : TypeId} {W : World} {B : Nat} {cv : Value} {R : List (ChV × Value)} (h : Chs T W B cv R) : ∃ a c, cv = .slice a R.length c := by
  rcases Go.Joins.ownsRow_forms h.own with ⟨h1, h2⟩ | ⟨g, cap, h⟩
  · exact ⟨_, 0, by rw [h1, h2]⟩
  · exact ⟨_, _, h⟩
theorem Chs.at {T : TypeId} {W : World} {B : Nat} {cv : Value} {R : List (ChV × Value)} (h : Chs T W B cv R) (i : Nat) (q : ChV × Value) (hi : R[i]? = some q) :
    ∃ g c, cv = .slice (some ⟨g, 0, none⟩) R.length c ∧ g < W.heap.size ∧ W.cell? ⟨g, i * 2, none⟩ = some q.2 ∧ W.cell? ⟨g, i * 2 + 1, none⟩ = some (.bool q.1.cl) ∧ ∃ g' c', q.2 = .slice (some ⟨g', 0, none⟩) q.1.pts.length c' ∧ PtsIn W g' q.1.pts := by
  have hl : i < R.length := (List.getElem?_eq_some_iff.1 hi).1
  have ho := h.own
  obtain ⟨g, c, rfl⟩ := Go.Joins.ownsRow_form ho (by omega)
  have hc : ∀ j, j < 2 → W.cell? ⟨g, i * 2 + j, none⟩ = (chV q)[j]? := fun j hj => by
    rw [ho.cellAt (i * 2 + j) (by omega)]
    unfold chsV
    exact flatMap_at _ 2 (fun a => rfl) R i j q hi hj
  obtain ⟨⟨g', c', e⟩, hr⟩ := h.rows q (List.mem_of_getElem? hi)
  rw [e] at hr
  exact ⟨g, c, rfl, (ho.lt g rfl).2, hc 0 (by omega), hc 1 (by omega), g', c', e, PtsIn.own hr⟩
theorem SegsAt.below {W W' : World} {v : Value} {l : List En} (h : SegsAt W v l) (k : Below W.heap.size W W') : SegsAt W' v l := h.later ⟨W', k⟩
/-- subpaths that lie in memory -/
structure SubsR (W : World) (sv : Value) (L : List (SubP × Value)) : Prop where
  form : ∃ a c, sv = .slice a L.length c
  cells : ∀ (i : Nat) (s : SubP) (v : Value), L[i]? = some (s, v) → ∃ g c, sv = .slice (some ⟨g, 0, none⟩) L.length c ∧ g < W.heap.size ∧ (∀ j, j < 4 → W.cell? ⟨g, i * 4 + j, none⟩ = (subV s v)[j]?) ∧ SegsAt W v s.segs
theorem Subs.read {W : World} {B : Nat} {sv : Value} {L : List (SubP × Value)} (h : Subs W B sv L) : SubsR W sv L := ⟨h.form, fun i s v hi => h.at i s v hi⟩
theorem SubsR.below {W W' : World} {sv : Value} {L : List (SubP × Value)} (h : SubsR W sv L) (k : Below W.heap.size W W') : SubsR W' sv L :=
  ⟨h.form, fun i s v hi => by
    obtain ⟨g, c, e, lg, hc, hs⟩ := h.cells i s v hi
    exact ⟨g, c, e, Nat.lt_of_lt_of_le lg k.size, fun j hj => (k.cell (p := ⟨g, i * 4 + j, none⟩) lg).trans (hc j hj), hs.below k⟩⟩
noncomputable def cof (t : Int) (p : SubP × Value) : ChV := ⟨chn p.1.cl (chL t p.1.st p.1.segs), p.1.cl⟩
/-- what All hands back -/
def AllRet (T : TypeId) (W : World) (C : List ChV) (e : Ending) (w' : World) : Prop :=
  ∃ cv R, e = .returned cv ∧ Chs T w' W.heap.size cv R ∧ R.map Prod.fst = C ∧ ∃ x : Later W, w' = x.out
structure AInv (T : TypeId) (W : World) (C : List ChV) (cv : Value) (R : List (ChV × Value)) (W' : World) : Prop where
  chs : Chs T W' W.heap.size cv R
  res : R.map Prod.fst = C
  below : Below W.heap.size W W'
theorem chV_one (q : ChV × Value) (h : ∃ g c n, q.2 = .slice (some ⟨g, 0, none⟩) n c) : ∀ u ∈ chV q, u.oneCell' = true := by
  obtain ⟨g, c, n, e⟩ := h
  intro u hu
  simp only [chV, e, List.mem_cons, List.not_mem_nil, or_false] at hu
  rcases hu with rfl | rfl <;> rfl

theorem infoCh : ∃ i b, Try.prog.info? 36 = some i ∧ i.zero = some (.agg #[.slice none 0 0, .bool false]) ∧ i.size = 2 ∧ i.bytes = b ∧ b ≤ 100 := by
  have h : (Try.prog.info? 36).map (fun i => (i.zero, i.size, decide (i.bytes ≤ 100))) = some (some (.agg #[.slice none 0 0, .bool false]), 2, true) := by kernel_rfl
  cases e : Try.prog.info? 36 with
  | none => rw [e] at h; cases h
  | some i =>
    rw [e] at h
    simp only [Option.map_some, Option.some.injEq, Prod.mk.injEq] at h
    exact ⟨i, i.bytes, rfl, h.1, h.2.1, rfl, of_decide_eq_true h.2.2⟩
theorem ne_infoCh : (23 : TypeId) ≠ 36 := by decide
theorem infoRCh : ∃ i b, Try.prog.info? 97 = some i ∧ i.zero = some (.agg #[.slice none 0 0, .bool false]) ∧ i.size = 2 ∧ i.bytes = b ∧ b ≤ 100 := by
  have h : (Try.prog.info? 97).map (fun i => (i.zero, i.size, decide (i.bytes ≤ 100))) = some (some (.agg #[.slice none 0 0, .bool false]), 2, true) := by kernel_rfl
  cases e : Try.prog.info? 97 with
  | none => rw [e] at h; cases h
  | some i =>
    rw [e] at h
    simp only [Option.map_some, Option.some.injEq, Prod.mk.injEq] at h
    exact ⟨i, i.bytes, rfl, h.1, h.2.1, rfl, of_decide_eq_true h.2.2⟩
theorem ne_infoRCh : (23 : TypeId) ≠ 97 := by decide

set_option maxRecDepth 100000 in
set_option maxHeartbeats 2000000 in
theorem all_c (t : Int) (t0 : 0 ≤ t) (t9 : t ≤ 1073741824) (W : World) (sv : Value) (L : List (SubP × Value)) (hS : SubsR W sv L) (hG : ∀ p ∈ L, GoodSub 600 p.1) (hL : L.length ≤ 600) :
    Calls Try.prog 27 #[sv, .int .i64 t] W (AllRet 36 W (L.map (cof t))) := by
  obtain ⟨i0, by0, hi0, hz0, hz1, hz2, hz3⟩ := infoCh
  obtain ⟨aS, cS, hsv⟩ := hS.form
  obtain ⟨N, hN⟩ : ∃ N, L.length = N := ⟨_, rfl⟩
  rw [hN] at hsv hL
  subst hsv
  have HS := Lib.hid hS
  have HG := Lib.hid hG
  have HN := Lib.hid hN
  clear hS hG hN
  go_enter Try.func27, Try.ntmps27
  go_wp2_with (fail)
  go_loopw [4, 9] (fun u v wr => ∃ (k : Nat) (R : List (ChV × Value)), k ≤ N ∧ v = .int .i64 k ∧ Hid (AInv 36 W ((L.take k).map (cof t)) u R wr)) (fun u v _ => N - (intOf v).toNat)
  case atStart => exact ⟨0, [], by omega, rfl, Lib.hid ⟨Chs.nil _ _ _, rfl, (by repeat (first | (with_reducible assumption) | (with_reducible exact Below.refl _ _) | (with_reducible refine Later.after ?_ _) | (with_reducible refine Later.newer ?_ _) | (with_reducible refine Below.drew ?_) | (with_reducible refine Below.setCell ?_ (by first | exact Nat.le_refl _ | exact Nat.le_add_right _ _ | omega | (simp [go_sem]; done) | (simp [go_sem]; omega)) _)))⟩⟩
  case round =>
    obtain ⟨k, R, hk, rfl, HI⟩ := hrel
    by_cases hlt : k < N
    · have hd : decide (k < N) = true := by simp [hlt]
      obtain ⟨⟨s, v⟩, hsi⟩ : ∃ p, L[k]? = some p := ⟨_, List.getElem?_eq_getElem (by rw [HN.out]; exact hlt)⟩
      obtain ⟨gs, cs', hsv, lgs, hcell, hsegs⟩ := HS.out.cells k s v hsi
      rw [HN.out] at hsv
      simp only [Value.slice.injEq, true_and] at hsv
      obtain ⟨rfl, rfl⟩ := hsv
      have gsub : GoodSub 600 s := HG.out (s, v) (List.mem_of_getElem? hsi)
      have hof := fun W' h' => chainOf_c W' s.st s.segs v s.cl t (by omega) (by omega) h' (by have := gsub.2.1; omega) gsub.2.2
      have hkr : R.length = k := by have := congrArg List.length HI.out.res; simp only [List.length_map, List.length_take, HN.out] at this; omega
      have hres : ((L.take (k + 1)).map (cof t)) = (L.take k).map (cof t) ++ [⟨chn s.cl (chL t s.st s.segs), s.cl⟩] := by
        rw [List.take_add_one, hsi, List.map_append]; rfl
      generalize hRR : chn s.cl (chL t s.st s.segs) = RR at *
      obtain ⟨M, hM⟩ : ∃ M, RR.length = M := ⟨_, rfl⟩
      have hof := fun W' h' => (hof W' h').mono (fun e w' h => ORet.len hM h)
      have lw : gs < wr.heap.size := Nat.lt_of_lt_of_le lgs HI.out.below.size
      have hcw : ∀ j, j < 4 → wr.cell? ⟨gs, k * 4 + j, none⟩ = (subV s v)[j]? := fun j hj => (HI.out.below.cell (p := ⟨gs, k * 4 + j, none⟩) lgs).trans (hcell j hj)
      obtain ⟨sx, hsx⟩ : ∃ x, s.st.1 = x := ⟨_, rfl⟩
      obtain ⟨sy, hsy⟩ : ∃ x, s.st.2 = x := ⟨_, rfl⟩
      obtain ⟨cl, hcl⟩ : ∃ x, s.cl = x := ⟨_, rfl⟩
      have c0 : wr.cell? ⟨gs, k * 4, none⟩ = some (.int .i64 sx) := by have := hcw 0 (by omega); rw [← hsx]; exact this
      have c1 : wr.cell? ⟨gs, k * 4 + 1, none⟩ = some (.int .i64 sy) := by have := hcw 1 (by omega); rw [← hsy]; exact this
      have c2 : wr.cell? ⟨gs, k * 4 + 2, none⟩ = some v := hcw 2 (by omega)
      have c3 : wr.cell? ⟨gs, k * 4 + 3, none⟩ = some (.bool cl) := by have := hcw 3 (by omega); rw [← hcl]; exact this
      obtain ⟨av', cv', hv'⟩ : ∃ a c, v = .slice a s.segs.length c := by
        rcases hsegs with ⟨h1, h2⟩ | ⟨b, o, c, h, _⟩
        · exact ⟨none, 0, by rw [h1, h2]; rfl⟩
        · exact ⟨_, _, h⟩
      generalize s.segs.length = SL at hv'
      subst hv'
      rw [hsx, hsy, hcl] at hof
      rw [hcl] at hres
      have HSG := Lib.hid hsegs
      have HOF := Lib.hid hof
      have HRES := Lib.hid hres
      have HM := Lib.hid hM
      have HKR := Lib.hid hkr
      clear hcw hcell hsegs hof hres hsi gsub hsx hsy hcl hRR hM
      go_wp2_with (first | (go_at_call 25; (with_reducible refine (HOF.out _ (SegsAt.below HSG.out (HI.out.below.alloc HI.out.below.size _))).mono ?_); rintro _ _ ⟨g2, cap2, rfl, hown, x3, rfl⟩; have HOW := Lib.hid hown; clear hown) | (at_builtin; refine wpList_append_at _ rfl _ _ 63 rfl W.heap.size 36 i0 (.agg #[.slice none 0 0, .bool false]) 2 by0 Try.underlying63 hi0 hz0 hz1 hz2 rfl (by decide) u4 R.length (chsV R) rfl ((own_later (HI.out.chs.own.alloc _) x3).alloc _) ⟨x3.out.heap.size, 0, none⟩ 1 1 (chV (⟨RR, cl⟩, .slice (some ⟨g2, 0, none⟩) M cap2)) rfl rfl (blk_at (Blk.new' rfl)) (chV_one _ ⟨_, _, _, rfl⟩) (by unfold maxLen; omega) (Nat.le_trans (Nat.mul_le_mul (show R.length + 1 ≤ 1001 by omega) hz3) (by omega)) (by have := x3.size_le; have := HI.out.below.size; simp only [World.size_alloc] at *; omega) ?_; intro vo w4 hown hgrow hlies; have HO4 := Lib.hid hown; have HG4 := Lib.hid hgrow; clear hown hgrow hlies))
      have bx : Below W.heap.size W x3.out := (HI.out.below.alloc HI.out.below.size _).trans (x3.below.mono (by have := HI.out.below.size; (try simp only [World.size_alloc]); omega))
      have sx3 : W.heap.size ≤ x3.out.heap.size := bx.size
      have hrow : x3.out.ownsRow W.heap.size 23 2 (.slice (some ⟨g2, 0, none⟩) M cap2) M (fl RR) := own_base HOW.out (by have := HI.out.below.size; (try simp only [World.size_alloc]); omega)
      have hpush := Chs.push (((HI.out.chs.alloc _).later x3).alloc (.cells #[.slice (some ⟨g2, 0, none⟩) M cap2, .bool cl] 36)) ne_infoCh (⟨RR, cl⟩, .slice (some ⟨g2, 0, none⟩) M cap2) ⟨⟨g2, cap2, by rw [HM.out]⟩, by rw [HM.out]; exact hrow.alloc _⟩ HO4.out HG4.out
      have b4 : Below W.heap.size W w4 := Below.grown (bx.alloc sx3 (.cells #[.slice (some ⟨g2, 0, none⟩) M cap2, .bool cl] 36)) HG4.out (by simp only [World.size_alloc]; omega) (fun r hr => (HI.out.chs.own.lt r hr).1)
      go_roundw
      case rel => exact ⟨k + 1, _, by omega, by go_num, Lib.hid ⟨hpush, by rw [List.map_append, HI.out.res, HRES.out]; rfl, b4⟩⟩
      case measure => simp [intOf]; omega
    · obtain rfl : k = N := by omega
      have hd : decide (k < k) = false := by simp
      have hres := HI.out.res
      rw [List.take_of_length_le (by rw [HN.out]; exact Nat.le_refl _)] at hres
      have HRES := Lib.hid hres
      clear hres
      go_wp2_with (fail)
      exact bodyPost_ret (v := u4) (by simp [results, Try.results27, go_sem, *]) rfl ⟨u4, R, rfl, HI.out.chs, HRES.out, Later.mk_of HI.out.below⟩


structure BInv (W : World) (B : Nat) (cv : Value) (R : List (ChV × Value)) (W' : World) : Prop where
  chs : Chs 97 W' B cv R
  own : W'.ownsRow W.heap.size 97 2 cv R.length (chsV R)
  below : Below W.heap.size W W'
set_option maxRecDepth 100000 in
set_option maxHeartbeats 2000000 in
theorem chains_c (W : World) (B : Nat) (cv : Value) (R : List (ChV × Value)) (hC : Chs 36 W B cv R) (hB : B ≤ W.heap.size) (hL : R.length ≤ 600) :
    Calls Try.prog 29 #[cv] W fun e w' => ∃ v, e = .returned v ∧ Chs 97 w' B v R ∧ ∃ x : Later W, w' = x.out := by
  obtain ⟨i0, by0, hi0, hz0, hz1, hz2, hz3⟩ := infoRCh
  obtain ⟨aS, cS, hsv⟩ := hC.form
  obtain ⟨N, hN⟩ : ∃ N, R.length = N := ⟨_, rfl⟩
  rw [hN] at hsv hL
  subst hsv
  have HC := Lib.hid hC
  have HN := Lib.hid hN
  clear hC hN
  go_enter Try.func29, Try.ntmps29
  go_wp2_with (fail)
  go_loopw [3, 4] (fun u v wr => ∃ k : Nat, k ≤ N ∧ v = .int .i64 k ∧ Hid (BInv W B u (R.take k) wr)) (fun _ v _ => N - (intOf v).toNat)
  case atStart => exact ⟨0, by omega, rfl, Lib.hid ⟨Chs.made _ _ hB, World.ownsRow_made W #[] 0 (Nat.le_refl _) (by unfold maxLen; omega) rfl, (by repeat (first | (with_reducible assumption) | (with_reducible exact Below.refl _ _) | (with_reducible refine Later.after ?_ _) | (with_reducible refine Later.newer ?_ _) | (with_reducible refine Below.drew ?_) | (with_reducible refine Below.setCell ?_ (by first | exact Nat.le_refl _ | exact Nat.le_add_right _ _ | omega | (simp [go_sem]; done) | (simp [go_sem]; omega)) _)))⟩⟩
  case round =>
    obtain ⟨k, hk, rfl, HI⟩ := hrel
    by_cases hlt : k < N
    · have hd : decide (k < N) = true := by simp [hlt]
      obtain ⟨⟨⟨pts, cl⟩, vq⟩, hq⟩ : ∃ p, R[k]? = some p := ⟨_, List.getElem?_eq_getElem (by rw [HN.out]; exact hlt)⟩
      obtain ⟨g, c, hsv, lg, c0, c1', g1, c1, hvq, _⟩ := HC.out.at k _ hq
      rw [HN.out] at hsv
      simp only [Value.slice.injEq, true_and] at hsv
      obtain ⟨rfl, rfl⟩ := hsv
      simp only [] at c0 c1' hvq
      obtain ⟨M, hM⟩ : ∃ M, pts.length = M := ⟨_, rfl⟩
      rw [hM] at hvq
      subst hvq
      have hrow := (HC.out.rows _ (List.mem_of_getElem? hq))
      have htk : R.take (k + 1) = R.take k ++ [(⟨pts, cl⟩, .slice (some ⟨g1, 0, none⟩) M c1)] := by rw [List.take_add_one, hq]; rfl
      have hkr : (R.take k).length = k := by rw [List.length_take, HN.out]; omega
      have d0 := (HI.out.below.cell (p := ⟨g, k * 2, none⟩) lg).trans c0
      have d1 := (HI.out.below.cell (p := ⟨g, k * 2 + 1, none⟩) lg).trans c1'
      have lw : g < wr.heap.size := Nat.lt_of_lt_of_le lg HI.out.below.size
      have how := HI.out.own
      rw [hkr] at how
      have HOW := Lib.hid how
      have HROW := Lib.hid hrow
      have HTK := Lib.hid htk
      have HKR := Lib.hid hkr
      clear hrow htk hkr hq c0 c1' hM how
      go_wp2_with (fail)
      refine wp_region_one [0, 1, 2, 3, 4, 5, 6, 7, 8, 9, 10, 11] 12 [13, 14] (fun g => .slice (some ⟨g, 0, none⟩) 1 1) (.cells #[.slice (some ⟨g1, 0, none⟩) M c1, .bool cl] 97) (by kernel_rfl) (by kernel_rfl) (by kernel_rfl) (by kernel_rfl) (by kernel_rfl) (noInit_of (by kernel_rfl)) (fun y => ?_)
      simp only [pick, List.getElem?_cons_zero, List.getElem?_cons_succ]
      repeat (go_big_quiet_step ((first | fail)))
      refine wpQuiet_nil ?_
      refine ⟨(by intro o ho; obtain rfl := Option.some.inj ho; refine ⟨rfl, fun wc => ?_⟩; simp [execOp, go_sem]; done), ?_⟩
      intro gq x hgq hx
      simp only [dstOf, List.getElem?_toArray, List.getElem?_cons_succ, List.getElem?_cons_zero, Option.bind_some, Act.put, List.setIfInBounds_toArray, List.set_cons_succ, List.set_cons_zero]
      have bgq : Blk x.out gq 97 (chV (⟨pts, cl⟩, .slice (some ⟨g1, 0, none⟩) M c1)).toArray := hx
      have HGQ := Lib.hid bgq
      clear hx bgq
      refine wpListIn_append_at _ rfl _ _ 66 rfl W.heap.size 97 i0 (.agg #[.slice none 0 0, .bool false]) 2 by0 Try.underlying66 hi0 hz0 hz1 hz2 rfl (by decide) u3 k (chsV (R.take k)) rfl (own_later HOW.out x) ⟨gq, 0, none⟩ 1 1 (chV (⟨pts, cl⟩, .slice (some ⟨g1, 0, none⟩) M c1)) rfl rfl (blk_at HGQ.out) (chV_one _ ⟨_, _, _, rfl⟩) (by unfold maxLen; omega) (Nat.le_trans (Nat.mul_le_mul (show k + 1 ≤ 1001 by omega) hz3) (by omega)) (by have := x.size_le; have := HI.out.below.size; omega) ?_
      intro vo w4 hown hgrow hlies
      have HO4 := Lib.hid hown
      have HG4 := Lib.hid hgrow
      clear hown hgrow hlies
      gi_wp2_with (fail)
      go_wp2_with (fail)
      have bx : Below W.heap.size W x.out := HI.out.below.trans (x.below.mono HI.out.below.size)
      have hpush := Chs.push (HI.out.chs.later x) ne_infoRCh (⟨pts, cl⟩, .slice (some ⟨g1, 0, none⟩) M c1) ⟨HROW.out.1, own_later HROW.out.2 ⟨x.out, bx⟩⟩ (by rw [HKR.out]; exact own_base HO4.out hB) HG4.out
      rw [← HTK.out] at hpush
      have ho5 : w4.ownsRow W.heap.size 97 2 vo (R.take (k + 1)).length (chsV (R.take (k + 1))) := by
        rw [HTK.out, List.length_append, HKR.out, chsV_app]
        simpa [chsV] using HO4.out
      have b4 : Below W.heap.size W w4 := Below.grown bx HG4.out bx.size (fun r hr => (HOW.out.lt r hr).1)
      go_roundw
      case rel => exact ⟨k + 1, by omega, by go_num, Lib.hid ⟨hpush, ho5, b4⟩⟩
      case measure => simp [intOf]; omega
    · obtain rfl : k = N := by omega
      have hd : decide (k < k) = false := by simp
      have hres := HI.out.chs
      rw [List.take_of_length_le (by rw [HN.out]; exact Nat.le_refl _)] at hres
      have HRES := Lib.hid hres
      clear hres
      go_wp2_with (fail)
      exact bodyPost_ret (v := u3) (by simp [results, Try.results29, go_sem, *]) rfl ⟨u3, rfl, HRES.out, Later.mk_of HI.out.below⟩

end Go.Proofs.Ytcdnekhpeghkiaa

/-
  The subpaths, as the reference has them: walked.
-/
namespace Go.Proofs.Ytcdnekhpeghkiaa
set_option linter.unusedVariables false
open Go.RowKit

structure RSubs (W : World) (B : Nat) (sv : Value) (l : List (SubP × Value)) : Prop where
  own : W.ownsRow B 101 4 sv l.length (subsV l)
  rows : ∀ p ∈ l, W.ownsRow B 33 9 p.2 p.1.segs.length (flE p.1.segs)
theorem RSubs.later {W : World} {B : Nat} {sv : Value} {l : List (SubP × Value)} (h : RSubs W B sv l) (x : Later W) : RSubs x.out B sv l :=
  ⟨own_later h.own x, fun q hq => own_later (h.rows q hq) x⟩
theorem RSubs.made (W : World) (B : Nat) (h : B ≤ W.heap.size) : RSubs (W.alloc (.cells #[] 101)) B (.slice (some ⟨W.heap.size, 0, none⟩) 0 0) [] :=
  ⟨World.ownsRow_made W #[] 0 h (by unfold maxLen; omega) rfl, fun q hq => by simp at hq⟩
theorem rsubs_ne : (33 : TypeId) ≠ 101 := by decide
theorem RSubs.push {W W' : World} {B : Nat} {sv sv' : Value} {l : List (SubP × Value)} (h : RSubs W B sv l) (q : SubP × Value) (hq : W.ownsRow B 33 9 q.2 q.1.segs.length (flE q.1.segs))
    (ho : W'.ownsRow B 101 4 sv' (l.length + 1) (subsV l ++ subV q.1 q.2)) (hg : W.grownBy W' sv.ownBlock) : RSubs W' B sv' (l ++ [q]) where
  own := by
    rw [List.length_append, subsV_app]
    simpa [subsV] using ho
  rows := fun p hp => by
    rcases List.mem_append.1 hp with hp | hp
    · exact (h.rows p hp).kept hg (rows_apart (h.rows p hp) h.own rsubs_ne)
    · obtain rfl := List.mem_singleton.1 hp
      exact hq.kept hg (rows_apart hq h.own rsubs_ne)
theorem own_segsT {W : World} {B : Nat} {T : TypeId} {v : Value} {segs : List En} (h : W.ownsRow B T 9 v segs.length (flE segs)) : SegsAt W v segs := by
  rcases Go.Joins.ownsRow_forms h with ⟨h1, h2⟩ | ⟨g, cap, rfl⟩
  · exact .inl ⟨h1, List.eq_nil_of_length_eq_zero h2⟩
  · have hl := h.lt g rfl
    have hc : segs.length ≤ cap := by
      rcases h.2 with ⟨h', _⟩ | ⟨g', cap', cur, h', _, _, hnc, _⟩
      · simp at h'
      · simp only [Value.slice.injEq] at h'
        omega
    refine .inr ⟨g, 0, cap, rfl, hl.2, hc, fun i s hs j hj => ?_⟩
    have hi : i < segs.length := (List.getElem?_eq_some_iff.1 hs).1
    rw [Nat.zero_add, h.cellAt (i * 9 + j) (by omega)]
    unfold flE
    rw [flatMap_at _ 9 (fun a => rfl) segs i j s hs hj]
    have : j = 0 ∨ j = 1 ∨ j = 2 ∨ j = 3 ∨ j = 4 ∨ j = 5 ∨ j = 6 ∨ j = 7 ∨ j = 8 := by omega
    rcases this with rfl | rfl | rfl | rfl | rfl | rfl | rfl | rfl | rfl <;> rfl
theorem RSubs.read {W : World} {B : Nat} {sv : Value} {L : List (SubP × Value)} (h : RSubs W B sv L) : SubsR W sv L where
  form := by
    rcases Go.Joins.ownsRow_forms h.own with ⟨h1, h2⟩ | ⟨g, cap, h⟩
    · exact ⟨_, 0, by rw [h1, h2]⟩
    · exact ⟨_, _, h⟩
  cells := fun i s v hi => by
    have hl : i < L.length := (List.getElem?_eq_some_iff.1 hi).1
    have ho := h.own
    obtain ⟨g, c, rfl⟩ := Go.Joins.ownsRow_form ho (by omega)
    refine ⟨g, c, rfl, (ho.lt g rfl).2, fun j hj => ?_, own_segsT (h.rows (s, v) (List.mem_of_getElem? hi))⟩
    rw [ho.cellAt (i * 4 + j) (by omega)]
    unfold subsV
    exact flatMap_at _ 4 (fun a => rfl) L i j (s, v) hi hj

theorem infoRSub : ∃ i b, Try.prog.info? 101 = some i ∧ i.zero = some (.agg #[.int .i64 0, .int .i64 0, .slice none 0 0, .bool false]) ∧ i.size = 4 ∧ i.bytes = b ∧ b ≤ 100 := by
  have h : (Try.prog.info? 101).map (fun i => (i.zero, i.size, decide (i.bytes ≤ 100))) = some (some (.agg #[.int .i64 0, .int .i64 0, .slice none 0 0, .bool false]), 4, true) := by kernel_rfl
  cases e : Try.prog.info? 101 with
  | none => rw [e] at h; cases h
  | some i =>
    rw [e] at h
    simp only [Option.map_some, Option.some.injEq, Prod.mk.injEq] at h
    exact ⟨i, i.bytes, rfl, h.1, h.2.1, rfl, of_decide_eq_true h.2.2⟩
theorem infoRSeg : ∃ i b, Try.prog.info? 33 = some i ∧ i.zero = some (.agg #[.int .i64 0, .int .i64 0, .int .i64 0, .int .i64 0, .int .i64 0, .int .i64 0, .int .i64 0, .int .i64 0, .int .i64 0]) ∧ i.size = 9 ∧ i.bytes = b ∧ b ≤ 100 := by
  have h : (Try.prog.info? 33).map (fun i => (i.zero, i.size, decide (i.bytes ≤ 100))) = some (some (.agg #[.int .i64 0, .int .i64 0, .int .i64 0, .int .i64 0, .int .i64 0, .int .i64 0, .int .i64 0, .int .i64 0, .int .i64 0]), 9, true) := by kernel_rfl
  cases e : Try.prog.info? 33 with
  | none => rw [e] at h; cases h
  | some i =>
    rw [e] at h
    simp only [Option.map_some, Option.some.injEq, Prod.mk.injEq] at h
    exact ⟨i, i.bytes, rfl, h.1, h.2.1, rfl, of_decide_eq_true h.2.2⟩

structure SInv (W : World) (sv : Value) (L L' : List (SubP × Value)) (k : Nat) (W' : World) : Prop where
  subs : RSubs W' W.heap.size sv L'
  res : L'.map Prod.fst = (L.take k).map Prod.fst
  below : Below W.heap.size W W'
/-- in the inner loop: the box of the subpath that is made, its row, and all that lay before -/
structure JInv (W1 : World) (gb : Nat) (sx sy : Int) (cl : Bool) (segs : List En) (k : Nat) (v : Value) (W' : World) : Prop where
  box : Blk W' gb 101 #[.int .i64 sx, .int .i64 sy, v, .bool cl]
  own : W'.ownsRow (gb + 1) 33 9 v k (flE (segs.take k))
  below : Below W1.heap.size W1 W'
set_option maxRecDepth 100000 in
set_option maxHeartbeats 4000000 in
theorem subs_c (W : World) (sv : Value) (L : List (SubP × Value)) (hS : SubsR W sv L) (hG : ∀ p ∈ L, GoodSub 600 p.1) (hL : L.length ≤ 600) :
    Calls Try.prog 31 #[sv] W fun e w' => ∃ sv' L', e = .returned sv' ∧ RSubs w' W.heap.size sv' L' ∧ L'.map Prod.fst = L.map Prod.fst ∧ ∃ x : Later W, w' = x.out := by
  obtain ⟨i0, by0, hi0, hz0, hz1, hz2, hz3⟩ := infoRSub
  obtain ⟨i1, by1, hi1, hy0, hy1, hy2, hy3⟩ := infoRSeg
  obtain ⟨aS, cS, hsv⟩ := hS.form
  obtain ⟨N, hN⟩ : ∃ N, L.length = N := ⟨_, rfl⟩
  rw [hN] at hsv hL
  subst hsv
  have HS := Lib.hid hS
  have HG := Lib.hid hG
  have HN := Lib.hid hN
  clear hS hG hN
  go_enter Try.func31, Try.ntmps31
  go_wp2_with (fail)
  go_loopw [3, 4] (fun u v wr => ∃ (k : Nat) (L' : List (SubP × Value)), k ≤ N ∧ v = .int .i64 k ∧ Hid (SInv W u L L' k wr)) (fun _ v _ => N - (intOf v).toNat)
  case atStart => exact ⟨0, [], by omega, rfl, Lib.hid ⟨RSubs.made _ _ (Nat.le_refl _), rfl, (by repeat (first | (with_reducible assumption) | (with_reducible exact Below.refl _ _) | (with_reducible refine Later.after ?_ _) | (with_reducible refine Later.newer ?_ _) | (with_reducible refine Below.drew ?_) | (with_reducible refine Below.setCell ?_ (by first | exact Nat.le_refl _ | exact Nat.le_add_right _ _ | omega | (simp [go_sem]; done) | (simp [go_sem]; omega)) _)))⟩⟩
  case round =>
    obtain ⟨k, L', hk, rfl, HI⟩ := hrel
    by_cases hlt : k < N
    · have hd : decide (k < N) = true := by simp [hlt]
      obtain ⟨⟨s, v⟩, hsi⟩ : ∃ p, L[k]? = some p := ⟨_, List.getElem?_eq_getElem (by rw [HN.out]; exact hlt)⟩
      obtain ⟨gs, cs', hsv, lgs, hcell, hsegs⟩ := HS.out.cells k s v hsi
      rw [HN.out] at hsv
      simp only [Value.slice.injEq, true_and] at hsv
      obtain ⟨rfl, rfl⟩ := hsv
      have gsub : GoodSub 600 s := HG.out (s, v) (List.mem_of_getElem? hsi)
      have hsl := gsub.2.1
      have hkr : L'.length = k := by have := congrArg List.length HI.out.res; simp only [List.length_map, List.length_take, HN.out] at this; omega
      have hres : (L.take (k + 1)).map Prod.fst = (L.take k).map Prod.fst ++ [s] := by
        rw [List.take_add_one, hsi, List.map_append]; rfl
      have lw : gs < wr.heap.size := Nat.lt_of_lt_of_le lgs HI.out.below.size
      have hcw : ∀ j, j < 4 → wr.cell? ⟨gs, k * 4 + j, none⟩ = (subV s v)[j]? := fun j hj => (HI.out.below.cell (p := ⟨gs, k * 4 + j, none⟩) lgs).trans (hcell j hj)
      obtain ⟨sx, hsx⟩ : ∃ x, s.st.1 = x := ⟨_, rfl⟩
      obtain ⟨sy, hsy⟩ : ∃ x, s.st.2 = x := ⟨_, rfl⟩
      obtain ⟨cl, hcl⟩ : ∃ x, s.cl = x := ⟨_, rfl⟩
      have c0 : wr.cell? ⟨gs, k * 4, none⟩ = some (.int .i64 sx) := by have := hcw 0 (by omega); rw [← hsx]; exact this
      have c1 : wr.cell? ⟨gs, k * 4 + 1, none⟩ = some (.int .i64 sy) := by have := hcw 1 (by omega); rw [← hsy]; exact this
      have c2 : wr.cell? ⟨gs, k * 4 + 2, none⟩ = some v := hcw 2 (by omega)
      have c3 : wr.cell? ⟨gs, k * 4 + 3, none⟩ = some (.bool cl) := by have := hcw 3 (by omega); rw [← hcl]; exact this
      obtain ⟨av', cv', hv'⟩ : ∃ a c, v = .slice a s.segs.length c := by
        rcases hsegs with ⟨h1, h2⟩ | ⟨b, o, c, h, _⟩
        · exact ⟨none, 0, by rw [h1, h2]; rfl⟩
        · exact ⟨_, _, h⟩
      obtain ⟨S, hSS⟩ : ∃ S, s.segs.length = S := ⟨_, rfl⟩
      rw [hSS] at hv' hsl
      subst hv'
      have hst : s = ⟨(sx, sy), s.segs, cl⟩ := by rw [← hsx, ← hsy, ← hcl]
      have HST := Lib.hid hst
      have HSG := Lib.hid hsegs
      have HRES := Lib.hid hres
      have HKR := Lib.hid hkr
      have HSS := Lib.hid hSS
      clear hcw hcell hsegs hres hsi gsub hsx hsy hcl hSS hst
      go_upto_region 5 with (fail)
      go_region_held3 (fun w' => w'.cell? ⟨gs, k * 4, none⟩ = some (.int .i64 sx) ∧ w'.cell? ⟨gs, k * 4 + 1, none⟩ = some (.int .i64 sy) ∧ w'.cell? ⟨gs, k * 4 + 3, none⟩ = some (.bool cl)) ((simp [go_sem, *]; done))
        (first | fail)
      have hw1 : ∃ W1 : World, W1 = wr := ⟨wr, rfl⟩
      obtain ⟨W1, hW1⟩ := hw1
      subst hW1
      go_wp2_with (fail)
      have hJ0 : JInv W1 W1.heap.size sx sy cl s.segs 0 (.slice none 0 0) (W1.alloc (.cells #[.int .i64 sx, .int .i64 sy, .slice none 0 0, .bool cl] 101)).drew :=
        ⟨(Blk.new _ _ _).drew, World.ownsRow_nil _ _ _ _, ((Below.refl _ W1).alloc (Nat.le_refl _) _).drew⟩
      have HJ0 := Lib.hid hJ0
      have hgbe : ∃ gb, W1.heap.size = gb := ⟨_, rfl⟩
      obtain ⟨gb, hgb⟩ := hgbe
      rw [hgb] at HJ0 ⊢
      clear hJ0
      have HGB := Lib.hid hgb
      have lwb : gs < gb := by omega
      have LW := Lib.hid lw
      clear hgb lw
      go_loopw [6] (fun u w2 => ∃ (j : Nat) (v5 : Value), j ≤ S ∧ u = .int .i64 j ∧ Hid (JInv W1 gb sx sy cl s.segs j v5 w2)) (fun u _ => S - (intOf u).toNat)
      case atStart => exact ⟨0, _, by omega, rfl, HJ0⟩
      case round =>
        obtain ⟨j, v5, hj, rfl, HJ⟩ := hrel
        have hbB : Below gb W1 wr := by rw [← HGB.out]; exact HJ.out.below
        have d2 := (hbB.cell (p := ⟨gs, k * 4 + 2, none⟩) lwb).trans c2
        have lgr : gs < wr.heap.size := by have := HJ.out.box.lt; omega
        obtain ⟨x1, x2, x3⟩ := HJ.out.box.all
        obtain ⟨a5, n5, c5, h5⟩ : ∃ a n c, v5 = .slice a n c := by
          rcases Go.Joins.ownsRow_forms HJ.out.own with ⟨h1, h2⟩ | ⟨g, cap, h⟩
          · exact ⟨_, _, _, h1⟩
          · exact ⟨_, _, _, h⟩
        subst h5
        by_cases hjs : j < S
        · have hdj : decide (j < S) = true := by simp [hjs]
          obtain ⟨a, haj⟩ : ∃ a, s.segs[j]? = some a := ⟨_, List.getElem?_eq_getElem (by rw [HSS.out]; exact hjs)⟩
          obtain ⟨bb, oo, cc, hvv, lbb, hcc, hcl'⟩ : ∃ b o c, Value.slice av' S cv' = .slice (some ⟨b, o, none⟩) S c ∧ b < wr.heap.size ∧ S ≤ c ∧ ∀ (i : Nat) (s' : En), s.segs[i]? = some s' → ∀ j, j < 9 → wr.cell? ⟨b, o + i * 9 + j, none⟩ = some (.int .i64 (s' j)) := by
            have h0 := (HSG.out.below HI.out.below).below HJ.out.below
            rcases h0 with ⟨h1, h2⟩ | h
            · rw [h2] at haj; simp at haj
            · rw [HSS.out] at h; exact h
          simp only [Value.slice.injEq, true_and] at hvv
          obtain ⟨rfl, rfl⟩ := hvv
          have hcs := hcl' j a haj
          have j0 := hcs 0 (by omega)
          have j1 := hcs 1 (by omega)
          have j2 := hcs 2 (by omega)
          have j3 := hcs 3 (by omega)
          have j4 := hcs 4 (by omega)
          have j5 := hcs 5 (by omega)
          have j6 := hcs 6 (by omega)
          have j7 := hcs 7 (by omega)
          have j8 := hcs 8 (by omega)
          simp only [Nat.add_zero] at j0
          have htk : flE (s.segs.take (j + 1)) = flE (s.segs.take j) ++ flE [a] := by rw [List.take_add_one, haj, flE_app]; rfl
          have HTK := Lib.hid htk
          have how := HJ.out.own
          have HOW := Lib.hid how
          have szb : gb + 1 ≤ wr.heap.size := HJ.out.box.lt
          clear hcs hcl' htk haj how hbB
          go_wp2_with (fail)
          refine wp_region_one [0, 1, 2, 3, 4, 5, 6, 7, 8, 9] 10 [11, 12, 13] (fun g => .slice (some ⟨g, 0, none⟩) 1 1) (.cells #[.int .i64 (a 0), .int .i64 (a 1), .int .i64 (a 2), .int .i64 (a 3), .int .i64 (a 4), .int .i64 (a 5), .int .i64 (a 6), .int .i64 (a 7), .int .i64 (a 8)] 33) (by kernel_rfl) (by kernel_rfl) (by kernel_rfl) (by kernel_rfl) (by kernel_rfl) (noInit_of (by kernel_rfl)) (fun y => ?_)
          simp only [pick, List.getElem?_cons_zero, List.getElem?_cons_succ]
          repeat (go_big_quiet_step ((first | fail)))
          refine wpQuiet_nil ?_
          refine ⟨(by intro o ho; obtain rfl := Option.some.inj ho; refine ⟨rfl, fun wc => ?_⟩; simp [execOp, go_sem]; done), ?_⟩
          intro gz z hgz hz
          simp only [dstOf, List.getElem?_toArray, List.getElem?_cons_succ, List.getElem?_cons_zero, Option.bind_some, Act.put, List.setIfInBounds_toArray, List.set_cons_succ, List.set_cons_zero]
          have bgz : Blk z.out gz 33 (flE [a]).toArray := hz
          have HGZ := Lib.hid bgz
          clear hz bgz
          refine wpListIn_append_at _ rfl _ _ 99 rfl (gb + 1) 33 i1 (.agg #[.int .i64 0, .int .i64 0, .int .i64 0, .int .i64 0, .int .i64 0, .int .i64 0, .int .i64 0, .int .i64 0, .int .i64 0]) 9 by1 Try.underlying99 hi1 hy0 hy1 hy2 rfl (by decide) (.slice a5 n5 c5) j (flE (s.segs.take j)) rfl (own_later HOW.out z) ⟨gz, 0, none⟩ 1 1 (flE [a]) rfl rfl (blk_at HGZ.out) (flE_one _) (by unfold maxLen; omega) (Nat.le_trans (Nat.mul_le_mul (show j + 1 ≤ 1001 by omega) hy3) (by omega)) (by have := z.size_le; omega) ?_
          intro vo w4 hown hgrow hlies
          obtain ⟨g4, c4, rfl⟩ := Go.Joins.ownsRow_form hown (by omega)
          have hr4 : ∀ r, (Value.slice a5 n5 c5).ownBlock = some r → gb + 1 ≤ r := fun r hr => (HOW.out.lt r hr).1
          have k4 := (HJ.out.box.later z).grown (N := gb + 1) hgrow hr4 (by omega)
          obtain ⟨y1, y2, y3⟩ := k4.all
          have b4 : Below W1.heap.size W1 w4 := Below.grown (HJ.out.below.trans (z.below.mono HJ.out.below.size)) hgrow (by have := z.size_le; rw [HGB.out]; omega) (fun r hr => by have := hr4 r hr; rw [HGB.out]; omega)
          have K4 := Lib.hid k4
          have HO4 := Lib.hid hown
          have B4 := Lib.hid b4
          clear k4 hown hgrow hlies b4 hr4
          gi_wp2_with (fail)
          go_wp2_with (fail)
          go_roundw
          case rel => exact ⟨j + 1, .slice (some ⟨g4, 0, none⟩) (j + 1) c4, by omega, by go_num, Lib.hid ⟨(K4.out.set 2 _).eq (by simp), by rw [HTK.out]; exact Go.ownsRow_setCell_other HO4.out (fun e => by have := (HO4.out.lt _ e).1; simp at this; omega) _, Below.setCell B4.out (by show W1.heap.size ≤ gb; rw [HGB.out]; exact Nat.le_refl _) _⟩⟩
          case measure => simp [intOf]; omega
        · obtain rfl : j = S := by omega
          have hdj : decide (j < j) = false := by simp
          have hrow := HJ.out.own
          rw [List.take_of_length_le (by rw [HSS.out]; exact Nat.le_refl _)] at hrow
          have HROW := Lib.hid hrow
          have how := own_later HI.out.subs.own ⟨wr, HJ.out.below⟩
          simp only [] at how
          rw [HKR.out] at how
          have HOW := Lib.hid how
          have szb : W.heap.size ≤ wr.heap.size := by have := HI.out.below.size; have := HJ.out.below.size; omega
          clear hrow how hbB
          go_wp2_with (at_builtin; refine wpList_append_at _ rfl _ _ 69 rfl W.heap.size 101 i0 (.agg #[.int .i64 0, .int .i64 0, .slice none 0 0, .bool false]) 4 by0 Try.underlying69 hi0 hz0 hz1 hz2 rfl (by decide) u3 k (subsV L') rfl (HOW.out.alloc _) ⟨wr.heap.size, 0, none⟩ 1 1 (subV ⟨(sx, sy), s.segs, cl⟩ (.slice a5 n5 c5)) rfl rfl (blk_at (Blk.new' rfl)) (fun u hu => by simp only [subV, List.mem_cons, List.not_mem_nil, or_false] at hu; rcases hu with rfl | rfl | rfl | rfl <;> rfl) (by unfold maxLen; omega) (Nat.le_trans (Nat.mul_le_mul (show k + 1 ≤ 1001 by omega) hz3) (by omega)) (by simp only [World.size_alloc]; omega) ?_; intro vo w4 hown hgrow hlies; have HO4 := Lib.hid hown; have HG4 := Lib.hid hgrow; clear hown hgrow hlies)
          have bx : Below W.heap.size W wr := HI.out.below.trans (HJ.out.below.mono HI.out.below.size)
          have hy : Below W1.heap.size W1 (wr.alloc (.cells #[.int .i64 sx, .int .i64 sy, .slice a5 n5 c5, .bool cl] 101)) := HJ.out.below.alloc HJ.out.below.size _
          have hpush := RSubs.push (HI.out.subs.later ⟨_, hy⟩) (s, .slice a5 n5 c5) (by show World.ownsRow _ _ _ _ _ s.segs.length _; rw [HSS.out]; exact own_base (HROW.out.alloc _) (by have := HI.out.below.size; have := HGB.out; omega)) (by rw [HKR.out]; simp only []; rw [HST.out]; exact HO4.out) HG4.out
          have b4 : Below W.heap.size W w4 := Below.grown (bx.alloc szb _) HG4.out (by simp only [World.size_alloc]; omega) (fun r hr => (HOW.out.lt r hr).1)
          go_roundw
          case rel => exact ⟨k + 1, _, by omega, by go_num, Lib.hid ⟨hpush, by rw [List.map_append, HI.out.res, HRES.out]; rfl, b4⟩⟩
          case measure => simp [intOf]; omega
    · obtain rfl : k = N := by omega
      have hd : decide (k < k) = false := by simp
      have hres := HI.out.res
      rw [List.take_of_length_le (by rw [HN.out]; exact Nat.le_refl _)] at hres
      have HRES := Lib.hid hres
      clear hres
      go_wp2_with (fail)
      exact bodyPost_ret (v := u3) (by simp [results, Try.results31, go_sem, *]) rfl ⟨u3, L', rfl, HI.out.subs, HRES.out, Later.mk_of HI.out.below⟩
end Go.Proofs.Ytcdnekhpeghkiaa

/-
  The reference's chain of a subpath: walked.
-/
namespace Go.Proofs.Ytcdnekhpeghkiaa
set_option linter.unusedVariables false
open Go.RowKit

structure QInv (w : World) (p : Int × Int) (v : Value) (cl : Bool) (o : Value) (out : List (Int × Int)) (W : World) : Prop where
  own : W.ownsRow (w.heap.size + 2) 23 2 o out.length (fl out)
  form : ∃ g c, o = .slice (some ⟨g, 0, none⟩) out.length c
  c3 : Blk W (w.heap.size + 3) 97 #[o, .bool cl]
  box : Blk W w.heap.size 101 #[.int .i64 p.1, .int .i64 p.2, v, .bool cl]
  box1 : Blk W (w.heap.size + 1) 97 #[.slice none 0 0, .bool false]
  below : Below w.heap.size w W
  size : w.heap.size + 4 ≤ W.heap.size
theorem own_neB {W : World} {base size n : Nat} {e T : TypeId} {v : Value} {xs : List Value} {b : Nat} {c : Array Value} (h : W.ownsRow base e size v n xs) (hb : Blk W b T c) (hne : T ≠ e) : v.ownBlock ≠ some b := by
  rcases h.2 with ⟨rfl, _⟩ | ⟨g, cap, cur, rfl, _, hg, _⟩
  · intro k; cases k
  · intro k
    simp only [Value.ownBlock, Option.some.injEq] at k
    subst k
    unfold Blk at hb
    rw [hg] at hb
    simp only [Option.some.injEq, Obj.cells.injEq] at hb
    exact hne hb.2.1.symm
theorem chB_ne : (97 : TypeId) ≠ 23 := by decide
/-- the chain's row grows, and is written into its box -/
theorem QInv.grow {w W W' : World} {p : Int × Int} {v : Value} {cl : Bool} {o : Value} {out : List (Int × Int)} {b : Int × Int} {g c : Nat} (h : QInv w p v cl o out W)
    (ho : W'.ownsRow (w.heap.size + 2) 23 2 (.slice (some ⟨g, 0, none⟩) (out.length + 1) c) (out.length + 1) (fl out ++ fl [b])) (hg : W.grownBy W' o.ownBlock) :
    QInv w p v cl (.slice (some ⟨g, 0, none⟩) (out.length + 1) c) (out ++ [b]) (W'.setCell ⟨w.heap.size + 3, 0, none⟩ (.slice (some ⟨g, 0, none⟩) (out.length + 1) c)) := by
  have hr : ∀ r, o.ownBlock = some r → w.heap.size + 2 ≤ r := fun r hr => (h.own.lt r hr).1
  have hc3 : Blk W' (w.heap.size + 3) 97 #[o, .bool cl] := (hg.block (w.heap.size + 3) h.c3.lt (fun e => own_neB h.own h.c3 chB_ne e.symm)).trans h.c3
  have ne := own_neB ho hc3 chB_ne
  have hb : Below w.heap.size w W' := Below.grown h.below hg h.below.size (fun r k => by have := hr r k; omega)
  have b1 := h.box.grown hg hr (by omega)
  have b2 := h.box1.grown hg hr (by omega)
  exact
    { own := by
        rw [List.length_append, fl_append]
        exact Go.ownsRow_setCell_other ho ne _
      form := ⟨g, c, by simp⟩
      c3 := (hc3.set 0 _).eq (by simp)
      box := b1.other _ _ (by omega)
      box1 := b2.other _ _ (by omega)
      below := Below.setCell hb (by show w.heap.size ≤ w.heap.size + 3; omega) _
      size := by have := hg.size; have := h.size; simp only [World.size_setCell]; omega }
theorem QInv.later {w W : World} {p : Int × Int} {v : Value} {cl : Bool} {o : Value} {out : List (Int × Int)} (h : QInv w p v cl o out W) (x : Later W) : QInv w p v cl o out x.out :=
  ⟨own_later h.own x, h.form, h.c3.later x, h.box.later x, h.box1.later x, h.below.trans (x.below.mono h.below.size), Nat.le_trans h.size x.size_le⟩
structure RInv (w : World) (p : Int × Int) (v : Value) (cl : Bool) (g2 nL cap2 : Nat) (l : List (Int × Int)) (o : Value) (out : List (Int × Int)) (W : World) : Prop where
  q : QInv w p v cl o out W
  row : W.ownsRow (w.heap.size + 4) 23 2 (.slice (some ⟨g2, 0, none⟩) nL cap2) nL (fl l)
  ne : o.ownBlock ≠ some g2


set_option maxRecDepth 100000 in
set_option maxHeartbeats 4000000 in
theorem rchainOf_c (w : World) (p : Int × Int) (segs : List En) (v : Value) (cl : Bool) (t : Int) (t0 : 0 ≤ t) (t9 : t ≤ 1073741824) (hv : SegsAt w v segs) (hm : segs.length ≤ 1000) (hg : ∀ s ∈ segs, GoodE s ∧ s 9 = 0) :
    Calls Try.prog 49 #[.agg #[.int .i64 p.1, .int .i64 p.2, v, .bool cl], .int .i64 t] w (ORet w cl (chn cl (chL t p segs))) := by
  have HV := Lib.hid hv
  have HG := Lib.hid hg
  clear hg
  obtain ⟨av, cv, rfl⟩ : ∃ a c, v = .slice a segs.length c := by
    rcases hv with ⟨rfl, rfl⟩ | ⟨b, o, c, rfl, _⟩ <;> exact ⟨_, _, rfl⟩
  clear hv
  generalize hM : segs.length = M at *
  have HM := Lib.hid hM
  clear hM
  go_enter Try.func49, Try.ntmps49
  go_wp2_with (fail)
  obtain ⟨i0, hi0, hz0, hz1, hz2⟩ := infoPt
  go_loopw [6] (fun u wr => ∃ (k : Nat) (o : Value) (out : List (Int × Int)), k ≤ M ∧ u = .int .i64 k ∧ out = cpt (chL t p (segs.take k)) ∧ out.length ≤ 1 + 1024 * k ∧ Hid (QInv w p (.slice av M cv) cl o out wr)) (fun u _ => M - (intOf u).toNat)
  case atStart =>
    refine ⟨0, .slice (some ⟨w.heap.size + 2, 0, none⟩) 1 1, [p], by omega, rfl, by simp [chL, cpt], by simp, Lib.hid ⟨(own_one w p ((w.alloc (.cells #[.int .i64 p.1, .int .i64 p.2, .slice av M cv, .bool cl] 101)).alloc (.cells #[.slice none 0 0, .bool false] 97)) (w.heap.size + 2) _ (by simp) (by simp)).alloc _, ⟨_, _, rfl⟩, Blk.new' (by simp), (by repeat (first | (with_reducible assumption) | (with_reducible refine Blk.later ?_ _) | (with_reducible refine Blk.drew ?_) | ((with_reducible refine Blk.new' ?_); (simp; done)) | (with_reducible refine Blk.alloc ?_ _))), (((Blk.new' (by simp)).alloc _).alloc _), (by repeat (first | (with_reducible assumption) | (with_reducible exact Below.refl _ _) | (with_reducible refine Later.after ?_ _) | (with_reducible refine Later.newer ?_ _) | (with_reducible refine Below.drew ?_) | (with_reducible refine Below.setCell ?_ (by first | exact Nat.le_refl _ | exact Nat.le_add_right _ _ | omega | (simp [go_sem]; done) | (simp [go_sem]; omega)) _))), by simp⟩⟩
  case round =>
    obtain ⟨k, o, out, hk, rfl, hres, hmost, HI⟩ := hrel
    by_cases hlt : k < M
    · obtain ⟨s, hs⟩ : ∃ s, segs[k]? = some s := ⟨_, List.getElem?_eq_getElem (by rw [HM.out]; exact hlt)⟩
      obtain ⟨b, off, c, hvv, hbw, hle, hcell⟩ : ∃ b o c, Value.slice av M cv = .slice (some ⟨b, o, none⟩) M c ∧ b < w.heap.size ∧ M ≤ c ∧ ∀ (i : Nat) (s : En), segs[i]? = some s → ∀ j, j < 9 → w.cell? ⟨b, o + i * 9 + j, none⟩ = some (.int .i64 (s j)) := by
        rcases HV.out with ⟨h, e⟩ | h
        · rw [e] at hs; simp at hs
        · rw [HM.out] at h; exact h
      simp only [Value.slice.injEq, true_and] at hvv
      obtain ⟨rfl, rfl⟩ := hvv
      obtain ⟨g, g9⟩ := HG.out s (List.mem_of_getElem? hs)
      have hcs := fun j hj => (HI.out.below.cell (p := ⟨b, off + k * 9 + j, none⟩) hbw).trans (hcell k s hs j hj)
      have f0 := hcs 0 (by omega)
      have f1 := hcs 1 (by omega)
      have f2 := hcs 2 (by omega)
      have f3 := hcs 3 (by omega)
      have f4 := hcs 4 (by omega)
      have f5 := hcs 5 (by omega)
      have f6 := hcs 6 (by omega)
      have f7 := hcs 7 (by omega)
      have f8 := hcs 8 (by omega)
      simp only [Nat.add_zero] at f0
      have hp := fun v => rPoints_E s g g9 t t0 v
      have hl := flat_len t s g
      have eout : chL t p (segs.take (k + 1)) = chL t p (segs.take k) ++ (flat t).all s := by
        unfold chL
        rw [List.take_add_one, hs]
        simp
      generalize hL : (flat t).all s = lp at *
      obtain ⟨nL, hnL⟩ : ∃ nL, lp.length = nL := ⟨_, rfl⟩
      rw [hnL] at hp hl
      have lbw : b < wr.heap.size := Nat.lt_of_lt_of_le hbw HI.out.below.size
      have hple : chL t p (segs.take k) ≠ [] := chL_ne _ _ _
      generalize chL t p (segs.take k) = pl at *
      obtain ⟨cb, zb, lb⟩ := HI.out.box.all
      obtain ⟨l1, l2⟩ := hl
      have HE := Lib.hid eout
      have HP := Lib.hid hp
      have HNL := Lib.hid hnL
      have HPL := Lib.hid hple
      have HRES := Lib.hid hres
      clear eout hp hL hs hcs hcell hle g g9 hnL hple hres
      have hd : decide (k < M) = true := by simp [hlt]
      go_wp2_with (first | (go_at_call 15; (with_reducible refine (HP.out _).mono ?_); intro _ _ hsr; obtain ⟨o2, rfl, own2, x1, rfl⟩ := hsr; obtain ⟨g2, cap2, rfl⟩ := Go.Joins.ownsRow_form own2 (by omega); have H2 := Lib.hid own2; clear own2))
      have hR0 : RInv w p (.slice (some ⟨b, off, none⟩) M cv) cl g2 nL cap2 lp o out x1.out := ⟨HI.out.later x1, own_base H2.out HI.out.size, fun e => by
        have h1 := (HI.out.own.lt g2 e).2
        have h2 := (H2.out.lt g2 rfl).1
        omega⟩
      have HR0 := Lib.hid hR0
      clear hR0
      go_loopw [8] (fun u wr => ∃ (j : Nat) (o : Value) (out : List (Int × Int)), j ≤ nL ∧ u = .int .i64 j ∧ out = cpt (pl ++ lp.take j) ∧ out.length ≤ 1 + 1024 * k + j ∧ Hid (RInv w p (.slice (some ⟨b, off, none⟩) M cv) cl g2 nL cap2 lp o out wr)) (fun u _ => nL - (intOf u).toNat)
      case atStart => exact ⟨0, o, out, by omega, rfl, by simpa using HRES.out, by omega, HR0⟩
      case round =>
        clear HI HR0 cb zb lb f0 f1 f2 f3 f4 f5 f6 f7 f8 HRES hmost
        obtain ⟨j, o, out, hj, rfl, hres2, hmost2, HI2⟩ := hrel
        by_cases hjl : j < nL
        · have hdj : decide (j < nL) = true := by simp [hjl]
          obtain ⟨⟨x0, y0⟩, hlj⟩ : ∃ q, lp[j]? = some q := ⟨_, List.getElem?_eq_getElem (by rw [HNL.out]; exact hjl)⟩
          have hone : 1 ≤ out.length := by rw [hres2]; exact cpt_len1 _ (by intro e; exact HPL.out (List.append_eq_nil_iff.1 e).1)
          obtain ⟨m, hm⟩ : ∃ m, out.length = m + 1 := ⟨out.length - 1, by omega⟩
          obtain ⟨m1, hm1⟩ : ∃ m1, m1 = m + 1 := ⟨_, rfl⟩
          have hln : out.length = m1 := by omega
          obtain ⟨go, co, ho⟩ := HI2.out.q.form
          rw [hln] at ho
          subst ho
          obtain ⟨⟨lx, ly⟩, hlm⟩ : ∃ q, out[m]? = some q := ⟨_, List.getElem?_eq_getElem (by omega)⟩
          have how := HI2.out.q.own
          rw [hln] at how
          obtain ⟨r2, r3⟩ := own_ptsIn0 how m _ hlm
          obtain ⟨r0, r1⟩ := own_ptsIn0 HI2.out.row j _ hlj
          simp only [] at r0 r1 r2 r3
          have lgo := (how.lt go rfl).2
          have lg2 := (HI2.out.row.lt g2 rfl).2
          obtain ⟨c3a, c3b, c3l⟩ := HI2.out.q.c3.all
          have hlast : (pl ++ lp.take j).getLast? = some (lx, ly) := by
            rw [← cpt_last, ← hres2, List.getLast?_eq_getElem?, hm]; simpa using hlm
          have hstep : cpt (pl ++ lp.take (j + 1)) = if (lx, ly) = (x0, y0) then cpt (pl ++ lp.take j) else cpt (pl ++ lp.take j) ++ [(x0, y0)] := by
            rw [List.take_add_one, hlj]
            show cpt (pl ++ (lp.take j ++ [(x0, y0)])) = _
            rw [← List.append_assoc]
            exact cpt_snoc _ _ _ hlast
          have m9 : m1 ≤ 2000000 := by omega
          have mp : 0 < m1 := by omega
          have mM : m < m1 := by omega
          have d1 : IntKind.i64.wrap ((m1 : Int) - 1) = (m : Int) := by rw [IntWalk.i64_in _ (by omega)]; omega
          have d2 : wrap64 ((m1 : Int) - 1) = (m : Int) := by unfold wrap64; omega
          have d3 : (m1 : Int) - 1 = (m : Int) := by omega
          have m0' : (0 : Int) ≤ m := by omega
          have HSTEP := Lib.hid hstep
          have HRES2 := Lib.hid hres2
          have HLN := Lib.hid hln
          have HLJ := Lib.hid hlj
          have HMOST := Lib.hid hmost2
          clear hstep hres2 hln hlj hlast hm hm1 hone hlm how
          by_cases ex : x0 = lx
          · by_cases ey : y0 = ly
            · subst ex
              subst ey
              go_wp2_with (fail)
              refine wp_region_later (by kernel_rfl) (by kernel_rfl) ?_
              repeat (go_big_quiet_step ((first | fail)))
              refine wpQuiet_nil ?_
              intro x
              have hI3 : RInv w p (.slice (some ⟨b, off, none⟩) M cv) cl g2 nL cap2 lp (.slice (some ⟨go, 0, none⟩) m1 co) out x.out := ⟨HI2.out.q.later x, own_later HI2.out.row x, HI2.out.ne⟩
              have HI3 := Lib.hid hI3
              clear hI3
              go_wp2_with (fail)
              go_roundw
              case rel => exact ⟨j + 1, _, out, by omega, by go_num, HRES2.out.trans (by rw [HSTEP.out]; simp), by omega, HI3⟩
              case measure => simp [intOf]; omega
            · have ey' : (y0 == ly) = false := by simp [ey]
              have hen : ¬ ((lx, ly) = (x0, y0)) := fun e => ey (congrArg Prod.snd e).symm
              subst ex
              have HEN := Lib.hid hen
              clear ey hen
              go_wp2_with (fail)
              refine wp_region_later (by kernel_rfl) (by kernel_rfl) ?_
              repeat (go_big_quiet_step ((first | fail)))
              refine wpQuiet_nil ?_
              intro x
              have hI3 : RInv w p (.slice (some ⟨b, off, none⟩) M cv) cl g2 nL cap2 lp (.slice (some ⟨go, 0, none⟩) m1 co) out x.out := ⟨HI2.out.q.later x, own_later HI2.out.row x, HI2.out.ne⟩
              have HI3 := Lib.hid hI3
              clear hI3
              go_wp2_with (fail)
              have how := HI3.out.q.own
              rw [HLN.out] at how
              have hpj := own_ptsIn0 HI3.out.row j _ HLJ.out
              clear c3a c3b c3l r0 r1 r2 r3 lgo lg2
              have lgo := (how.lt go rfl).2
              have lg2 := (HI3.out.row.lt g2 rfl).2
              obtain ⟨c3a, c3b, c3l⟩ := HI3.out.q.c3.all
              obtain ⟨r0, r1⟩ := hpj
              simp only [] at r0 r1
              have sz9 := HI3.out.q.size
              have HOW := Lib.hid how
              clear how
              generalize x.out = W9 at *
              refine wp_region_one [0, 1, 2, 3, 4, 5] 6 [7, 8, 9] (fun g => .slice (some ⟨g, 0, none⟩) 1 1) (.cells #[.int .i64 x0, .int .i64 y0] 23) (by kernel_rfl) (by kernel_rfl) (by kernel_rfl) (by kernel_rfl) (by kernel_rfl) (noInit_of (by kernel_rfl)) (fun y => ?_)
              simp only [pick, List.getElem?_cons_zero, List.getElem?_cons_succ]
              repeat (go_big_quiet_step ((first | fail)))
              refine wpQuiet_nil ?_
              refine ⟨(by intro o ho; obtain rfl := Option.some.inj ho; refine ⟨rfl, fun wc => ?_⟩; simp [execOp, go_sem]; done), ?_⟩
              intro gz z hgz hz
              simp only [dstOf, List.getElem?_toArray, List.getElem?_cons_succ, List.getElem?_cons_zero, Option.bind_some, Act.put, List.setIfInBounds_toArray, List.set_cons_succ, List.set_cons_zero]
              have bgz : Blk z.out gz 23 (fl [(x0, y0)]).toArray := hz
              have HGZ := Lib.hid bgz
              clear hz bgz c3a c3b
              refine wpListIn_append_at _ rfl _ _ 30 rfl (w.heap.size + 2) 23 i0 (.agg #[.int .i64 0, .int .i64 0]) 2 16 Try.underlying30 hi0 hz0 hz1 hz2 rfl (by decide) (.slice (some ⟨go, 0, none⟩) m1 co) m1 (fl out) rfl (own_later HOW.out z) ⟨gz, 0, none⟩ 1 1 (fl [(x0, y0)]) rfl rfl (blk_at HGZ.out) (fun x hx => fl_one [(x0, y0)] x hx) (by unfold maxLen; omega) (by omega) (by have := z.size_le; omega) ?_
              intro vo w4 hown hgrow hlies
              obtain ⟨g4, c4, rfl⟩ := Go.Joins.ownsRow_form hown (by omega)
              have hc3 : Blk w4 (w.heap.size + 3) 97 #[.slice (some ⟨go, 0, none⟩) m1 co, .bool cl] := (hgrow.block (w.heap.size + 3) (HI3.out.q.c3.later z).lt (fun e => own_neB (own_later HOW.out z) (HI3.out.q.c3.later z) chB_ne e.symm)).trans (HI3.out.q.c3.later z)
              obtain ⟨q1, q2, q3⟩ := hc3.all
              have hrow := (own_later HI3.out.row z).kept hgrow (.inr (fun e => HI3.out.ne e.symm))
              have hne : (Value.slice (some ⟨g4, 0, none⟩) (m1 + 1) c4).ownBlock ≠ some g2 := by
                rcases hlies with h | h
                · rw [h]; exact HI3.out.ne
                · rw [h]; have := (HI3.out.row.lt g2 rfl).2; have := z.size_le; simp only [ne_eq, Option.some.injEq]; omega
              have nb := own_neB hrow hc3 chB_ne
              have hq := QInv.grow (b := (x0, y0)) (HI3.out.q.later z) (by rw [HLN.out]; exact hown) hgrow
              rw [HLN.out] at hq
              have HQ := Lib.hid hq
              have HROW := Lib.hid hrow
              have HNE := Lib.hid hne
              have HNB := Lib.hid nb
              clear hown hgrow hlies hc3 hrow hne nb hq
              gi_wp2_with (fail)
              go_wp2_with (fail)
              go_roundw
              case rel => exact ⟨j + 1, _, out ++ [(x0, y0)], by omega, by go_num, (congrArg (fun q => q ++ [(x0, y0)]) HRES2.out).trans (by rw [HSTEP.out, if_neg HEN.out]), by have := HLN.out; simp; omega, Lib.hid ⟨HQ.out, Go.ownsRow_setCell_other HROW.out HNB.out _, HNE.out⟩⟩
              case measure => simp [intOf]; omega
          · have ex' : (x0 == lx) = false := by simp [ex]
            have hen : ¬ ((lx, ly) = (x0, y0)) := fun e => ex (congrArg Prod.fst e).symm
            have HEN := Lib.hid hen
            clear ex hen
            go_wp2_with (fail)
            refine wp_region_later (by kernel_rfl) (by kernel_rfl) ?_
            repeat (go_big_quiet_step ((first | fail)))
            refine wpQuiet_nil ?_
            intro x
            have hI3 : RInv w p (.slice (some ⟨b, off, none⟩) M cv) cl g2 nL cap2 lp (.slice (some ⟨go, 0, none⟩) m1 co) out x.out := ⟨HI2.out.q.later x, own_later HI2.out.row x, HI2.out.ne⟩
            have HI3 := Lib.hid hI3
            clear hI3
            go_wp2_with (fail)
            have how := HI3.out.q.own
            rw [HLN.out] at how
            have hpj := own_ptsIn0 HI3.out.row j _ HLJ.out
            clear c3a c3b c3l r0 r1 r2 r3 lgo lg2
            have lgo := (how.lt go rfl).2
            have lg2 := (HI3.out.row.lt g2 rfl).2
            obtain ⟨c3a, c3b, c3l⟩ := HI3.out.q.c3.all
            obtain ⟨r0, r1⟩ := hpj
            simp only [] at r0 r1
            have sz9 := HI3.out.q.size
            have HOW := Lib.hid how
            clear how
            generalize x.out = W9 at *
            refine wp_region_one [0, 1, 2, 3, 4, 5] 6 [7, 8, 9] (fun g => .slice (some ⟨g, 0, none⟩) 1 1) (.cells #[.int .i64 x0, .int .i64 y0] 23) (by kernel_rfl) (by kernel_rfl) (by kernel_rfl) (by kernel_rfl) (by kernel_rfl) (noInit_of (by kernel_rfl)) (fun y => ?_)
            simp only [pick, List.getElem?_cons_zero, List.getElem?_cons_succ]
            repeat (go_big_quiet_step ((first | fail)))
            refine wpQuiet_nil ?_
            refine ⟨(by intro o ho; obtain rfl := Option.some.inj ho; refine ⟨rfl, fun wc => ?_⟩; simp [execOp, go_sem]; done), ?_⟩
            intro gz z hgz hz
            simp only [dstOf, List.getElem?_toArray, List.getElem?_cons_succ, List.getElem?_cons_zero, Option.bind_some, Act.put, List.setIfInBounds_toArray, List.set_cons_succ, List.set_cons_zero]
            have bgz : Blk z.out gz 23 (fl [(x0, y0)]).toArray := hz
            have HGZ := Lib.hid bgz
            clear hz bgz c3a c3b
            refine wpListIn_append_at _ rfl _ _ 30 rfl (w.heap.size + 2) 23 i0 (.agg #[.int .i64 0, .int .i64 0]) 2 16 Try.underlying30 hi0 hz0 hz1 hz2 rfl (by decide) (.slice (some ⟨go, 0, none⟩) m1 co) m1 (fl out) rfl (own_later HOW.out z) ⟨gz, 0, none⟩ 1 1 (fl [(x0, y0)]) rfl rfl (blk_at HGZ.out) (fun x hx => fl_one [(x0, y0)] x hx) (by unfold maxLen; omega) (by omega) (by have := z.size_le; omega) ?_
            intro vo w4 hown hgrow hlies
            obtain ⟨g4, c4, rfl⟩ := Go.Joins.ownsRow_form hown (by omega)
            have hc3 : Blk w4 (w.heap.size + 3) 97 #[.slice (some ⟨go, 0, none⟩) m1 co, .bool cl] := (hgrow.block (w.heap.size + 3) (HI3.out.q.c3.later z).lt (fun e => own_neB (own_later HOW.out z) (HI3.out.q.c3.later z) chB_ne e.symm)).trans (HI3.out.q.c3.later z)
            obtain ⟨q1, q2, q3⟩ := hc3.all
            have hrow := (own_later HI3.out.row z).kept hgrow (.inr (fun e => HI3.out.ne e.symm))
            have hne : (Value.slice (some ⟨g4, 0, none⟩) (m1 + 1) c4).ownBlock ≠ some g2 := by
              rcases hlies with h | h
              · rw [h]; exact HI3.out.ne
              · rw [h]; have := (HI3.out.row.lt g2 rfl).2; have := z.size_le; simp only [ne_eq, Option.some.injEq]; omega
            have nb := own_neB hrow hc3 chB_ne
            have hq := QInv.grow (b := (x0, y0)) (HI3.out.q.later z) (by rw [HLN.out]; exact hown) hgrow
            rw [HLN.out] at hq
            have HQ := Lib.hid hq
            have HROW := Lib.hid hrow
            have HNE := Lib.hid hne
            have HNB := Lib.hid nb
            clear hown hgrow hlies hc3 hrow hne nb hq
            gi_wp2_with (fail)
            go_wp2_with (fail)
            go_roundw
            case rel => exact ⟨j + 1, _, out ++ [(x0, y0)], by omega, by go_num, (congrArg (fun q => q ++ [(x0, y0)]) HRES2.out).trans (by rw [HSTEP.out, if_neg HEN.out]), by have := HLN.out; simp; omega, Lib.hid ⟨HQ.out, Go.ownsRow_setCell_other HROW.out HNB.out _, HNE.out⟩⟩
            case measure => simp [intOf]; omega
        · obtain rfl : j = nL := by omega
          have hdj : decide (j < j) = false := by simp
          have hfin : out = cpt (chL t p (segs.take (k + 1))) := by
            rw [HE.out, hres2, List.take_of_length_le (by rw [HNL.out]; exact Nat.le_refl _)]
          have HFIN := Lib.hid hfin
          clear hfin hres2
          go_wp2_with (fail)
          go_roundw
          case rel => exact ⟨k + 1, o, out, by omega, by go_num, HFIN.out, by omega, Lib.hid HI2.out.q⟩
          case measure => simp [intOf]; omega
    · obtain rfl : k = M := by omega
      have hd : decide (k < k) = false := by simp
      rw [List.take_of_length_le (by rw [HM.out]; exact Nat.le_refl _)] at hres
      have hlc : chL t p segs ≠ [] := chL_ne _ _ _
      generalize chL t p segs = lc at *
      have hone : 1 ≤ out.length := by rw [hres]; exact cpt_len1 _ hlc
      obtain ⟨m, hm⟩ : ∃ m, out.length = m + 1 := ⟨out.length - 1, by omega⟩
      obtain ⟨m1, hm1⟩ : ∃ m1, m1 = m + 1 := ⟨_, rfl⟩
      have hln : out.length = m1 := by omega
      obtain ⟨go, co, ho⟩ := HI.out.form
      rw [hln] at ho
      subst ho
      obtain ⟨⟨x0, y0⟩, e0⟩ : ∃ q, out[0]? = some q := ⟨_, List.getElem?_eq_getElem (by omega)⟩
      obtain ⟨⟨x9, y9⟩, e9⟩ : ∃ q, out[m]? = some q := ⟨_, List.getElem?_eq_getElem (by omega)⟩
      have ehd : out.head? = some (x0, y0) := by rw [List.head?_eq_getElem?]; exact e0
      have els : out.getLast? = some (x9, y9) := by rw [List.getLast?_eq_getElem?, hm]; simpa using e9
      have ech : chn cl lc = if cl && decide (0 < m) && decide ((x9, y9) = (x0, y0)) then out.take m else out := by
        unfold chn chB
        rw [← hres, ehd, els, hm]
        simp
      have how := HI.out.own
      rw [hln] at how
      have hco := own_cap how
      obtain ⟨r2, r3⟩ := own_ptsIn0 how m _ e9
      obtain ⟨r0, r1⟩ := own_ptsIn0 how 0 _ e0
      simp only [Nat.zero_mul, Nat.zero_add] at r0 r1 r2 r3
      have lgo := (how.lt go rfl).2
      obtain ⟨c3a, c3b, c3l⟩ := HI.out.c3.all
      obtain ⟨cb, zb, lb⟩ := HI.out.box.all
      obtain ⟨c1a, c1b, c1l⟩ := HI.out.box1.all
      have hna0 := own_neB how HI.out.c3 chB_ne
      have hna : ∀ n c, (Value.slice (some ⟨go, 0, none⟩) n c).ownBlock ≠ some (w.heap.size + 3) := fun n c => hna0
      have hnb0 := own_neB how HI.out.box1 chB_ne
      have hnb : ∀ n c, (Value.slice (some ⟨go, 0, none⟩) n c).ownBlock ≠ some (w.heap.size + 1) := fun n c => hnb0
      clear hna0 hnb0
      have m9 : m1 ≤ 2000000 := by omega
      have mp : 0 < m1 := by omega
      have mM : m < m1 := by omega
      have mM2 : m ≤ m1 := by omega
      have mc : m ≤ co := by omega
      have cp : (co = 0) = False := eq_false (by omega)
      have cp' : (0 = co) = False := eq_false (by omega)
      have d1 : IntKind.i64.wrap ((m1 : Int) - 1) = (m : Int) := by rw [IntWalk.i64_in _ (by omega)]; omega
      have d2 : wrap64 ((m1 : Int) - 1) = (m : Int) := by unfold wrap64; omega
      have d3 : (m1 : Int) - 1 = (m : Int) := by omega
      have m0' : (0 : Int) ≤ m := by omega
      have HM1 := Lib.hid hm1
      have HECH := Lib.hid ech
      have HLN := Lib.hid hln
      have HOW := Lib.hid how
      have HNA := Lib.hid hna
      have HNB := Lib.hid hnb
      clear ech hln how hna hnb hm hm1 hone e0 e9 ehd els hres hlc hmost hco
      cases cl
      · have HQ : Hid True := Lib.hid trivial
        go_wp2_with (fail)
        refine wp_region_later (by kernel_rfl) (by kernel_rfl) ?_
        repeat (go_big_quiet_step ((first | fail)))
        refine wpQuiet_nil ?_
        intro x
        go_wp2_with (fail)
        have hb9 := HI.out.below
        have sz9 := HI.out.size
        have eR : chn false lc = out := by rw [HECH.out]; simp [HQ.out]
        have eL : (out).length = m1 := HLN.out
        have ow : x.out.ownsRow w.heap.size 23 2 (.slice (some ⟨go, 0, none⟩) m1 co) m1 (fl (out)) := own_base (own_later HOW.out x) (by omega)
        refine bodyPost_ret (v := .agg #[.slice (some ⟨go, 0, none⟩) m1 co, .bool false]) (by simp [results, Try.results49, go_sem, *]) rfl ?_
        unfold ORet
        rw [eR, eL]
        exact ⟨go, co, rfl, (by repeat (first | exact ow | (refine Go.ownsRow_setCell_other ?_ (by first | exact HNA.out _ _ | exact HNB.out _ _) _))), Later.mk_of (by repeat (first | (with_reducible assumption) | (with_reducible exact Below.refl _ _) | (with_reducible refine Later.after ?_ _) | (with_reducible refine Later.newer ?_ _) | (with_reducible refine Below.drew ?_) | (with_reducible refine Below.setCell ?_ (by first | exact Nat.le_refl _ | exact Nat.le_add_right _ _ | omega | (simp [go_sem]; done) | (simp [go_sem]; omega)) _)))⟩
      · by_cases hm0 : m = 0
        · have q1 : decide (1 < m1) = false := by have := HM1.out; simp; omega
          have q2 : decide ((1 : Int) < m1) = false := by have := HM1.out; simp; omega
          have HQ : Hid (decide (0 < m) = false) := Lib.hid (by simp [hm0])
          clear hm0
          go_wp2_with (fail)
          refine wp_region_later (by kernel_rfl) (by kernel_rfl) ?_
          repeat (go_big_quiet_step ((first | fail)))
          refine wpQuiet_nil ?_
          intro x
          go_wp2_with (fail)
          have hb9 := HI.out.below
          have sz9 := HI.out.size
          have eR : chn true lc = out := by rw [HECH.out]; simp [HQ.out]
          have eL : (out).length = m1 := HLN.out
          have ow : x.out.ownsRow w.heap.size 23 2 (.slice (some ⟨go, 0, none⟩) m1 co) m1 (fl (out)) := own_base (own_later HOW.out x) (by omega)
          refine bodyPost_ret (v := .agg #[.slice (some ⟨go, 0, none⟩) m1 co, .bool true]) (by simp [results, Try.results49, go_sem, *]) rfl ?_
          unfold ORet
          rw [eR, eL]
          exact ⟨go, co, rfl, (by repeat (first | exact ow | (refine Go.ownsRow_setCell_other ?_ (by first | exact HNA.out _ _ | exact HNB.out _ _) _))), Later.mk_of (by repeat (first | (with_reducible assumption) | (with_reducible exact Below.refl _ _) | (with_reducible refine Later.after ?_ _) | (with_reducible refine Later.newer ?_ _) | (with_reducible refine Below.drew ?_) | (with_reducible refine Below.setCell ?_ (by first | exact Nat.le_refl _ | exact Nat.le_add_right _ _ | omega | (simp [go_sem]; done) | (simp [go_sem]; omega)) _)))⟩
        · have q1 : decide (1 < m1) = true := by have := HM1.out; simp; omega
          have q2 : decide ((1 : Int) < m1) = true := by have := HM1.out; simp; omega
          have hm0' : 0 < m := by omega
          by_cases ex : x9 = x0
          · by_cases ey : y9 = y0
            · have HQ : Hid (decide (0 < m) = true ∧ x9 = x0 ∧ y9 = y0) := Lib.hid ⟨by simp [hm0'], ex, ey⟩
              subst ex
              subst ey
              clear hm0
              go_wp2_with (fail)
              refine wp_region_later (by kernel_rfl) (by kernel_rfl) ?_
              repeat (go_big_quiet_step ((first | fail)))
              refine wpQuiet_nil ?_
              intro x
              go_wp2_with (fail)
              have hb9 := HI.out.below
              have sz9 := HI.out.size
              have eR : chn true lc = out.take m := by rw [HECH.out]; simp [HQ.out]
              have eL : (out.take m).length = m := by rw [List.length_take, HLN.out]; omega
              have ow : x.out.ownsRow w.heap.size 23 2 (.slice (some ⟨go, 0, none⟩) m co) m (fl (out.take m)) := by have h := own_take (own_later HOW.out x) mM2; rw [fl_take] at h; exact own_base h (by omega)
              refine bodyPost_ret (v := .agg #[.slice (some ⟨go, 0, none⟩) m co, .bool true]) (by simp [results, Try.results49, go_sem, *]) rfl ?_
              unfold ORet
              rw [eR, eL]
              exact ⟨go, co, rfl, (by repeat (first | exact ow | (refine Go.ownsRow_setCell_other ?_ (by first | exact HNA.out _ _ | exact HNB.out _ _) _))), Later.mk_of (by repeat (first | (with_reducible assumption) | (with_reducible exact Below.refl _ _) | (with_reducible refine Later.after ?_ _) | (with_reducible refine Later.newer ?_ _) | (with_reducible refine Below.drew ?_) | (with_reducible refine Below.setCell ?_ (by first | exact Nat.le_refl _ | exact Nat.le_add_right _ _ | omega | (simp [go_sem]; done) | (simp [go_sem]; omega)) _)))⟩
            · have HQ : Hid (¬ ((x9, y9) = (x0, y0))) := Lib.hid (fun e => ey (congrArg Prod.snd e))
              have ey' : (y9 == y0) = false := by simp [ey]
              subst ex
              clear ey hm0
              go_wp2_with (fail)
              refine wp_region_later (by kernel_rfl) (by kernel_rfl) ?_
              repeat (go_big_quiet_step ((first | fail)))
              refine wpQuiet_nil ?_
              intro x
              go_wp2_with (fail)
              have hb9 := HI.out.below
              have sz9 := HI.out.size
              have eR : chn true lc = out := by rw [HECH.out]; simp [HQ.out]
              have eL : (out).length = m1 := HLN.out
              have ow : x.out.ownsRow w.heap.size 23 2 (.slice (some ⟨go, 0, none⟩) m1 co) m1 (fl (out)) := own_base (own_later HOW.out x) (by omega)
              refine bodyPost_ret (v := .agg #[.slice (some ⟨go, 0, none⟩) m1 co, .bool true]) (by simp [results, Try.results49, go_sem, *]) rfl ?_
              unfold ORet
              rw [eR, eL]
              exact ⟨go, co, rfl, (by repeat (first | exact ow | (refine Go.ownsRow_setCell_other ?_ (by first | exact HNA.out _ _ | exact HNB.out _ _) _))), Later.mk_of (by repeat (first | (with_reducible assumption) | (with_reducible exact Below.refl _ _) | (with_reducible refine Later.after ?_ _) | (with_reducible refine Later.newer ?_ _) | (with_reducible refine Below.drew ?_) | (with_reducible refine Below.setCell ?_ (by first | exact Nat.le_refl _ | exact Nat.le_add_right _ _ | omega | (simp [go_sem]; done) | (simp [go_sem]; omega)) _)))⟩
          · have HQ : Hid (¬ ((x9, y9) = (x0, y0))) := Lib.hid (fun e => ex (congrArg Prod.fst e))
            have ex' : (x9 == x0) = false := by simp [ex]
            clear ex hm0
            go_wp2_with (fail)
            refine wp_region_later (by kernel_rfl) (by kernel_rfl) ?_
            repeat (go_big_quiet_step ((first | fail)))
            refine wpQuiet_nil ?_
            intro x
            go_wp2_with (fail)
            have hb9 := HI.out.below
            have sz9 := HI.out.size
            have eR : chn true lc = out := by rw [HECH.out]; simp [HQ.out]
            have eL : (out).length = m1 := HLN.out
            have ow : x.out.ownsRow w.heap.size 23 2 (.slice (some ⟨go, 0, none⟩) m1 co) m1 (fl (out)) := own_base (own_later HOW.out x) (by omega)
            refine bodyPost_ret (v := .agg #[.slice (some ⟨go, 0, none⟩) m1 co, .bool true]) (by simp [results, Try.results49, go_sem, *]) rfl ?_
            unfold ORet
            rw [eR, eL]
            exact ⟨go, co, rfl, (by repeat (first | exact ow | (refine Go.ownsRow_setCell_other ?_ (by first | exact HNA.out _ _ | exact HNB.out _ _) _))), Later.mk_of (by repeat (first | (with_reducible assumption) | (with_reducible exact Below.refl _ _) | (with_reducible refine Later.after ?_ _) | (with_reducible refine Later.newer ?_ _) | (with_reducible refine Below.drew ?_) | (with_reducible refine Below.setCell ?_ (by first | exact Nat.le_refl _ | exact Nat.le_add_right _ _ | omega | (simp [go_sem]; done) | (simp [go_sem]; omega)) _)))⟩
end Go.Proofs.Ytcdnekhpeghkiaa

/-
  The reference's chains, and whether chains are the same ones: walked.
-/
namespace Go.Proofs.Ytcdnekhpeghkiaa
set_option linter.unusedVariables false
open Go.RowKit


set_option maxRecDepth 100000 in
set_option maxHeartbeats 2000000 in
theorem rall_c (t : Int) (t0 : 0 ≤ t) (t9 : t ≤ 1073741824) (W : World) (sv : Value) (L : List (SubP × Value)) (hS : SubsR W sv L) (hG : ∀ p ∈ L, GoodSub 600 p.1) (hL : L.length ≤ 600) :
    Calls Try.prog 30 #[sv, .int .i64 t] W (AllRet 97 W (L.map (cof t))) := by
  obtain ⟨i0, by0, hi0, hz0, hz1, hz2, hz3⟩ := infoRCh
  obtain ⟨aS, cS, hsv⟩ := hS.form
  obtain ⟨N, hN⟩ : ∃ N, L.length = N := ⟨_, rfl⟩
  rw [hN] at hsv hL
  subst hsv
  have HS := Lib.hid hS
  have HG := Lib.hid hG
  have HN := Lib.hid hN
  clear hS hG hN
  go_enter Try.func30, Try.ntmps30
  go_wp2_with (fail)
  go_loopw [5, 6] (fun u v wr => ∃ (k : Nat) (R : List (ChV × Value)), k ≤ N ∧ v = .int .i64 k ∧ Hid (AInv 97 W ((L.take k).map (cof t)) u R wr)) (fun u v _ => N - (intOf v).toNat)
  case atStart => exact ⟨0, [], by omega, rfl, Lib.hid ⟨Chs.made _ _ (Nat.le_refl _), rfl, (by repeat (first | (with_reducible assumption) | (with_reducible exact Below.refl _ _) | (with_reducible refine Later.after ?_ _) | (with_reducible refine Later.newer ?_ _) | (with_reducible refine Below.drew ?_) | (with_reducible refine Below.setCell ?_ (by first | exact Nat.le_refl _ | exact Nat.le_add_right _ _ | omega | (simp [go_sem]; done) | (simp [go_sem]; omega)) _)))⟩⟩
  case round =>
    obtain ⟨k, R, hk, rfl, HI⟩ := hrel
    by_cases hlt : k < N
    · have hd : decide (k < N) = true := by simp [hlt]
      obtain ⟨⟨s, v⟩, hsi⟩ : ∃ p, L[k]? = some p := ⟨_, List.getElem?_eq_getElem (by rw [HN.out]; exact hlt)⟩
      obtain ⟨gs, cs', hsv, lgs, hcell, hsegs⟩ := HS.out.cells k s v hsi
      rw [HN.out] at hsv
      simp only [Value.slice.injEq, true_and] at hsv
      obtain ⟨rfl, rfl⟩ := hsv
      have gsub : GoodSub 600 s := HG.out (s, v) (List.mem_of_getElem? hsi)
      have hof := fun W' h' => rchainOf_c W' s.st s.segs v s.cl t (by omega) (by omega) h' (by have := gsub.2.1; omega) gsub.2.2
      have hkr : R.length = k := by have := congrArg List.length HI.out.res; simp only [List.length_map, List.length_take, HN.out] at this; omega
      have hres : ((L.take (k + 1)).map (cof t)) = (L.take k).map (cof t) ++ [⟨chn s.cl (chL t s.st s.segs), s.cl⟩] := by
        rw [List.take_add_one, hsi, List.map_append]; rfl
      generalize hRR : chn s.cl (chL t s.st s.segs) = RR at *
      obtain ⟨M, hM⟩ : ∃ M, RR.length = M := ⟨_, rfl⟩
      have hof := fun W' h' => (hof W' h').mono (fun e w' h => ORet.len hM h)
      have lw : gs < wr.heap.size := Nat.lt_of_lt_of_le lgs HI.out.below.size
      have hcw : ∀ j, j < 4 → wr.cell? ⟨gs, k * 4 + j, none⟩ = (subV s v)[j]? := fun j hj => (HI.out.below.cell (p := ⟨gs, k * 4 + j, none⟩) lgs).trans (hcell j hj)
      obtain ⟨sx, hsx⟩ : ∃ x, s.st.1 = x := ⟨_, rfl⟩
      obtain ⟨sy, hsy⟩ : ∃ x, s.st.2 = x := ⟨_, rfl⟩
      obtain ⟨cl, hcl⟩ : ∃ x, s.cl = x := ⟨_, rfl⟩
      have c0 : wr.cell? ⟨gs, k * 4, none⟩ = some (.int .i64 sx) := by have := hcw 0 (by omega); rw [← hsx]; exact this
      have c1 : wr.cell? ⟨gs, k * 4 + 1, none⟩ = some (.int .i64 sy) := by have := hcw 1 (by omega); rw [← hsy]; exact this
      have c2 : wr.cell? ⟨gs, k * 4 + 2, none⟩ = some v := hcw 2 (by omega)
      have c3 : wr.cell? ⟨gs, k * 4 + 3, none⟩ = some (.bool cl) := by have := hcw 3 (by omega); rw [← hcl]; exact this
      obtain ⟨av', cv', hv'⟩ : ∃ a c, v = .slice a s.segs.length c := by
        rcases hsegs with ⟨h1, h2⟩ | ⟨b, o, c, h, _⟩
        · exact ⟨none, 0, by rw [h1, h2]; rfl⟩
        · exact ⟨_, _, h⟩
      generalize s.segs.length = SL at hv'
      subst hv'
      rw [hsx, hsy, hcl] at hof
      rw [hcl] at hres
      have HSG := Lib.hid hsegs
      have HOF := Lib.hid hof
      have HRES := Lib.hid hres
      have HM := Lib.hid hM
      have HKR := Lib.hid hkr
      clear hcw hcell hsegs hof hres hsi gsub hsx hsy hcl hRR hM
      go_wp2_with (first | (go_at_call 49; (with_reducible refine (HOF.out _ (SegsAt.below HSG.out HI.out.below)).mono ?_); rintro _ _ ⟨g2, cap2, rfl, hown, x3, rfl⟩; have HOW := Lib.hid hown; clear hown) | (at_builtin; refine wpList_append_at _ rfl _ _ 66 rfl W.heap.size 97 i0 (.agg #[.slice none 0 0, .bool false]) 2 by0 Try.underlying66 hi0 hz0 hz1 hz2 rfl (by decide) u5 R.length (chsV R) rfl ((own_later HI.out.chs.own x3).alloc _) ⟨x3.out.heap.size, 0, none⟩ 1 1 (chV (⟨RR, cl⟩, .slice (some ⟨g2, 0, none⟩) M cap2)) rfl rfl (blk_at (Blk.new' rfl)) (chV_one _ ⟨_, _, _, rfl⟩) (by unfold maxLen; omega) (Nat.le_trans (Nat.mul_le_mul (show R.length + 1 ≤ 1001 by omega) hz3) (by omega)) (by have := x3.size_le; have := HI.out.below.size; simp only [World.size_alloc] at *; omega) ?_; intro vo w4 hown hgrow hlies; have HO4 := Lib.hid hown; have HG4 := Lib.hid hgrow; clear hown hgrow hlies))
      have bx : Below W.heap.size W x3.out := HI.out.below.trans (x3.below.mono (by have := HI.out.below.size; (try simp only [World.size_alloc]); omega))
      have sx3 : W.heap.size ≤ x3.out.heap.size := bx.size
      have hrow : x3.out.ownsRow W.heap.size 23 2 (.slice (some ⟨g2, 0, none⟩) M cap2) M (fl RR) := own_base HOW.out (by have := HI.out.below.size; (try simp only [World.size_alloc]); omega)
      have hpush := Chs.push ((HI.out.chs.later x3).alloc (.cells #[.slice (some ⟨g2, 0, none⟩) M cap2, .bool cl] 97)) ne_infoRCh (⟨RR, cl⟩, .slice (some ⟨g2, 0, none⟩) M cap2) ⟨⟨g2, cap2, by rw [HM.out]⟩, by rw [HM.out]; exact hrow.alloc _⟩ HO4.out HG4.out
      have b4 : Below W.heap.size W w4 := Below.grown (bx.alloc sx3 (.cells #[.slice (some ⟨g2, 0, none⟩) M cap2, .bool cl] 97)) HG4.out (by simp only [World.size_alloc]; omega) (fun r hr => (HI.out.chs.own.lt r hr).1)
      go_roundw
      case rel => exact ⟨k + 1, _, by omega, by go_num, Lib.hid ⟨hpush, by rw [List.map_append, HI.out.res, HRES.out]; rfl, b4⟩⟩
      case measure => simp [intOf]; omega
    · obtain rfl : k = N := by omega
      have hd : decide (k < k) = false := by simp
      have hres := HI.out.res
      rw [List.take_of_length_le (by rw [HN.out]; exact Nat.le_refl _)] at hres
      have HRES := Lib.hid hres
      clear hres
      go_wp2_with (fail)
      exact bodyPost_ret (v := u5) (by simp [results, Try.results30, go_sem, *]) rfl ⟨u5, R, rfl, HI.out.chs, HRES.out, Later.mk_of HI.out.below⟩


set_option maxRecDepth 100000 in
set_option maxHeartbeats 1000000 in
theorem same_chain (W : World) (g g' n c c' : Nat) (l : List (Int × Int)) (cl : Bool) (hn : l.length = n) (h9 : n ≤ 1073741824) (h : PtsIn W g l) (h' : PtsIn W g' l) :
    Calls Try.prog 48 #[.agg #[.slice (some ⟨g, 0, none⟩) n c, .bool cl], .agg #[.slice (some ⟨g', 0, none⟩) n c', .bool cl]] W fun e w' => e = .returned (.bool true) ∧ ∃ x : Later W, w' = x.out := by
  have hs := fun o1 o2 => same_c ((W.alloc o1).alloc o2) g g' n c c' l hn h9 (h.later ⟨_, ((Below.refl _ W).alloc (Nat.le_refl _) o1).alloc (by simp) o2⟩) (h'.later ⟨_, ((Below.refl _ W).alloc (Nat.le_refl _) o1).alloc (by simp) o2⟩)
  have HS := Lib.hid hs
  clear hs hn h h'
  cases cl
  · go_enter Try.func48, Try.ntmps48
    go_wp2_with (first | (go_at_call 13; (with_reducible refine (HS.out _ _).mono ?_); rintro e _ ⟨rfl, x, rfl⟩))
    exact bodyPost_ret (v := .bool true) (by simp [results, Try.results48, go_sem, *]) rfl ⟨rfl, (Later.mk_of (by repeat (first | (with_reducible assumption) | (with_reducible exact Below.refl _ _) | (with_reducible refine Later.after ?_ _) | (with_reducible refine Later.newer ?_ _) | (with_reducible refine Below.drew ?_) | (with_reducible refine Below.setCell ?_ (by first | exact Nat.le_refl _ | exact Nat.le_add_right _ _ | omega | (simp [go_sem]; done) | (simp [go_sem]; omega)) _))))⟩
  · go_enter Try.func48, Try.ntmps48
    go_wp2_with (first | (go_at_call 13; (with_reducible refine (HS.out _ _).mono ?_); rintro e _ ⟨rfl, x, rfl⟩))
    exact bodyPost_ret (v := .bool true) (by simp [results, Try.results48, go_sem, *]) rfl ⟨rfl, (Later.mk_of (by repeat (first | (with_reducible assumption) | (with_reducible exact Below.refl _ _) | (with_reducible refine Later.after ?_ _) | (with_reducible refine Later.newer ?_ _) | (with_reducible refine Below.drew ?_) | (with_reducible refine Below.setCell ?_ (by first | exact Nat.le_refl _ | exact Nat.le_add_right _ _ | omega | (simp [go_sem]; done) | (simp [go_sem]; omega)) _))))⟩
set_option maxRecDepth 100000 in
set_option maxHeartbeats 2000000 in
theorem sameAll_c (W : World) (B1 B2 : Nat) (v1 v2 : Value) (R1 R2 : List (ChV × Value)) (h1 : Chs 97 W B1 v1 R1) (h2 : Chs 97 W B2 v2 R2) (he : R1.map Prod.fst = R2.map Prod.fst) (hl : R1.length ≤ 600) (hb : ∀ q ∈ R1, q.1.pts.length ≤ 1073741824) :
    Calls Try.prog 28 #[v1, v2] W fun e w' => e = .returned (.bool true) ∧ ∃ x : Later W, w' = x.out := by
  obtain ⟨a1, c1, hv1⟩ := h1.form
  obtain ⟨a2, c2, hv2⟩ := h2.form
  have hlen : R2.length = R1.length := by have := congrArg List.length he; simpa using this.symm
  obtain ⟨N, hN⟩ : ∃ N, R1.length = N := ⟨_, rfl⟩
  rw [hlen, hN] at hv2
  rw [hN] at hv1 hl
  subst hv1
  subst hv2
  have H1 := Lib.hid h1
  have H2 := Lib.hid h2
  have HE := Lib.hid he
  have HB9 := Lib.hid hb
  clear hb
  have HN := Lib.hid hN
  have HLN := Lib.hid hlen
  clear h1 h2 he hN hlen
  go_enter Try.func28, Try.ntmps28
  go_wp2_with (fail)
  go_loopw [5] (fun u wr => ∃ k : Nat, k ≤ N ∧ u = .int .i64 k ∧ ∃ y : Later W, wr = y.out) (fun u _ => N - (intOf u).toNat)
  case atStart => exact ⟨0, by omega, rfl, ⟨W, Below.refl _ _⟩, rfl⟩
  case round =>
    obtain ⟨k, hk, rfl, y, rfl⟩ := hrel
    by_cases hlt : k < N
    · have hd : decide (k < N) = true := by simp [hlt]
      obtain ⟨⟨⟨pts, cl⟩, w1⟩, e1⟩ : ∃ p, R1[k]? = some p := ⟨_, List.getElem?_eq_getElem (by rw [HN.out]; exact hlt)⟩
      obtain ⟨⟨q2, w2⟩, e2⟩ : ∃ p, R2[k]? = some p := ⟨_, List.getElem?_eq_getElem (by rw [HLN.out, HN.out]; exact hlt)⟩
      have e3 : (R1.map Prod.fst)[k]? = (R2.map Prod.fst)[k]? := by rw [HE.out]
      rw [List.getElem?_map, List.getElem?_map, e1, e2] at e3
      simp only [Option.map_some, Option.some.injEq] at e3
      subst e3
      obtain ⟨g, c, hsv, lg, s0, s1, g1, d1, hw1, hp1⟩ := (H1.out.later y).at k _ e1
      obtain ⟨g', c', hsv', lg', s0', s1', g2, d2, hw2, hp2⟩ := (H2.out.later y).at k _ e2
      rw [HN.out] at hsv
      rw [HLN.out, HN.out] at hsv'
      simp only [Value.slice.injEq, true_and] at hsv hsv'
      obtain ⟨rfl, rfl⟩ := hsv
      obtain ⟨rfl, rfl⟩ := hsv'
      simp only [] at s0 s1 s0' s1' hw1 hw2 hp1 hp2
      obtain ⟨M, hM⟩ : ∃ M, pts.length = M := ⟨_, rfl⟩
      rw [hM] at hw1 hw2
      subst hw1
      subst hw2
      have M9 : M ≤ 1073741824 := by have := HB9.out (⟨pts, cl⟩, .slice (some ⟨g1, 0, none⟩) M d1) (List.mem_of_getElem? e1); simp only [hM] at this; exact this
      have hsm := fun W' h h' => same_chain W' g1 g2 M d1 d2 pts cl hM M9 h h'
      have HSM := Lib.hid hsm
      have HP1 := Lib.hid hp1
      have HP2 := Lib.hid hp2
      clear hsm hp1 hp2 e1 e2 hM
      go_wp2_with (fail)
      refine wp_region_later (by kernel_rfl) (by kernel_rfl) ?_
      repeat (go_big_quiet_step ((first | (go_at_call 48; with_reducible exact Later.call _ (HSM.out _ (HP1.out.later _) (HP2.out.later _))))))
      refine wpQuiet_nil ?_
      intro x
      go_wp2_with (fail)
      go_roundw
      case rel => exact ⟨k + 1, by omega, by go_num, ⟨x.out, y.below.trans (x.below.mono y.size_le)⟩, rfl⟩
      case measure => simp [intOf]; omega
    · obtain rfl : k = N := by omega
      have hd : decide (k < k) = false := by simp
      go_wp2_with (fail)
      exact bodyPost_ret (v := .bool true) (by simp [results, Try.results28, go_sem, *]) rfl ⟨rfl, (Later.mk_of (by repeat (first | (with_reducible assumption) | (with_reducible exact Below.refl _ _) | (with_reducible refine Later.after ?_ _) | (with_reducible refine Later.newer ?_ _) | (with_reducible refine Below.drew ?_) | (with_reducible refine Below.setCell ?_ (by first | exact Nat.le_refl _ | exact Nat.le_add_right _ _ | omega | (simp [go_sem]; done) | (simp [go_sem]; omega)) _))))⟩
end Go.Proofs.Ytcdnekhpeghkiaa

/-
  All chains of a path: walked.
-/
namespace Go.Proofs.Ytcdnekhpeghkiaa
set_option linter.unusedVariables false
open Go.RowKit


set_option maxRecDepth 100000 in
set_option maxHeartbeats 1000000 in
theorem fa_early1 (z tol : Int) (n m : Nat) (av ap : Option Addr) (cv cp : Nat) (w : World) (n9 : n ≤ maxLen) (m9 : m ≤ maxLen)
    (hs : ∀ W', Below w.heap.size w W' → Calls Try.prog 24 #[.agg #[.slice av n cv, .slice ap m cp]] W' fun e w'' => ∃ u, e = .returned (.tuple #[u, .int .i64 z]) ∧ ∃ x : Later W', w'' = x.out) (h1 : decide ((12 : Int) < n) = true) :
    Calls Try.prog 10 #[.agg #[.slice av n cv, .slice ap m cp], .int .u16 tol] w fun e w' => e = .returned (.bool true) ∧ ∃ x : Later w, w' = x.out := by
  have HS := Lib.hid hs
  unfold maxLen at n9 m9
  clear hs
  go_enter Try.func10, Try.ntmps10
  go_wp2_with (first | (go_at_call 24; (with_reducible refine (HS.out _ ((Below.refl _ _).alloc (Nat.le_refl _) _)).mono ?_); rintro _ _ ⟨u, rfl, x, rfl⟩) | (go_at_call 12; (with_reducible refine (shown_10 _).mono ?_); rintro e _ ⟨rfl, x, rfl⟩))
  exact bodyPost_ret (v := .bool true) (by simp [results, Try.results10, go_sem, *]) rfl ⟨rfl, (Later.mk_of (by repeat (first | (with_reducible assumption) | (with_reducible exact Below.refl _ _) | (with_reducible refine Later.after ?_ _) | (with_reducible refine Later.newer ?_ _) | (with_reducible refine Below.drew ?_) | (with_reducible refine Below.setCell ?_ (by first | exact Nat.le_refl _ | exact Nat.le_add_right _ _ | omega | (simp [go_sem]; done) | (simp [go_sem]; omega)) _))))⟩


set_option maxRecDepth 100000 in
set_option maxHeartbeats 1000000 in
theorem fa_early2 (z tol : Int) (n m : Nat) (av ap : Option Addr) (cv cp : Nat) (w : World) (n9 : n ≤ maxLen) (m9 : m ≤ maxLen)
    (hs : ∀ W', Below w.heap.size w W' → Calls Try.prog 24 #[.agg #[.slice av n cv, .slice ap m cp]] W' fun e w'' => ∃ u, e = .returned (.tuple #[u, .int .i64 z]) ∧ ∃ x : Later W', w'' = x.out) (h1 : decide ((12 : Int) < n) = false) (h2 : decide ((40 : Int) < m) = true) :
    Calls Try.prog 10 #[.agg #[.slice av n cv, .slice ap m cp], .int .u16 tol] w fun e w' => e = .returned (.bool true) ∧ ∃ x : Later w, w' = x.out := by
  have HS := Lib.hid hs
  unfold maxLen at n9 m9
  clear hs
  go_enter Try.func10, Try.ntmps10
  go_wp2_with (first | (go_at_call 24; (with_reducible refine (HS.out _ ((Below.refl _ _).alloc (Nat.le_refl _) _)).mono ?_); rintro _ _ ⟨u, rfl, x, rfl⟩) | (go_at_call 12; (with_reducible refine (shown_10 _).mono ?_); rintro e _ ⟨rfl, x, rfl⟩))
  exact bodyPost_ret (v := .bool true) (by simp [results, Try.results10, go_sem, *]) rfl ⟨rfl, (Later.mk_of (by repeat (first | (with_reducible assumption) | (with_reducible exact Below.refl _ _) | (with_reducible refine Later.after ?_ _) | (with_reducible refine Later.newer ?_ _) | (with_reducible refine Below.drew ?_) | (with_reducible refine Below.setCell ?_ (by first | exact Nat.le_refl _ | exact Nat.le_add_right _ _ | omega | (simp [go_sem]; done) | (simp [go_sem]; omega)) _))))⟩


set_option maxRecDepth 100000 in
set_option maxHeartbeats 1000000 in
theorem fa_early3 (z tol : Int) (n m : Nat) (av ap : Option Addr) (cv cp : Nat) (w : World) (n9 : n ≤ maxLen) (m9 : m ≤ maxLen)
    (hs : ∀ W', Below w.heap.size w W' → Calls Try.prog 24 #[.agg #[.slice av n cv, .slice ap m cp]] W' fun e w'' => ∃ u, e = .returned (.tuple #[u, .int .i64 z]) ∧ ∃ x : Later W', w'' = x.out) (h1 : decide ((12 : Int) < n) = false) (h2 : decide ((40 : Int) < m) = false) (h3 : (z != 0) = true) :
    Calls Try.prog 10 #[.agg #[.slice av n cv, .slice ap m cp], .int .u16 tol] w fun e w' => e = .returned (.bool true) ∧ ∃ x : Later w, w' = x.out := by
  have HS := Lib.hid hs
  unfold maxLen at n9 m9
  clear hs
  go_enter Try.func10, Try.ntmps10
  go_wp2_with (first | (go_at_call 24; (with_reducible refine (HS.out _ ((Below.refl _ _).alloc (Nat.le_refl _) _)).mono ?_); rintro _ _ ⟨u, rfl, x, rfl⟩) | (go_at_call 12; (with_reducible refine (shown_10 _).mono ?_); rintro e _ ⟨rfl, x, rfl⟩))
  exact bodyPost_ret (v := .bool true) (by simp [results, Try.results10, go_sem, *]) rfl ⟨rfl, (Later.mk_of (by repeat (first | (with_reducible assumption) | (with_reducible exact Below.refl _ _) | (with_reducible refine Later.after ?_ _) | (with_reducible refine Later.newer ?_ _) | (with_reducible refine Below.drew ?_) | (with_reducible refine Below.setCell ?_ (by first | exact Nat.le_refl _ | exact Nat.le_add_right _ _ | omega | (simp [go_sem]; done) | (simp [go_sem]; omega)) _))))⟩


theorem rall_of (t : Int) (t0 : 0 ≤ t) (t9 : t ≤ 1073741824) {W : World} {B : Nat} {sv : Value} {L L' : List (SubP × Value)} (hG : ∀ p ∈ L, GoodSub 600 p.1) (hL : L.length ≤ 600) (hS : RSubs W B sv L') (hm : L'.map Prod.fst = L.map Prod.fst) :
    Calls Try.prog 30 #[sv, .int .i64 t] W (AllRet 97 W (L.map (cof t))) := by
  have hl : L'.length = L.length := by have := congrArg List.length hm; simpa using this
  have hg : ∀ p ∈ L', GoodSub 600 p.1 := fun p hp => by
    have h1 : p.1 ∈ L'.map Prod.fst := List.mem_map_of_mem hp
    rw [hm] at h1
    obtain ⟨q, hq, e⟩ := List.mem_map.1 h1
    rw [← e]; exact hG q hq
  have hc : L'.map (cof t) = L.map (cof t) := by
    have e : ∀ l : List (SubP × Value), l.map (cof t) = (l.map Prod.fst).map (fun s => (⟨chn s.cl (chL t s.st s.segs), s.cl⟩ : ChV)) := fun l => by rw [List.map_map]; rfl
    rw [e, e, hm]
  have := rall_c t t0 t9 W sv L' hS.read hg (by omega)
  rw [hc] at this
  exact this
theorem cof_len (t : Int) (p : SubP × Value) (h : GoodSub 600 p.1) : (cof t p).pts.length ≤ 1073741824 := by
  have h1 := chn_len9 p.1.cl (chL t p.1.st p.1.segs)
  have h2 := chL_len t p.1.st p.1.segs (fun a ha => (h.2.2 a ha).1)
  have h3 := h.2.1
  show (chn p.1.cl (chL t p.1.st p.1.segs)).length ≤ _
  omega
set_option maxRecDepth 100000 in
set_option maxHeartbeats 4000000 in
theorem fa_main (tol : Int) (n m : Nat) (av ap : Option Addr) (cv cp : Nat) (w : World) (n9 : n ≤ maxLen) (m9 : m ≤ maxLen) (t0 : 0 ≤ tol) (t9 : tol ≤ 65535)
    (hs : ∀ W', Below w.heap.size w W' → Calls Try.prog 24 #[.agg #[.slice av n cv, .slice ap m cp]] W' (SplitOk W')) (h1 : decide ((12 : Int) < n) = false) (h2 : decide ((40 : Int) < m) = false) :
    Calls Try.prog 10 #[.agg #[.slice av n cv, .slice ap m cp], .int .u16 tol] w fun e w' => e = .returned (.bool true) ∧ ∃ x : Later w, w' = x.out := by
  have HS := Lib.hid hs
  unfold maxLen at n9 m9
  have T0 : 0 ≤ 8 + tol := by omega
  have T9 : 8 + tol ≤ 1073741824 := by omega
  clear hs
  go_enter Try.func10, Try.ntmps10
  go_upto_region 4 with (first | (go_at_call 24; (with_reducible refine (HS.out _ ((Below.refl _ _).alloc (Nat.le_refl _) _)).mono ?_); rintro _ _ ⟨sv, L, rfl, hS, hG, hL, x, rfl⟩; obtain ⟨aS, cS, hsv⟩ := hS.form; obtain ⟨N, hN⟩ : ∃ N, L.length = N := ⟨_, rfl⟩; rw [hN] at hsv hL; subst hsv; have HSB := Lib.hid hS; have HGD := Lib.hid hG; have HLN := Lib.hid hN; clear hS hG hN) | (go_at_call 12; (with_reducible refine (shown_10 _).mono ?_); rintro e _ ⟨rfl, x2, rfl⟩))
  have hsb := HSB.out.later x2
  have hB0 : Below w.heap.size w x2.out := (by repeat (first | (with_reducible assumption) | (with_reducible exact Below.refl _ _) | (with_reducible refine Later.after ?_ _) | (with_reducible refine Later.newer ?_ _) | (with_reducible refine Below.drew ?_) | (with_reducible refine Below.setCell ?_ (by first | exact Nat.le_refl _ | exact Nat.le_add_right _ _ | omega | (simp [go_sem]; done) | (simp [go_sem]; omega)) _)))
  have HB0 := Lib.hid hB0
  have HL6 : L.length ≤ 600 := by rw [HLN.out]; exact hL
  have hall := all_c (8 + tol) T0 T9 x2.out _ L hsb.read HGD.out HL6
  have HALL := Lib.hid hall
  have HSS := Lib.hid hsb
  clear hB0 hsb HSB hall
  generalize x2.out = W0 at *
  clear x2 x
  go_upto_region 5 with (first | (go_at_call 27; (with_reducible refine (HALL.out).mono ?_); rintro _ _ ⟨c0, R, rfl, hC, hR, x3, rfl⟩; have HC := Lib.hid hC; have HR := Lib.hid hR; clear hC hR))
  have hRl : R.length ≤ 600 := by have := congrArg List.length HR.out; simp only [List.length_map] at this; omega
  have hb9 : ∀ q ∈ R, q.1.pts.length ≤ 1073741824 := fun q hq => by
    have h1 : q.1 ∈ R.map Prod.fst := List.mem_map_of_mem hq
    rw [HR.out] at h1
    obtain ⟨p, hp, e⟩ := List.mem_map.1 h1
    rw [← e]; exact cof_len _ p (HGD.out p hp)
  have hch := chains_c x3.out W0.heap.size c0 R HC.out x3.size_le hRl
  have hsu := fun (x4 : Later x3.out) => subs_c x4.out _ L ((HSS.out.later x3).later x4).read HGD.out HL6
  have hbw : Below w.heap.size w x3.out := HB0.out.trans (x3.below.mono HB0.out.size)
  have HR9 := hRl
  have HB9 := Lib.hid hb9
  have HCH := Lib.hid hch
  have HSU := Lib.hid hsu
  have HBW := Lib.hid hbw
  clear hRl hb9 hch hsu hbw
  go_wp2_with (first | (go_at_call 29; (with_reducible refine (HCH.out).mono ?_); rintro _ _ ⟨c2, rfl, hC2, x4, rfl⟩; have HC2 := Lib.hid hC2; clear hC2) | (go_at_call 31; (with_reducible refine (HSU.out x4).mono ?_); rintro _ _ ⟨s5, L5, rfl, hRS, hm5, x5, rfl⟩; have HRA := Lib.hid (rall_of (8 + tol) T0 T9 HGD.out HL6 hRS hm5); clear hRS hm5) | (go_at_call 30; (with_reducible refine (HRA.out).mono ?_); rintro _ _ ⟨c6, R6, rfl, hC6, hR6, x6, rfl⟩; have HC6 := Lib.hid hC6; have HR6 := Lib.hid hR6; clear hC6 hR6) | (go_at_call 28; (with_reducible refine (sameAll_c _ _ _ _ _ R R6 ((HC2.out.later x5).later x6) HC6.out (HR.out.trans HR6.out.symm) HR9 HB9.out).mono ?_); rintro e _ ⟨rfl, x7, rfl⟩))
  have hbw := HBW.out
  exact bodyPost_ret (v := .bool true) (by simp [results, Try.results10, go_sem, *]) rfl ⟨rfl, (Later.mk_of (by repeat (first | (with_reducible assumption) | (with_reducible exact Below.refl _ _) | (with_reducible refine Later.after ?_ _) | (with_reducible refine Later.newer ?_ _) | (with_reducible refine Below.drew ?_) | (with_reducible refine Below.setCell ?_ (by first | exact Nat.le_refl _ | exact Nat.le_add_right _ _ | omega | (simp [go_sem]; done) | (simp [go_sem]; omega)) _))))⟩
theorem fa_walk (vs : List Int) (pts : List (Int × Int)) (vv sv : Value) (tol : Int) (t0 : 0 ≤ tol) (t9 : tol ≤ 65535) (w : World) (hv : IntsAt w vv vs) (hp : PtsAt w sv pts) :
    Calls Try.prog 10 #[.agg #[vv, sv], .int .u16 tol] w fun e w' => e = .returned (.bool true) ∧ ∃ x : Later w, w' = x.out := by
  have hs : ∀ W', Below w.heap.size w W' → Calls Try.prog 24 #[.agg #[vv, sv]] W' (SplitRet W' (chk vs pts)) :=
    fun W' k => split_c vs pts vv sv W' (hv.below k (Nat.le_refl _)) (ptsAt_under hp k (Nat.le_refl _))
  have n9 := hv.le
  have m9 := ptsAt_le hp
  obtain ⟨av, cv, rfl⟩ := hv.form
  obtain ⟨ap, cp, rfl⟩ := ptsAt_form hp
  by_cases h1 : vs.length ≤ 12
  · have d1 : decide ((12 : Int) < vs.length) = false := by simp; omega
    by_cases h2 : pts.length ≤ 40
    · have d2 : decide ((40 : Int) < pts.length) = false := by simp; omega
      by_cases hz : chk vs pts = 0
      · rw [hz] at hs
        exact fa_main tol _ _ av ap cv cp w n9 m9 t0 t9 (fun W' k => (hs W' k).mono fun e w' h => h.ok) d1 d2
      · exact fa_early3 (chk vs pts) tol _ _ av ap cv cp w n9 m9 (fun W' k => (hs W' k).mono fun e w' h => h.any) d1 d2 (by simp [hz])
    · exact fa_early2 (chk vs pts) tol _ _ av ap cv cp w n9 m9 (fun W' k => (hs W' k).mono fun e w' h => h.any) d1 (by simp; omega)
  · exact fa_early1 (chk vs pts) tol _ _ av ap cv cp w n9 m9 (fun W' k => (hs W' k).mono fun e w' h => h.any) (by simp; omega)
end Go.Proofs.Ytcdnekhpeghkiaa
