/-
  The chain of a subpath.
-/
import Derived.Test.YtcdnekhpeghkiaaC1
import Derived.Test.YtcdnekhpeghkiaaS1
namespace Go.Proofs.Ytcdnekhpeghkiaa
set_option linter.unusedVariables false
open Go.RowKit

/-- segments that lie one behind the other in memory -/
def SegsAt (w : World) (v : Value) (segs : List En) : Prop :=
  (v = .slice none 0 0 ∧ segs = []) ∨ ∃ b o c, v = .slice (some ⟨b, o, none⟩) segs.length c ∧ b < w.heap.size ∧ segs.length ≤ c ∧ ∀ (i : Nat) (s : En), segs[i]? = some s → ∀ j, j < 9 → w.cell? ⟨b, o + i * 9 + j, none⟩ = some (.int .i64 (s j))
/-- the ends of all the chords, behind the beginning -/
noncomputable def chL (t : Int) (p : Int × Int) (segs : List En) : List (Int × Int) := p :: segs.flatMap (flat t).all
noncomputable def chB (closed : Bool) (l : List (Int × Int)) : Bool := closed && decide (1 < (cpt l).length) && decide ((cpt l).getLast? = (cpt l).head?)
/-- the chain's corners -/
noncomputable def chn (closed : Bool) (l : List (Int × Int)) : List (Int × Int) := if chB closed l then (cpt l).take ((cpt l).length - 1) else cpt l
/-- what Of hands back -/
def ORet (w : World) (closed : Bool) (l : List (Int × Int)) (e : Ending) (w' : World) : Prop :=
  ∃ g cap, e = .returned (.agg #[.slice (some ⟨g, 0, none⟩) l.length cap, .bool closed]) ∧ w'.ownsRow w.heap.size 23 2 (.slice (some ⟨g, 0, none⟩) l.length cap) l.length (fl l) ∧ ∃ x : Later w, w' = x.out
theorem own_one (w : World) (p : Int × Int) (W : World) (base g : Nat) (hg : g = W.heap.size) (h : base ≤ W.heap.size) : (W.alloc (.cells #[.int .i64 p.1, .int .i64 p.2] 23)).ownsRow base 23 2 (.slice (some ⟨g, 0, none⟩) 1 1) 1 (fl [p]) :=
  hg ▸ World.ownsRow_lit W #[.int .i64 p.1, .int .i64 p.2] 1 h (by unfold maxLen; omega) rfl
theorem fl_one (l : List (Int × Int)) (x : Value) (h : x ∈ fl l) : x.oneCell' = true := by
  unfold fl at h
  rw [List.mem_flatMap] at h
  obtain ⟨q, _, hq⟩ := h
  simp only [List.mem_cons, List.not_mem_nil, or_false] at hq
  rcases hq with rfl | rfl <;> rfl
theorem fl_append (a b : List (Int × Int)) : fl (a ++ b) = fl a ++ fl b := by unfold fl; rw [List.flatMap_append]
theorem own_cap {w : World} {base g n cap : Nat} {e : TypeId} {xs : List Value} (h : w.ownsRow base e 2 (.slice (some ⟨g, 0, none⟩) n cap) n xs) : n ≤ cap := by
  rcases h.2 with ⟨h', _⟩ | ⟨g', cap', cur, h', _, _, hnc, _⟩
  · simp at h'
  · simp only [Value.slice.injEq] at h'
    obtain ⟨_, _, rfl⟩ := h'
    exact hnc
structure OInv (w : World) (t : Int) (p : Int × Int) (segs : List En) (v : Value) (cl : Bool) (k : Nat) (o : Value) (out : List (Int × Int)) (W : World) : Prop where
  own : W.ownsRow (w.heap.size + 2) 23 2 o out.length (fl out)
  res : out = chL t p (segs.take k)
  most : out.length ≤ 1 + 1024 * k
  box : Blk W w.heap.size 60 #[.int .i64 p.1, .int .i64 p.2, v, .bool cl]
  box1 : Blk W (w.heap.size + 1) 36 #[.slice none 0 0, .bool false]
  below : Below w.heap.size w W
  size : w.heap.size + 2 ≤ W.heap.size


set_option maxRecDepth 100000 in
set_option maxHeartbeats 4000000 in
theorem chainOf_c (w : World) (p : Int × Int) (segs : List En) (v : Value) (cl : Bool) (t : Int) (t0 : 0 ≤ t) (t9 : t ≤ 1073741824) (hv : SegsAt w v segs) (hm : segs.length ≤ 1000) (hg : ∀ s ∈ segs, GoodE s ∧ s 9 = 0) :
    Calls Try.prog 25 #[.agg #[.int .i64 p.1, .int .i64 p.2, v, .bool cl], .int .i64 t] w (ORet w cl (chn cl (chL t p segs))) := by
  have HV := Lib.hid hv
  have HG := Lib.hid hg
  clear hg
  obtain ⟨av, cv, rfl⟩ : ∃ a c, v = .slice a segs.length c := by
    rcases hv with ⟨rfl, rfl⟩ | ⟨b, o, c, rfl, _⟩ <;> exact ⟨_, _, rfl⟩
  clear hv
  generalize hM : segs.length = M at *
  have HM := Lib.hid hM
  clear hM
  go_enter Try.func25, Try.ntmps25
  go_wp2_with (fail)
  obtain ⟨i0, hi0, hz0, hz1, hz2⟩ := infoPt
  go_loopw [5, 15] (fun o u wr => ∃ (k : Nat) (out : List (Int × Int)), k ≤ M ∧ u = .int .i64 k ∧ OInv w t p segs (.slice av M cv) cl k o out wr) (fun _ u _ => M - (intOf u).toNat)
  case atStart => exact ⟨0, [p], by omega, rfl, ⟨own_one w p ((w.alloc (.cells #[.int .i64 p.1, .int .i64 p.2, .slice av M cv, .bool cl] 60)).alloc (.cells #[.slice none 0 0, .bool false] 36)) (w.heap.size + 2) _ (by simp) (by simp), by simp [chL], by simp, ((Blk.new _ _ _).alloc _).alloc _, (Blk.new' (by simp)).alloc _, (by repeat (first | (with_reducible assumption) | (with_reducible exact Below.refl _ _) | (with_reducible refine Later.after ?_ _) | (with_reducible refine Later.newer ?_ _) | (with_reducible refine Below.drew ?_) | (with_reducible refine Below.setCell ?_ (by first | exact Nat.le_refl _ | exact Nat.le_add_right _ _ | omega | (simp [go_sem]; done) | (simp [go_sem]; omega)) _))), by simp⟩⟩
  case round =>
    obtain ⟨k, out, hk, rfl, hI⟩ := hrel
    by_cases hlt : k < M
    · obtain ⟨s, hs⟩ : ∃ s, segs[k]? = some s := ⟨_, List.getElem?_eq_getElem (by rw [HM.out]; exact hlt)⟩
      obtain ⟨b, off, c, hvv, hbw, hle, hcell⟩ : ∃ b o c, Value.slice av M cv = .slice (some ⟨b, o, none⟩) M c ∧ b < w.heap.size ∧ M ≤ c ∧ ∀ (i : Nat) (s : En), segs[i]? = some s → ∀ j, j < 9 → w.cell? ⟨b, o + i * 9 + j, none⟩ = some (.int .i64 (s j)) := by
        rcases HV.out with ⟨h, e⟩ | h
        · rw [e] at hs; simp at hs
        · rw [HM.out] at h; exact h
      simp only [Value.slice.injEq, true_and] at hvv
      obtain ⟨rfl, rfl⟩ := hvv
      obtain ⟨g, g9⟩ := HG.out s (List.mem_of_getElem? hs)
      have hcs := fun j hj => (hI.below.cell (p := ⟨b, off + k * 9 + j, none⟩) hbw).trans (hcell k s hs j hj)
      have f0 := hcs 0 (by omega)
      have f1 := hcs 1 (by omega)
      have f2 := hcs 2 (by omega)
      have f3 := hcs 3 (by omega)
      have f4 := hcs 4 (by omega)
      have f5 := hcs 5 (by omega)
      have f6 := hcs 6 (by omega)
      have f7 := hcs 7 (by omega)
      have f8 := hcs 8 (by omega)
      simp only [Nat.add_zero] at f0
      have hp := fun v => points_E s g g9 t t0 (by omega) v
      have hl := flat_len t s g
      have eout : chL t p (segs.take (k + 1)) = chL t p (segs.take k) ++ (flat t).all s := by
        unfold chL
        rw [List.take_add_one, hs]
        simp
      generalize hL : (flat t).all s = L at *
      have lbw : b < wr.heap.size := Nat.lt_of_lt_of_le hbw hI.below.size
      have lw2 := hI.size
      have hmo := hI.most
      have HI := Lib.hid hI
      have HE := Lib.hid eout
      have HP := Lib.hid hp
      clear hI eout hp hL hs hcs hcell hle g g9
      have hd : decide (k < M) = true := by simp [hlt]
      go_wp2_with (first | (go_at_call 14; (with_reducible refine (HP.out _).mono ?_); intro _ _ hsr; obtain ⟨o2, rfl, own2, x1, rfl⟩ := hsr; obtain ⟨g2, cap2, rfl⟩ := Go.Joins.ownsRow_form own2 (by omega); have H2 := Lib.hid own2; clear own2) | (at_builtin; refine wpList_append_own _ rfl _ _ 30 rfl (w.heap.size + 2) 23 i0 (.agg #[.int .i64 0, .int .i64 0]) 2 16 Try.underlying30 hi0 hz0 hz1 hz2 rfl (by decide) _ _ _ rfl (own_later (HI.out.own.alloc _) x1) ⟨g2, 0, none⟩ L.length cap2 (fl L) rfl (fl_len L) (H2.out.cells rfl) (fun x hx => fl_one L x hx) (by unfold maxLen; omega) (by omega) (by have := x1.size_le; simp at this; omega) ?_; intro v' w3 hown hgrow hnil; have HO := Lib.hid hown; have HW := Lib.hid hgrow; clear hown hgrow hnil))
      have hl1 : w.heap.size + 2 ≤ x1.out.heap.size := by have := x1.size_le; simp only [World.size_alloc] at this; omega
      have hgs : ∀ r, u5.ownBlock = some r → w.heap.size + 2 ≤ r := fun r hr => (HI.out.own.lt r hr).1
      have hb1 : Below w.heap.size w x1.out := ((HI.out.below.alloc HI.out.below.size _).trans (x1.below.mono (by simp only [World.size_alloc]; omega)))
      go_roundw
      case rel => exact ⟨k + 1, out ++ L, by omega, by go_num, ⟨by have h := HO.out; rw [← fl_append] at h; simpa using h, by rw [HE.out, ← HI.out.res], by simp only [List.length_append]; omega, (((HI.out.box.alloc _).later x1).grown HW.out hgs (by omega)), (((HI.out.box1.alloc _).later x1).grown HW.out hgs (by omega)), Below.grown hb1 HW.out hb1.size (fun j hj => by have := hgs j hj; omega), Nat.le_trans hl1 HW.out.size⟩⟩
      case measure => simp [intOf]; omega
    · obtain rfl : k = M := by omega
      have eres : out = chL t p segs := by have h := hI.res; rwa [← HM.out, List.take_length] at h
      have own0 := hI.own
      have hol : 1 ≤ out.length := by rw [eres]; simp [chL]
      obtain ⟨g, cap, rfl, hc⟩ := compact_own wr (w.heap.size + 2) u5 out own0 hol (by have := hI.most; omega)
      obtain ⟨cb, zb, lb⟩ := hI.box.all
      have sz := hI.size
      have gl := own0.lt g rfl
      have capO := own_cap own0
      have HI := Lib.hid hI
      have hc0 := hc
      have HR := Lib.hid eres
      clear hI hc own0 eres
      have hn1 := cpt_ne out (by intro e; rw [e] at hol; simp at hol)
      have hnl : 1 ≤ (cpt out).length := by
        cases h : cpt out with
        | nil => exact absurd h hn1
        | cons a r => simp
      have hn9 : (cpt out).length ≤ out.length := cpt_len out
      have hmo := HI.out.most
      obtain ⟨m, hm⟩ : ∃ m, (cpt out).length = m + 1 := ⟨(cpt out).length - 1, by omega⟩
      obtain ⟨⟨x0, y0⟩, e0⟩ : ∃ q, (cpt out)[0]? = some q := ⟨_, List.getElem?_eq_getElem (by omega)⟩
      obtain ⟨⟨x9, y9⟩, e9⟩ : ∃ q, (cpt out)[m]? = some q := ⟨_, List.getElem?_eq_getElem (by omega)⟩
      have ehd : (cpt out).head? = some (x0, y0) := by rw [List.head?_eq_getElem?]; exact e0
      have els : (cpt out).getLast? = some (x9, y9) := by rw [List.getLast?_eq_getElem?, hm]; simpa using e9
      have ech : chn cl out = if cl && decide (0 < m) && decide ((x9, y9) = (x0, y0)) then (cpt out).take m else cpt out := by
        unfold chn chB
        rw [ehd, els, hm]
        simp
      have hcl9 : (cpt out).length ≤ 2000000 := by omega
      unfold CRet at hc0
      have HECH := Lib.hid ech
      generalize hL : cpt out = L at *
      have HCP := Lib.hid hL
      obtain ⟨M1, hM1⟩ : ∃ M1, M1 = m + 1 := ⟨_, rfl⟩
      have hm1 : L.length = M1 := by omega
      rw [hm1] at hc0 hcl9
      have HC := Lib.hid hc0
      have HLen := Lib.hid hm1
      have HE0 := Lib.hid e0
      have HE9 := Lib.hid e9
      have HM1 := Lib.hid hM1
      have M9 : (M1 : Int) ≤ 2000000 := by omega
      have M0 : (0 : Int) < M1 := by omega
      have m0' : (0 : Int) ≤ m := by omega
      have d1 : IntKind.i64.wrap ((M1 : Int) - 1) = (m : Int) := by rw [IntWalk.i64_in _ (by omega)]; omega
      have d2 : wrap64 ((M1 : Int) - 1) = (m : Int) := by unfold wrap64; omega
      have d3 : (M1 : Int) - 1 = (m : Int) := by omega
      have mM : m < M1 := by omega
      have mM2 : m ≤ M1 := by omega
      have mp : 0 < M1 := by omega
      have mc : m ≤ cap := by omega
      have cp : (cap = 0) = False := eq_false (by omega)
      have cp' : (0 = cap) = False := eq_false (by omega)
      clear hc0 hm1 e0 e9 hM1 hn1 ehd els ech hL hmo hnl hn9 hm hcl9
      cases cl
      · have HQ : Hid (True) := Lib.hid trivial
        go_wp2_with (go_at_call 39; (with_reducible refine (HC.out).mono ?_); rintro _ w4 ⟨rfl, hO⟩; have HOO := Lib.hid hO; have bb := HI.out.box.grown hO.grown (N := w.heap.size + 2) (fun r hr => by cases hr; omega) (by omega); have b1 := HI.out.box1.grown hO.grown (N := w.heap.size + 2) (fun r hr => by cases hr; omega) (by omega); obtain ⟨cb', zb', lb'⟩ := bb.all; obtain ⟨c1', z1', l1'⟩ := b1.all; obtain ⟨r0, r1⟩ := hO.cells 0 _ HE0.out; obtain ⟨r8, r9⟩ := hO.cells m _ HE9.out; have lg' := hO.lt; have gr := Lib.hid hO.grown; clear hO bb b1 cb zb lb)
        refine wp_region_later (by kernel_rfl) (by kernel_rfl) ?_
        repeat (go_big_quiet_step ((first | fail)))
        refine wpQuiet_nil ?_
        intro x
        go_wp2_with (fail)
        have hb9 : Below w.heap.size w w4 := Below.grown HI.out.below gr.out HI.out.below.size (fun j hj => by cases hj; omega)
        have eR : chn false out = L := by rw [HECH.out]; simp [HQ.out, HCP.out]
        have eL : (L).length = M1 := HLen.out
        have ow : w4.ownsRow w.heap.size 23 2 (.slice (some ⟨g, 0, none⟩) M1 cap) M1 (fl (L)) := own_base HOO.out.own (by omega)
        refine bodyPost_ret (v := .agg #[.slice (some ⟨g, 0, none⟩) M1 cap, .bool false]) (by simp [results, Try.results25, go_sem, *]) rfl ?_
        unfold ORet
        rw [← HR.out, eR, eL]
        exact ⟨g, cap, rfl, Go.ownsRow_setCell_other (Go.ownsRow_setCell_other (own_later ow x) (by simp only [Value.ownBlock]; intro h; cases h; omega) _) (by simp only [Value.ownBlock]; intro h; cases h; omega) _, Later.mk_of (by repeat (first | (with_reducible assumption) | (with_reducible exact Below.refl _ _) | (with_reducible refine Later.after ?_ _) | (with_reducible refine Later.newer ?_ _) | (with_reducible refine Below.drew ?_) | (with_reducible refine Below.setCell ?_ (by first | exact Nat.le_refl _ | exact Nat.le_add_right _ _ | omega | (simp [go_sem]; done) | (simp [go_sem]; omega)) _)))⟩
      · by_cases hm0 : m = 0
        · have q1 : decide (1 < M1) = false := by have := HM1.out; simp; omega
          have q2 : decide ((1 : Int) < M1) = false := by have := HM1.out; simp; omega
          have HQ : Hid (decide (0 < m) = false) := Lib.hid (by simp [hm0])
          clear hm0
          go_wp2_with (go_at_call 39; (with_reducible refine (HC.out).mono ?_); rintro _ w4 ⟨rfl, hO⟩; have HOO := Lib.hid hO; have bb := HI.out.box.grown hO.grown (N := w.heap.size + 2) (fun r hr => by cases hr; omega) (by omega); have b1 := HI.out.box1.grown hO.grown (N := w.heap.size + 2) (fun r hr => by cases hr; omega) (by omega); obtain ⟨cb', zb', lb'⟩ := bb.all; obtain ⟨c1', z1', l1'⟩ := b1.all; obtain ⟨r0, r1⟩ := hO.cells 0 _ HE0.out; obtain ⟨r8, r9⟩ := hO.cells m _ HE9.out; have lg' := hO.lt; have gr := Lib.hid hO.grown; clear hO bb b1 cb zb lb)
          refine wp_region_later (by kernel_rfl) (by kernel_rfl) ?_
          repeat (go_big_quiet_step ((first | fail)))
          refine wpQuiet_nil ?_
          intro x
          go_wp2_with (fail)
          have hb9 : Below w.heap.size w w4 := Below.grown HI.out.below gr.out HI.out.below.size (fun j hj => by cases hj; omega)
          have eR : chn true out = L := by rw [HECH.out]; simp [HQ.out, HCP.out]
          have eL : (L).length = M1 := HLen.out
          have ow : w4.ownsRow w.heap.size 23 2 (.slice (some ⟨g, 0, none⟩) M1 cap) M1 (fl (L)) := own_base HOO.out.own (by omega)
          refine bodyPost_ret (v := .agg #[.slice (some ⟨g, 0, none⟩) M1 cap, .bool true]) (by simp [results, Try.results25, go_sem, *]) rfl ?_
          unfold ORet
          rw [← HR.out, eR, eL]
          exact ⟨g, cap, rfl, Go.ownsRow_setCell_other (Go.ownsRow_setCell_other (own_later ow x) (by simp only [Value.ownBlock]; intro h; cases h; omega) _) (by simp only [Value.ownBlock]; intro h; cases h; omega) _, Later.mk_of (by repeat (first | (with_reducible assumption) | (with_reducible exact Below.refl _ _) | (with_reducible refine Later.after ?_ _) | (with_reducible refine Later.newer ?_ _) | (with_reducible refine Below.drew ?_) | (with_reducible refine Below.setCell ?_ (by first | exact Nat.le_refl _ | exact Nat.le_add_right _ _ | omega | (simp [go_sem]; done) | (simp [go_sem]; omega)) _)))⟩
        · have q1 : decide (1 < M1) = true := by have := HM1.out; simp; omega
          have q2 : decide ((1 : Int) < M1) = true := by have := HM1.out; simp; omega
          have hm0' : 0 < m := by omega
          by_cases ex : x9 = x0
          · by_cases ey : y9 = y0
            · have HQ : Hid (decide (0 < m) = true ∧ x9 = x0 ∧ y9 = y0) := Lib.hid ⟨by simp [hm0'], ex, ey⟩
              subst ex
              subst ey
              clear hm0
              go_wp2_with (go_at_call 39; (with_reducible refine (HC.out).mono ?_); rintro _ w4 ⟨rfl, hO⟩; have HOO := Lib.hid hO; have bb := HI.out.box.grown hO.grown (N := w.heap.size + 2) (fun r hr => by cases hr; omega) (by omega); have b1 := HI.out.box1.grown hO.grown (N := w.heap.size + 2) (fun r hr => by cases hr; omega) (by omega); obtain ⟨cb', zb', lb'⟩ := bb.all; obtain ⟨c1', z1', l1'⟩ := b1.all; obtain ⟨r0, r1⟩ := hO.cells 0 _ HE0.out; obtain ⟨r8, r9⟩ := hO.cells m _ HE9.out; have lg' := hO.lt; have gr := Lib.hid hO.grown; clear hO bb b1 cb zb lb)
              refine wp_region_later (by kernel_rfl) (by kernel_rfl) ?_
              repeat (go_big_quiet_step ((first | fail)))
              refine wpQuiet_nil ?_
              intro x
              go_wp2_with (fail)
              have hb9 : Below w.heap.size w w4 := Below.grown HI.out.below gr.out HI.out.below.size (fun j hj => by cases hj; omega)
              have eR : chn true out = L.take m := by rw [HECH.out]; simp [HQ.out, HCP.out]
              have eL : (L.take m).length = m := by rw [List.length_take, HLen.out]; omega
              have ow : w4.ownsRow w.heap.size 23 2 (.slice (some ⟨g, 0, none⟩) m cap) m (fl (L.take m)) := by have h := own_take HOO.out.own mM2; rw [fl_take] at h; exact own_base h (by omega)
              refine bodyPost_ret (v := .agg #[.slice (some ⟨g, 0, none⟩) m cap, .bool true]) (by simp [results, Try.results25, go_sem, *]) rfl ?_
              unfold ORet
              rw [← HR.out, eR, eL]
              exact ⟨g, cap, rfl, Go.ownsRow_setCell_other (Go.ownsRow_setCell_other (own_later ow x) (by simp only [Value.ownBlock]; intro h; cases h; omega) _) (by simp only [Value.ownBlock]; intro h; cases h; omega) _, Later.mk_of (by repeat (first | (with_reducible assumption) | (with_reducible exact Below.refl _ _) | (with_reducible refine Later.after ?_ _) | (with_reducible refine Later.newer ?_ _) | (with_reducible refine Below.drew ?_) | (with_reducible refine Below.setCell ?_ (by first | exact Nat.le_refl _ | exact Nat.le_add_right _ _ | omega | (simp [go_sem]; done) | (simp [go_sem]; omega)) _)))⟩
            · have HQ : Hid (¬ ((x9, y9) = (x0, y0))) := Lib.hid (fun e => ey (congrArg Prod.snd e))
              have ey' : (y9 == y0) = false := by simp [ey]
              subst ex
              clear ey hm0
              go_wp2_with (go_at_call 39; (with_reducible refine (HC.out).mono ?_); rintro _ w4 ⟨rfl, hO⟩; have HOO := Lib.hid hO; have bb := HI.out.box.grown hO.grown (N := w.heap.size + 2) (fun r hr => by cases hr; omega) (by omega); have b1 := HI.out.box1.grown hO.grown (N := w.heap.size + 2) (fun r hr => by cases hr; omega) (by omega); obtain ⟨cb', zb', lb'⟩ := bb.all; obtain ⟨c1', z1', l1'⟩ := b1.all; obtain ⟨r0, r1⟩ := hO.cells 0 _ HE0.out; obtain ⟨r8, r9⟩ := hO.cells m _ HE9.out; have lg' := hO.lt; have gr := Lib.hid hO.grown; clear hO bb b1 cb zb lb)
              refine wp_region_later (by kernel_rfl) (by kernel_rfl) ?_
              repeat (go_big_quiet_step ((first | fail)))
              refine wpQuiet_nil ?_
              intro x
              go_wp2_with (fail)
              have hb9 : Below w.heap.size w w4 := Below.grown HI.out.below gr.out HI.out.below.size (fun j hj => by cases hj; omega)
              have eR : chn true out = L := by rw [HECH.out]; simp [HQ.out, HCP.out]
              have eL : (L).length = M1 := HLen.out
              have ow : w4.ownsRow w.heap.size 23 2 (.slice (some ⟨g, 0, none⟩) M1 cap) M1 (fl (L)) := own_base HOO.out.own (by omega)
              refine bodyPost_ret (v := .agg #[.slice (some ⟨g, 0, none⟩) M1 cap, .bool true]) (by simp [results, Try.results25, go_sem, *]) rfl ?_
              unfold ORet
              rw [← HR.out, eR, eL]
              exact ⟨g, cap, rfl, Go.ownsRow_setCell_other (Go.ownsRow_setCell_other (own_later ow x) (by simp only [Value.ownBlock]; intro h; cases h; omega) _) (by simp only [Value.ownBlock]; intro h; cases h; omega) _, Later.mk_of (by repeat (first | (with_reducible assumption) | (with_reducible exact Below.refl _ _) | (with_reducible refine Later.after ?_ _) | (with_reducible refine Later.newer ?_ _) | (with_reducible refine Below.drew ?_) | (with_reducible refine Below.setCell ?_ (by first | exact Nat.le_refl _ | exact Nat.le_add_right _ _ | omega | (simp [go_sem]; done) | (simp [go_sem]; omega)) _)))⟩
          · have HQ : Hid (¬ ((x9, y9) = (x0, y0))) := Lib.hid (fun e => ex (congrArg Prod.fst e))
            have ex' : (x9 == x0) = false := by simp [ex]
            clear ex hm0
            go_wp2_with (go_at_call 39; (with_reducible refine (HC.out).mono ?_); rintro _ w4 ⟨rfl, hO⟩; have HOO := Lib.hid hO; have bb := HI.out.box.grown hO.grown (N := w.heap.size + 2) (fun r hr => by cases hr; omega) (by omega); have b1 := HI.out.box1.grown hO.grown (N := w.heap.size + 2) (fun r hr => by cases hr; omega) (by omega); obtain ⟨cb', zb', lb'⟩ := bb.all; obtain ⟨c1', z1', l1'⟩ := b1.all; obtain ⟨r0, r1⟩ := hO.cells 0 _ HE0.out; obtain ⟨r8, r9⟩ := hO.cells m _ HE9.out; have lg' := hO.lt; have gr := Lib.hid hO.grown; clear hO bb b1 cb zb lb)
            refine wp_region_later (by kernel_rfl) (by kernel_rfl) ?_
            repeat (go_big_quiet_step ((first | fail)))
            refine wpQuiet_nil ?_
            intro x
            go_wp2_with (fail)
            have hb9 : Below w.heap.size w w4 := Below.grown HI.out.below gr.out HI.out.below.size (fun j hj => by cases hj; omega)
            have eR : chn true out = L := by rw [HECH.out]; simp [HQ.out, HCP.out]
            have eL : (L).length = M1 := HLen.out
            have ow : w4.ownsRow w.heap.size 23 2 (.slice (some ⟨g, 0, none⟩) M1 cap) M1 (fl (L)) := own_base HOO.out.own (by omega)
            refine bodyPost_ret (v := .agg #[.slice (some ⟨g, 0, none⟩) M1 cap, .bool true]) (by simp [results, Try.results25, go_sem, *]) rfl ?_
            unfold ORet
            rw [← HR.out, eR, eL]
            exact ⟨g, cap, rfl, Go.ownsRow_setCell_other (Go.ownsRow_setCell_other (own_later ow x) (by simp only [Value.ownBlock]; intro h; cases h; omega) _) (by simp only [Value.ownBlock]; intro h; cases h; omega) _, Later.mk_of (by repeat (first | (with_reducible assumption) | (with_reducible exact Below.refl _ _) | (with_reducible refine Later.after ?_ _) | (with_reducible refine Later.newer ?_ _) | (with_reducible refine Below.drew ?_) | (with_reducible refine Below.setCell ?_ (by first | exact Nat.le_refl _ | exact Nat.le_add_right _ _ | omega | (simp [go_sem]; done) | (simp [go_sem]; omega)) _)))⟩
end Go.Proofs.Ytcdnekhpeghkiaa
