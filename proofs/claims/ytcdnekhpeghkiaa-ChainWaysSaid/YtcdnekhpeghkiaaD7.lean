/-
  Where a chain is, at so much of its way.
-/
import Derived.Test.YtcdnekhpeghkiaaD6
import Derived.Deep.RegionHeld3
namespace Go.Proofs.Ytcdnekhpeghkiaa
set_option linter.unusedVariables false
open Go.RowKit

theorem PtsAt.below {w w' : World} {B : Nat} {v : Value} {pts : List (Int × Int)} (h : PtsAt w v pts) (k : Below B w w') (hB : w.heap.size ≤ B) : PtsAt w' v pts := by
  rcases h with h | h | ⟨b, o, c, rfl, hb, hc, hm, hp⟩
  · exact .inl h
  · exact .inr (.inl h)
  · refine .inr (.inr ⟨b, o, c, rfl, ?_, hc, hm, fun i p hi => ?_⟩)
    · have := k.block b (by omega)
      rw [Array.getElem?_eq_getElem hb] at this
      exact (Array.getElem?_eq_some_iff.1 this).1
    · obtain ⟨h1, h2⟩ := hp i p hi
      exact ⟨(k.cell (p := ⟨b, o + i * 2, none⟩) (by show b < B; omega)).trans h1, (k.cell (p := ⟨b, o + i * 2 + 1, none⟩) (by show b < B; omega)).trans h2⟩
theorem own_cap {w : World} {base g n cap size : Nat} {e : TypeId} {xs : List Value} (h : w.ownsRow base e size (.slice (some ⟨g, 0, none⟩) n cap) n xs) : n ≤ cap := by
  rcases h.2 with ⟨h', _⟩ | ⟨g', cap', cur, h', _, _, hnc, _⟩
  · simp at h'
  · simp only [Value.slice.injEq] at h'
    obtain ⟨_, _, rfl⟩ := h'
    exact hnc
/-- what Lens hands back, for the ruler -/
def LM (w : World) (C : Ch) (M : Nat) (e : Ending) (w' : World) : Prop := ∃ gl cap, e = .returned (.slice (some ⟨gl, 0, none⟩) M cap) ∧ w.heap.size ≤ gl ∧ LnsB w' gl C ∧ M ≤ cap ∧ ∃ x : Later w, w' = x.out
theorem lensM_c (cl : Bool) (pts : List (Int × Int)) (g : GoodC cl pts) (sv : Value) (w : World) (M : Nat) (hM : g.ch.m + 1 = M) (h : PtsAt w sv pts) : Calls Try.prog 21 #[.agg #[sv, .bool cl]] w (LM w g.ch M) := by
  subst hM
  refine (lens_c cl pts g sv w h).mono ?_
  rintro e w' ⟨gl, cap, rfl, hown, hx⟩
  exact ⟨gl, cap, rfl, (hown.lt gl rfl).1, LnsB.own hown, own_cap hown, hx⟩
set_option maxRecDepth 100000 in
set_option maxHeartbeats 2000000 in
theorem at_c (cl : Bool) (pts : List (Int × Int)) (g : GoodC cl pts) (sv : Value) (d : Int) (w : World) (h : PtsAt w sv pts) :
    Calls Try.prog 19 #[.agg #[sv, .bool cl], .int .i64 d] w fun e w' => e = .returned (.tuple #[.int .i64 (g.ch.ix (g.ch.held d) : Nat), .agg #[.int .i64 (g.ch.at (g.ch.held d)).1, .int .i64 (g.ch.at (g.ch.held d)).2]]) ∧ ∃ x : Later w, w' = x.out := by
  obtain ⟨M, hM⟩ : ∃ M, g.ch.m + 1 = M := ⟨_, rfl⟩
  have hlen := fun w' h' => lensM_c cl pts g sv w' M hM h'
  obtain ⟨Bp, o, c, rfl, hc, hm, hp⟩ := h.ptsB g.n1
  have hat := fun gl cap w' hp' hl hcap => rat_c cl pts g Bp o pts.length c gl M cap d w' rfl hc hp' hM.symm hl hcap
  have HLEN := Lib.hid hlen
  have HAT := Lib.hid hat
  have H := Lib.hid h
  have HP := Lib.hid hp
  have lb := hp.lt
  clear hlen hat h hp
  generalize g.ch.ix (g.ch.held d) = ix at *
  generalize g.ch.at (g.ch.held d) = p at *
  obtain ⟨p0, p1⟩ := p
  generalize hn : pts.length = n at *
  clear hn
  clear hM
  go_enter Try.func19, Try.ntmps19
  go_wp2_with (fail)
  go_region_held3 (fun w' => w'.cell? ⟨w.heap.size, 0, none⟩ = some (.slice (some ⟨Bp, o, none⟩) n c) ∧ w'.cell? ⟨w.heap.size, 1, none⟩ = some (.bool cl)) ((simp [go_sem, *]; done))
    (first | (go_at_call 21; (with_reducible refine (HLEN.out _ (H.out.below (B := w.heap.size) (by repeat (first | (with_reducible assumption) | (with_reducible exact Below.refl _ _) | (with_reducible refine Later.after ?_ _) | (with_reducible refine Later.newer ?_ _) | (with_reducible refine Below.drew ?_) | (with_reducible refine Below.setCell ?_ (by first | exact Nat.le_refl _ | exact Nat.le_add_right _ _ | omega | (simp [go_sem]; done) | (simp [go_sem]; omega)) _))) (Nat.le_refl _))).mono ?_); rintro _ _ ⟨gl, cap, rfl, hgl, hlb, hcap, x, rfl⟩; have HO := Lib.hid hlb; clear hlb) | (go_at_call 38; (with_reducible refine (HAT.out gl cap _ (HP.out.below (B := w.heap.size) (by repeat (first | (with_reducible assumption) | (with_reducible exact Below.refl _ _) | (with_reducible refine Later.after ?_ _) | (with_reducible refine Later.newer ?_ _) | (with_reducible refine Below.drew ?_) | (with_reducible refine Below.setCell ?_ (by first | exact Nat.le_refl _ | exact Nat.le_add_right _ _ | omega | (simp [go_sem]; done) | (simp [go_sem]; omega)) _))) lb) HO.out hcap).mono ?_); rintro _ _ ⟨rfl, x2, rfl⟩))
  go_wp2_with (fail)
  exact bodyPost_ret (v := .tuple #[.int .i64 ix, .agg #[.int .i64 p0, .int .i64 p1]]) (by simp [results, Try.results19, go_sem, *]) rfl ⟨rfl, (Later.mk_of (by repeat (first | (with_reducible assumption) | (with_reducible exact Below.refl _ _) | (with_reducible refine Later.after ?_ _) | (with_reducible refine Later.newer ?_ _) | (with_reducible refine Below.drew ?_) | (with_reducible refine Below.setCell ?_ (by first | exact Nat.le_refl _ | exact Nat.le_add_right _ _ | omega | (simp [go_sem]; done) | (simp [go_sem]; omega)) _))))⟩
end Go.Proofs.Ytcdnekhpeghkiaa
