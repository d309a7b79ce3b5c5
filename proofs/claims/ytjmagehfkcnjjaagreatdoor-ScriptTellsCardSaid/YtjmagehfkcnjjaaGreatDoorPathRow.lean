/-
  An argument that is a path (a slice of verbs, and one of points), by value: opened.
-/
import Derived.Test.YtjmagehfkcnjjaaGreatDoorChainRow
namespace Go.Proofs.YtjmagehfkcnjjaaGreatDoor
set_option linter.unusedVariables false
open Go.ChangeShapes Go.WideShapes Go.ChangeAt Go.RowKit Go.Joins Go.Deep

/-- whole numbers that lie one behind the other in memory -/
def IntsAt (w : World) (v : Value) (l : List Int) : Prop :=
  (v = .slice none 0 0 ∧ l = []) ∨ (∃ a c, v = .slice (some a) 0 c ∧ l = []) ∨ ∃ b o c, v = .slice (some ⟨b, o, none⟩) l.length c ∧ b < w.heap.size ∧ l.length ≤ c ∧ c ≤ maxLen ∧ ∀ (i : Nat) (p : Int), l[i]? = some p → w.cell? ⟨b, o + i, none⟩ = some (.int .i64 p)

section
variable {H : Type} {enc : TypeId × Value → H} {P : Program}
theorem cells_one {W : World} {a : Addr} {cs : List Value} (h : W.cells? 0 a 1 = some cs) : ∃ u, cs = [u] ∧ W.cell? (a.add 0) = some u := by
  unfold World.cells? at h
  rw [if_pos (Nat.zero_le _)] at h
  have e : List.range 1 = [0] := rfl
  rw [e] at h
  simp only [List.mapM_cons, List.mapM_nil] at h
  cases h0 : W.cell? (a.add 0) with
  | none => rw [h0] at h; simp at h
  | some u =>
    rw [h0] at h
    simp at h
    exact ⟨u, h.symm, rfl⟩
theorem open_ints {W : World} {hd : Bool} {ts ti : TypeId} {n : Nat} {sv : Value} {x : DataW H × List MemPlace} (ht : P.underlying ts = some (.slice ti))
    (ci : P.cellsOf ti = 1) (hi : P.underlying ti = some (.int .i64))
    (h : DataW.trod enc P W 0 (fun _ => true) hd n ts [sv] = some x) : ∃ l, IntsAt W sv l ∧ ∀ p ∈ l, (Lit.int .i64 p).wf = true := by
  rcases Go.Deep.open_slice ht h with ⟨hc, _⟩ | ⟨a, len, cap, m, n', D, Pl, hc, _, hle, hmax, hm, _, hel⟩
  · obtain rfl : sv = .slice none 0 0 := by simpa using hc
    exact ⟨[], .inl ⟨rfl, rfl⟩, fun p hp => by simp at hp⟩
  · obtain rfl : sv = .slice (some a) len cap := by simpa using hc
    have hlm : len ≤ m := by rw [hm]; simp; omega
    by_cases h0 : len = 0
    · subst h0
      exact ⟨[], .inr (.inl ⟨a, cap, rfl, rfl⟩), fun p hp => by simp at hp⟩
    · have each : ∀ i, i < len → ∃ p : Int, W.cell? ((a.add (i * 1)).add 0) = some (.int .i64 p) ∧ (Lit.int .i64 p).wf = true := by
        intro i hi'
        obtain ⟨cs, e1, e2⟩ := hel i (by omega)
        rw [ci] at e1
        obtain ⟨u, rfl, e3⟩ := cells_one e1
        obtain ⟨p, hc, _, w1⟩ := DataW.trod_int hi e2
        simp at hc
        subst hc
        exact ⟨p, e3, w1⟩
      obtain ⟨b, off, spot⟩ := a
      obtain ⟨p0, e0, _⟩ := each 0 (by omega)
      have hspot : spot = none := by simpa [Addr.add] using World.cell?_spot e0
      subst hspot
      have hb : b < W.heap.size := World.block_lt_of_cell? W _ e0 |> (by simpa [Addr.add] using ·)
      have pick : ∀ i : Nat, ∃ r : Int, i < len → W.cell? ⟨b, off + i, none⟩ = some (.int .i64 r) ∧ (Lit.int .i64 r).wf = true := by
        intro i
        by_cases hi' : i < len
        · obtain ⟨p, e1, w1⟩ := each i hi'
          refine ⟨p, fun _ => ⟨?_, w1⟩⟩
          rw [Go.WideShapes.add_plain, Go.WideShapes.add_plain] at e1
          simpa using e1
        · exact ⟨0, fun k => absurd k hi'⟩
      refine ⟨(List.range len).map fun i => (pick i).choose, .inr (.inr ⟨b, off, cap, by simp, hb, by simpa using hle, hmax, fun i p hpi => ?_⟩), fun p hp' => ?_⟩
      · rw [List.getElem?_map] at hpi
        have hi' : i < len := by
          rcases Nat.lt_or_ge i len with k | k
          · exact k
          · rw [List.getElem?_eq_none (by simpa using k)] at hpi; cases hpi
        rw [List.getElem?_range hi'] at hpi
        obtain rfl := Option.some.inj hpi
        exact ((pick i).choose_spec hi').1
      · obtain ⟨i, hi', rfl⟩ := List.mem_map.1 hp'
        exact ((pick i).choose_spec (List.mem_range.1 hi')).2
theorem open_path {W : World} {r : Reach} {b0 : Nat} {hd : Bool} {t ts tp ti tv : TypeId} {f0 f1 g0 g1 : Field} {v : Value} {d : DataW H} {ps : List MemPlace}
    (hs : P.underlying t = some (.struct #[f0, f1])) (hone : oneCellFields P #[f0, f1] = true) (hC : P.cellsOf t = 2) (e0 : f0.type = tv) (e1 : f1.type = ts) (hv' : P.underlying tv = some (.slice ti)) (ht : P.underlying ts = some (.slice tp))
    (hp : P.underlying tp = some (.struct #[g0, g1])) (o0 : g0.offset = 0) (o1 : g1.offset = 1) (t0 : g0.type = ti) (t1 : g1.type = ti) (ci : P.cellsOf ti = 1) (c2 : P.cellsOf tp = 2) (hi : P.underlying ti = some (.int .i64))
    (hv : Value.okWide P W r b0 t v) (h : DataW.Trod enc P W 0 (fun _ => true) hd t v d ps) :
    ∃ (vv sv : Value) (vs : List Int) (pts : List (Int × Int)), v = .agg #[vv, sv] ∧ IntsAt W vv vs ∧ PtsAt W sv pts ∧ (∀ p ∈ vs, (Lit.int .i64 p).wf = true) ∧ ∀ p ∈ pts, (Lit.int .i64 p.1).wf = true ∧ (Lit.int .i64 p.2).wf = true := by
  obtain ⟨v0, v1, y0, y1, n, rfl, rfl, rfl, h0, h1⟩ := open_agg2 hs hone hC hv h
  rw [e0] at h0
  rw [e1] at h1
  obtain ⟨vs, hvs, hw⟩ := open_ints hv' ci hi h0
  obtain ⟨pts, hpts, hw'⟩ := open_pts ht hp o0 o1 t0 t1 ci c2 hi h1
  exact ⟨v0, v1, vs, pts, rfl, hvs, hpts, hw, hw'⟩
end
theorem IntsAt.below {w w' : World} {B : Nat} {v : Value} {l : List Int} (h : IntsAt w v l) (k : Below B w w') (hB : w.heap.size ≤ B) : IntsAt w' v l := by
  rcases h with h | h | ⟨b, o, c, rfl, hb, hc, hm, hp⟩
  · exact .inl h
  · exact .inr (.inl h)
  · refine .inr (.inr ⟨b, o, c, rfl, ?_, hc, hm, fun i p hi => ?_⟩)
    · have := k.block b (by omega)
      rw [Array.getElem?_eq_getElem hb] at this
      exact (Array.getElem?_eq_some_iff.1 this).1
    · have h1 := hp i p hi
      exact (k.cell (p := ⟨b, o + i, none⟩) (by show b < B; omega)).trans h1
theorem IntsAt.later {W : World} {v : Value} {l : List Int} (h : IntsAt W v l) (x : Later W) : IntsAt x.out v l := h.below x.below (Nat.le_refl _)
theorem IntsAt.alloc {W : World} {v : Value} {l : List Int} (h : IntsAt W v l) (o : Obj) : IntsAt (W.alloc o) v l := h.below ((Below.refl _ W).alloc (Nat.le_refl _) o) (Nat.le_refl _)
theorem IntsAt.drew {W : World} {v : Value} {l : List Int} (h : IntsAt W v l) : IntsAt W.drew v l := h.below (Below.refl _ W).drew (Nat.le_refl _)
theorem IntsAt.cell {W : World} {v : Value} {l : List Int} (h : IntsAt W v l) (h0 : l ≠ []) : ∃ b o c, v = .slice (some ⟨b, o, none⟩) l.length c ∧ b < W.heap.size ∧ l.length ≤ c ∧ c ≤ maxLen ∧ ∀ (i : Nat) (p : Int), l[i]? = some p → W.cell? ⟨b, o + i, none⟩ = some (.int .i64 p) := by
  rcases h with ⟨_, h⟩ | ⟨_, _, _, h⟩ | h
  · exact absurd h h0
  · exact absurd h h0
  · exact h
theorem IntsAt.form {W : World} {v : Value} {l : List Int} (h : IntsAt W v l) : ∃ a c, v = .slice a l.length c := by
  rcases h with ⟨rfl, rfl⟩ | ⟨a, c, rfl, rfl⟩ | ⟨b, o, c, rfl, _⟩ <;> exact ⟨_, _, rfl⟩
theorem IntsAt.le {W : World} {v : Value} {l : List Int} (h : IntsAt W v l) : l.length ≤ maxLen := by
  rcases h with ⟨h1, rfl⟩ | ⟨a, c, h1, rfl⟩ | ⟨b, o, c, h1, _, h2, h3, _⟩
  · simp
  · simp
  · omega
end Go.Proofs.YtjmagehfkcnjjaaGreatDoor
