/-
  An argument that is a chain (a slice of points, and whether it is closed), by value: opened; and how readings stay behind a walk that keeps what lay in memory.
-/
import Derived.Test.YtjmagehfkcnjjaaGreatDoorSegRow
import Derived.Deep.Slices
import Derived.Carry
namespace Go.Proofs.YtjmagehfkcnjjaaGreatDoor
set_option linter.unusedVariables false
open Go.ChangeShapes Go.WideShapes Go.ChangeAt Go.RowKit Go.Joins Go.Deep

/-- points that lie one behind the other in memory -/
def PtsAt (w : World) (v : Value) (pts : List (Int × Int)) : Prop :=
  (v = .slice none 0 0 ∧ pts = []) ∨ (∃ a c, v = .slice (some a) 0 c ∧ pts = []) ∨ ∃ b o c, v = .slice (some ⟨b, o, none⟩) pts.length c ∧ b < w.heap.size ∧ pts.length ≤ c ∧ c ≤ maxLen ∧ ∀ (i : Nat) (p : Int × Int), pts[i]? = some p → w.cell? ⟨b, o + i * 2, none⟩ = some (.int .i64 p.1) ∧ w.cell? ⟨b, o + i * 2 + 1, none⟩ = some (.int .i64 p.2)

section
variable {H : Type} {enc : TypeId × Value → H} {P : Program}
theorem cells_two {W : World} {a : Addr} {cs : List Value} (h : W.cells? 0 a 2 = some cs) : ∃ u v, cs = [u, v] ∧ W.cell? (a.add 0) = some u ∧ W.cell? (a.add 1) = some v := by
  unfold World.cells? at h
  rw [if_pos (Nat.zero_le _)] at h
  have e : List.range 2 = [0, 1] := rfl
  rw [e] at h
  simp only [List.mapM_cons, List.mapM_nil] at h
  cases h0 : W.cell? (a.add 0) with
  | none => rw [h0] at h; simp at h
  | some u =>
    cases h1 : W.cell? (a.add 1) with
    | none => rw [h0, h1] at h; simp at h
    | some v =>
      rw [h0, h1] at h
      simp at h
      exact ⟨u, v, h.symm, rfl, rfl⟩
theorem open_pts {W : World} {hd : Bool} {ts tp ti : TypeId} {g0 g1 : Field} {n : Nat} {sv : Value} {x : DataW H × List MemPlace} (ht : P.underlying ts = some (.slice tp))
    (hp : P.underlying tp = some (.struct #[g0, g1])) (o0 : g0.offset = 0) (o1 : g1.offset = 1) (t0 : g0.type = ti) (t1 : g1.type = ti) (ci : P.cellsOf ti = 1) (c2 : P.cellsOf tp = 2) (hi : P.underlying ti = some (.int .i64))
    (h : DataW.trod enc P W 0 (fun _ => true) hd n ts [sv] = some x) : ∃ pts, PtsAt W sv pts ∧ ∀ p ∈ pts, (Lit.int .i64 p.1).wf = true ∧ (Lit.int .i64 p.2).wf = true := by
  rcases Go.Deep.open_slice ht h with ⟨hc, _⟩ | ⟨a, len, cap, m, n', D, Pl, hc, _, hle, hmax, hm, _, hel⟩
  · obtain rfl : sv = .slice none 0 0 := by simpa using hc
    exact ⟨[], .inl ⟨rfl, rfl⟩, fun p hp => by simp at hp⟩
  · obtain rfl : sv = .slice (some a) len cap := by simpa using hc
    have hlm : len ≤ m := by rw [hm]; simp; omega
    by_cases h0 : len = 0
    · subst h0
      exact ⟨[], .inr (.inl ⟨a, cap, rfl, rfl⟩), fun p hp => by simp at hp⟩
    · have each : ∀ i, i < len → ∃ p q : Int, W.cell? ((a.add (i * 2)).add 0) = some (.int .i64 p) ∧ W.cell? ((a.add (i * 2)).add 1) = some (.int .i64 q) ∧ (Lit.int .i64 p).wf = true ∧ (Lit.int .i64 q).wf = true := by
        intro i hi'
        obtain ⟨cs, e1, e2⟩ := hel i (by omega)
        rw [c2] at e1
        obtain ⟨u, v, rfl, e3, e4⟩ := cells_two e1
        obtain ⟨p, q, rfl, rfl, _, w1, w2⟩ := trod_pt hp o0 o1 t0 t1 ci hi e2
        exact ⟨p, q, e3, e4, w1, w2⟩
      obtain ⟨b, off, spot⟩ := a
      obtain ⟨p0, q0, e0, _⟩ := each 0 (by omega)
      have hspot : spot = none := by simpa [Addr.add] using World.cell?_spot e0
      subst hspot
      have hb : b < W.heap.size := World.block_lt_of_cell? W _ e0 |> (by simpa [Addr.add] using ·)
      have pick : ∀ i : Nat, ∃ r : Int × Int, i < len → W.cell? ⟨b, off + i * 2, none⟩ = some (.int .i64 r.1) ∧ W.cell? ⟨b, off + i * 2 + 1, none⟩ = some (.int .i64 r.2) ∧ (Lit.int .i64 r.1).wf = true ∧ (Lit.int .i64 r.2).wf = true := by
        intro i
        by_cases hi' : i < len
        · obtain ⟨p, q, e1, e2, w1, w2⟩ := each i hi'
          refine ⟨(p, q), fun _ => ⟨?_, ?_, w1, w2⟩⟩
          · rw [Go.WideShapes.add_plain, Go.WideShapes.add_plain] at e1
            simpa using e1
          · rw [Go.WideShapes.add_plain, Go.WideShapes.add_plain] at e2
            exact e2
        · exact ⟨(0, 0), fun k => absurd k hi'⟩
      refine ⟨(List.range len).map fun i => (pick i).choose, .inr (.inr ⟨b, off, cap, by simp, hb, by simpa using hle, hmax, fun i p hpi => ?_⟩), fun p hp' => ?_⟩
      · rw [List.getElem?_map] at hpi
        have hi' : i < len := by
          rcases Nat.lt_or_ge i len with k | k
          · exact k
          · rw [List.getElem?_eq_none (by simpa using k)] at hpi; cases hpi
        rw [List.getElem?_range hi'] at hpi
        obtain rfl := Option.some.inj hpi
        have := (pick i).choose_spec hi'
        exact ⟨this.1, this.2.1⟩
      · obtain ⟨i, hi', rfl⟩ := List.mem_map.1 hp'
        exact ((pick i).choose_spec (List.mem_range.1 hi')).2.2
theorem open_chain {W : World} {r : Reach} {b0 : Nat} {hd : Bool} {t ts tp ti tb : TypeId} {f0 f1 g0 g1 : Field} {v : Value} {d : DataW H} {ps : List MemPlace}
    (hs : P.underlying t = some (.struct #[f0, f1])) (hone : oneCellFields P #[f0, f1] = true) (hC : P.cellsOf t = 2) (e0 : f0.type = ts) (e1 : f1.type = tb) (ht : P.underlying ts = some (.slice tp)) (hb : P.underlying tb = some .bool)
    (hp : P.underlying tp = some (.struct #[g0, g1])) (o0 : g0.offset = 0) (o1 : g1.offset = 1) (t0 : g0.type = ti) (t1 : g1.type = ti) (ci : P.cellsOf ti = 1) (c2 : P.cellsOf tp = 2) (hi : P.underlying ti = some (.int .i64))
    (hv : Value.okWide P W r b0 t v) (h : DataW.Trod enc P W 0 (fun _ => true) hd t v d ps) :
    ∃ (sv : Value) (cl : Bool) (pts : List (Int × Int)), v = .agg #[sv, .bool cl] ∧ PtsAt W sv pts ∧ ∀ p ∈ pts, (Lit.int .i64 p.1).wf = true ∧ (Lit.int .i64 p.2).wf = true := by
  obtain ⟨v0, v1, y0, y1, n, rfl, rfl, rfl, h0, h1⟩ := open_agg2 hs hone hC hv h
  rw [e0] at h0
  rw [e1] at h1
  obtain ⟨pts, hpts, hw⟩ := open_pts ht hp o0 o1 t0 t1 ci c2 hi h0
  obtain ⟨cl, e, _⟩ := DataW.trod_bool hb h1
  simp at e
  subst e
  exact ⟨v0, cl, pts, rfl, hpts, hw⟩
/-- readings stay -/
theorem trodAll_later {W : World} (hl : laidOutB P = true) : ∀ {ts : List TypeId} {vs : List Value} {ds : List (DataW H)} {ps : List MemPlace} (x : Later W) (sp : Nat → Bool), (∀ t ∈ ts, P.readableRec t = true ∧ t < P.types.size) → DataW.TrodAll enc P W 0 (fun _ => true) true ts vs ds ps →
    (∀ p ∈ ps, p.block < W.heap.size) → (∀ p ∈ ps, sp p.block = true) → DataW.TrodAll enc P x.out 0 sp true ts vs ds ps
  | [], [], [], _, x, sp, _, h, _, _ => h
  | t :: ts, v :: vs, d :: ds, _, x, sp, hr, ⟨p, q, h1, h2, e⟩, hlt, hsp => by
    subst e
    refine ⟨p, q, WideElems.Trod_stays hl (hr t (by simp)).1 (hr t (by simp)).2 h1 (fun y hy => x.below.same (hlt y (List.mem_append_left _ hy))) (fun y hy => hsp y (List.mem_append_left _ hy)), ?_, rfl⟩
    exact trodAll_later hl x sp (fun t' h' => hr t' (List.mem_cons_of_mem _ h')) h2 (fun y hy => hlt y (List.mem_append_right _ hy)) (fun y hy => hsp y (List.mem_append_right _ hy))
theorem all_read {ts : List TypeId} (h : (ts.all fun t => P.readableRec t && decide (t < P.types.size)) = true) : ∀ t ∈ ts, P.readableRec t = true ∧ t < P.types.size := fun t ht => by
  have := List.all_eq_true.1 h t ht
  simpa using this
end
end Go.Proofs.YtjmagehfkcnjjaaGreatDoor
