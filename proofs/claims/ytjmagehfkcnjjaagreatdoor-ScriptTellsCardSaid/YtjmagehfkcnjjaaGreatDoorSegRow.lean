/-
  An argument that is a segment (an array of four points, and a number), by value: opened and shut.
-/
import Derived.Test.YtjmagehfkcnjjaaGreatDoorRow
namespace Go.Proofs.YtjmagehfkcnjjaaGreatDoor
set_option linter.unusedVariables false
open Go.ChangeShapes Go.WideShapes Go.ChangeAt Go.RowKit Go.Joins Go.Deep

theorem array9 {α : Type} {cs : Array α} (h : cs.size = 9) : ∃ c0 c1 c2 c3 c4 c5 c6 c7 c8, cs = #[c0, c1, c2, c3, c4, c5, c6, c7, c8] := by
  obtain ⟨l⟩ := cs
  match l, h with
  | [c0, c1, c2, c3, c4, c5, c6, c7, c8], _ => exact ⟨c0, c1, c2, c3, c4, c5, c6, c7, c8, rfl⟩

section
variable {H : Type} {enc : TypeId × Value → H} {P : Program}
theorem trod_pt {W : World} {base : Nat} {sp : Nat → Bool} {hd : Bool} {tp ti : TypeId} {g0 g1 : Field} {n : Nat} {a b : Value} {x : DataW H × List MemPlace}
    (hp : P.underlying tp = some (.struct #[g0, g1])) (o0 : g0.offset = 0) (o1 : g1.offset = 1) (t0 : g0.type = ti) (t1 : g1.type = ti) (ci : P.cellsOf ti = 1) (hi : P.underlying ti = some (.int .i64))
    (h : DataW.trod enc P W base sp hd n tp [a, b] = some x) : ∃ p q : Int, a = .int .i64 p ∧ b = .int .i64 q ∧ x = (.agg [.lit (.int .i64 p), .lit (.int .i64 q)], []) ∧ (Lit.int .i64 p).wf = true ∧ (Lit.int .i64 q).wf = true := by
  obtain ⟨y0, y1, m, rfl, _, h0, h1⟩ := trod_struct2 hp h
  rw [t0, ci, o0] at h0
  rw [t1, ci, o1] at h1
  obtain ⟨p, e0, rfl, w0⟩ := DataW.trod_int hi h0
  obtain ⟨q, e1, rfl, w1⟩ := DataW.trod_int hi h1
  simp at e0 e1
  exact ⟨p, q, e0, e1, rfl, w0, w1⟩
theorem trod_pt_mk {W : World} {base : Nat} {sp : Nat → Bool} {hd : Bool} {tp ti : TypeId} {g0 g1 : Field} {n : Nat} {p q : Int}
    (hp : P.underlying tp = some (.struct #[g0, g1])) (o0 : g0.offset = 0) (o1 : g1.offset = 1) (t0 : g0.type = ti) (t1 : g1.type = ti) (ci : P.cellsOf ti = 1) (d2 : P.cellsOf tp = 2) (hi : P.underlying ti = some (.int .i64))
    (w0 : (Lit.int .i64 p).wf = true) (w1 : (Lit.int .i64 q).wf = true) : DataW.trod enc P W base sp hd (n + 2) tp [.int .i64 p, .int .i64 q] = some (.agg [.lit (.int .i64 p), .lit (.int .i64 q)], []) := by
  have k : ∀ z : Int, (Lit.int .i64 z).wf = true → DataW.trod enc P W base sp hd (n + 1) ti [.int .i64 z] = some (.lit (.int .i64 z), []) := fun z hz => by simp [DataW.trod, hi, hz]
  have := trod_struct2_mk (enc := enc) (w := W) (base := base) (spare := sp) (held := hd) (n := n + 1) (cs := [.int .i64 p, .int .i64 q]) (y0 := (.lit (.int .i64 p), [])) (y1 := (.lit (.int .i64 q), [])) hp (by simp [d2])
    (by rw [t0, o0, ci]; exact k p w0) (by rw [t1, o1, ci]; exact k q w1)
  simpa using this

theorem open_seg {W : World} {r : Reach} {b0 base : Nat} {sp : Nat → Bool} {hd : Bool} {t ta tp ti : TypeId} {f0 f1 g0 g1 : Field} {v : Value} {d : DataW H} {ps : List MemPlace}
    (hs : P.underlying t = some (.struct #[f0, f1])) (a0 : f0.offset = 0) (a1 : f1.offset = 8) (b0' : f0.type = ta) (b1 : f1.type = ti) (ca : P.cellsOf ta = 8) (cc : P.cellsOf t = 9) (ha : P.underlying ta = some (.array 4 tp))
    (hp : P.underlying tp = some (.struct #[g0, g1])) (o0 : g0.offset = 0) (o1 : g1.offset = 1) (t0 : g0.type = ti) (t1 : g1.type = ti) (ci : P.cellsOf ti = 1) (d2 : P.cellsOf tp = 2) (hi : P.underlying ti = some (.int .i64))
    (hv : Value.okWide P W r b0 t v) (h : DataW.Trod enc P W base sp hd t v d ps) :
    ∃ e : Nat → Int, v = .agg #[.int .i64 (e 0), .int .i64 (e 1), .int .i64 (e 2), .int .i64 (e 3), .int .i64 (e 4), .int .i64 (e 5), .int .i64 (e 6), .int .i64 (e 7), .int .i64 (e 8)] ∧ ps = [] ∧ (∀ i, i < 9 → (Lit.int .i64 (e i)).wf = true) ∧ (∀ (W' : World) (base' : Nat) (sp' : Nat → Bool) (hd' : Bool), DataW.Trod enc P W' base' sp' hd' t (.agg #[.int .i64 (e 0), .int .i64 (e 1), .int .i64 (e 2), .int .i64 (e 3), .int .i64 (e 4), .int .i64 (e 5), .int .i64 (e 6), .int .i64 (e 7), .int .i64 (e 8)]) d []) ∧ e 9 = 0 := by
  obtain ⟨cs, rfl, hsz⟩ := okWide_struct hs hv
  obtain ⟨c0, c1, c2, c3, c4, c5, c6, c7, c8, rfl⟩ := array9 (hsz.trans cc)
  obtain ⟨fuel, hf⟩ := h
  obtain ⟨y0, y1, m, hx, _, h0, h1⟩ := trod_struct2 hs hf
  rw [b0', ca, a0] at h0
  rw [b1, ci, a1] at h1
  obtain ⟨n8, e8, rfl, w8⟩ := DataW.trod_int hi h1
  obtain ⟨xs, m', rfl, rfl, _, hl, hg⟩ := DataW.trod_array ha h0
  have q0 := hg 0 (by omega)
  have q1 := hg 1 (by omega)
  have q2 := hg 2 (by omega)
  have q3 := hg 3 (by omega)
  match xs, hl with
  | [z0, z1, z2, z3], _ =>
    simp [d2, Value.cells] at q0 q1 q2 q3 e8
    obtain ⟨p0, s0, rfl, rfl, rfl, u0, v0⟩ := trod_pt hp o0 o1 t0 t1 ci hi q0
    obtain ⟨p1, s1, rfl, rfl, rfl, u1, v1⟩ := trod_pt hp o0 o1 t0 t1 ci hi q1
    obtain ⟨p2, s2, rfl, rfl, rfl, u2, v2⟩ := trod_pt hp o0 o1 t0 t1 ci hi q2
    obtain ⟨p3, s3, rfl, rfl, rfl, u3, v3⟩ := trod_pt hp o0 o1 t0 t1 ci hi q3
    subst e8
    simp at hx
    obtain ⟨rfl, rfl⟩ := hx
    refine ⟨fun i => match i with | 0 => p0 | 1 => s0 | 2 => p1 | 3 => s1 | 4 => p2 | 5 => s2 | 6 => p3 | 7 => s3 | 8 => n8 | _ => 0, rfl, rfl, fun i hi => ?_, fun W' base' sp' hd' => ⟨4, ?_⟩, rfl⟩
    · match i, hi with
      | 0, _ => exact u0
      | 1, _ => exact v0
      | 2, _ => exact u1
      | 3, _ => exact v1
      | 4, _ => exact u2
      | 5, _ => exact v2
      | 6, _ => exact u3
      | 7, _ => exact v3
      | 8, _ => exact w8
    · have k : ∀ a b : Int, (Lit.int .i64 a).wf = true → (Lit.int .i64 b).wf = true → DataW.trod enc P W' base' sp' hd' 2 tp [.int .i64 a, .int .i64 b] = some (.agg [.lit (.int .i64 a), .lit (.int .i64 b)], []) := fun a b wa wb => trod_pt_mk (n := 0) hp o0 o1 t0 t1 ci d2 hi wa wb
      have ka : DataW.trod enc P W' base' sp' hd' 3 ta [.int .i64 p0, .int .i64 s0, .int .i64 p1, .int .i64 s1, .int .i64 p2, .int .i64 s2, .int .i64 p3, .int .i64 s3] = some (.agg [.agg [.lit (.int .i64 p0), .lit (.int .i64 s0)], .agg [.lit (.int .i64 p1), .lit (.int .i64 s1)], .agg [.lit (.int .i64 p2), .lit (.int .i64 s2)], .agg [.lit (.int .i64 p3), .lit (.int .i64 s3)]], []) := by
        unfold DataW.trod
        rw [ha]
        simp only [ca, List.length_cons, List.length_nil, if_true, d2, show List.range 4 = [0, 1, 2, 3] from rfl]
        simp [k _ _ u0 v0, k _ _ u1 v1, k _ _ u2 v2, k _ _ u3 v3]
      have ki : DataW.trod enc P W' base' sp' hd' 3 ti [.int .i64 n8] = some (.lit (.int .i64 n8), []) := by simp [DataW.trod, hi, w8]
      have := trod_struct2_mk (enc := enc) (w := W') (base := base') (spare := sp') (held := hd') (n := 3) (cs := [.int .i64 p0, .int .i64 s0, .int .i64 p1, .int .i64 s1, .int .i64 p2, .int .i64 s2, .int .i64 p3, .int .i64 s3, .int .i64 n8]) (y0 := (.agg [.agg [.lit (.int .i64 p0), .lit (.int .i64 s0)], .agg [.lit (.int .i64 p1), .lit (.int .i64 s1)], .agg [.lit (.int .i64 p2), .lit (.int .i64 s2)], .agg [.lit (.int .i64 p3), .lit (.int .i64 s3)]], [])) (y1 := (.lit (.int .i64 n8), [])) hs (by simp [cc])
        (by rw [b0', a0, ca]; simpa using ka) (by rw [b1, a1, ci]; simpa using ki)
      simpa [Value.cells] using this
end
end Go.Proofs.YtjmagehfkcnjjaaGreatDoor
