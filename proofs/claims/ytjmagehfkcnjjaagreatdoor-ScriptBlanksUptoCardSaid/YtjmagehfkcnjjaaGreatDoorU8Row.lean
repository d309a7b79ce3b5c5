/-
  An argument that is a slice of bytes: opened.
-/
import Derived.Test.YtjmagehfkcnjjaaGreatDoorPathRow
namespace Go.Proofs.YtjmagehfkcnjjaaGreatDoor
set_option linter.unusedVariables false
open Go.ChangeShapes Go.WideShapes Go.ChangeAt Go.RowKit Go.Joins Go.Deep

/-- bytes that lie one behind the other in memory -/
def U8At (w : World) (v : Value) (l : List Int) : Prop :=
  (∃ a c, v = .slice a 0 c ∧ l = []) ∨ ∃ b o c, v = .slice (some ⟨b, o, none⟩) l.length c ∧ b < w.heap.size ∧ ∀ (i : Nat) (p : Int), l[i]? = some p → w.cell? ⟨b, o + i, none⟩ = some (.int .u8 p)
theorem open_u8row {H : Type} {enc : TypeId × Value → H} {P : Program} {W : World} {r : Reach} {b0 : Nat} {hd : Bool} {ts ti : TypeId} {sv : Value} {d : DataW H} {ps : List MemPlace} (ht : P.underlying ts = some (.slice ti))
    (ci : P.cellsOf ti = 1) (hi : P.underlying ti = some (.int .u8))
    (hv : Value.okWide P W r b0 ts sv) (h : DataW.Trod enc P W 0 (fun _ => true) hd ts sv d ps) : ∃ l, U8At W sv l ∧ ∀ p ∈ l, (Lit.int .u8 p).wf = true := by
  obtain ⟨a', len', cap', rfl⟩ := okWide_slice ht hv
  obtain ⟨fuel, hf⟩ := h
  have hf' : DataW.trod enc P W 0 (fun _ => true) hd fuel ts [.slice a' len' cap'] = some (d, ps) := hf
  rcases Go.Deep.open_slice ht hf' with ⟨hc, _⟩ | ⟨a, len, cap, m, n', D, Pl, hc, _, hle, hmax, hm, _, hel⟩
  · simp only [List.cons.injEq, Value.slice.injEq, and_true] at hc
    obtain ⟨rfl, rfl, rfl⟩ := hc
    exact ⟨[], .inl ⟨_, _, rfl, rfl⟩, fun p hp => by simp at hp⟩
  · simp only [List.cons.injEq, Value.slice.injEq, and_true] at hc
    obtain ⟨rfl, rfl, rfl⟩ := hc
    have hlm : len' ≤ m := by rw [hm]; simp; omega
    by_cases h0 : len' = 0
    · subst h0
      exact ⟨[], .inl ⟨_, _, rfl, rfl⟩, fun p hp => by simp at hp⟩
    · have each : ∀ i, i < len' → ∃ p : Int, W.cell? ((a.add (i * 1)).add 0) = some (.int .u8 p) ∧ (Lit.int .u8 p).wf = true := by
        intro i hi'
        obtain ⟨cs, e1, e2⟩ := hel i (by omega)
        rw [ci] at e1
        obtain ⟨u, rfl, e3⟩ := cells_one e1
        obtain ⟨p, hc, _, w1⟩ := DataW.trod_int hi e2
        simp at hc
        subst hc
        exact ⟨p, e3, w1⟩
      obtain ⟨b, off, spot⟩ := a
      obtain ⟨p0, e0, _⟩ := each 0 (by omega)
      have hspot : spot = none := by simpa [Addr.add] using World.cell?_spot e0
      subst hspot
      have hb : b < W.heap.size := World.block_lt_of_cell? W _ e0 |> (by simpa [Addr.add] using ·)
      have pick : ∀ i : Nat, ∃ r : Int, i < len' → W.cell? ⟨b, off + i, none⟩ = some (.int .u8 r) ∧ (Lit.int .u8 r).wf = true := by
        intro i
        by_cases hi' : i < len'
        · obtain ⟨p, e1, w1⟩ := each i hi'
          refine ⟨p, fun _ => ⟨?_, w1⟩⟩
          rw [Go.WideShapes.add_plain, Go.WideShapes.add_plain] at e1
          simpa using e1
        · exact ⟨0, fun k => absurd k hi'⟩
      refine ⟨(List.range len').map fun i => (pick i).choose, .inr ⟨b, off, cap', by simp, hb, fun i p hpi => ?_⟩, fun p hp' => ?_⟩
      · rw [List.getElem?_map] at hpi
        have hi' : i < len' := by
          rcases Nat.lt_or_ge i len' with k | k
          · exact k
          · rw [List.getElem?_eq_none (by simpa using k)] at hpi; cases hpi
        rw [List.getElem?_range hi'] at hpi
        obtain rfl := Option.some.inj hpi
        exact ((pick i).choose_spec hi').1
      · obtain ⟨i, hi', rfl⟩ := List.mem_map.1 hp'
        exact ((pick i).choose_spec (List.mem_range.1 hi')).2
end Go.Proofs.YtjmagehfkcnjjaaGreatDoor
