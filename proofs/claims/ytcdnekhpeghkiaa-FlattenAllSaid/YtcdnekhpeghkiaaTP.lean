/-
  Chords of a segment, by halving, as a list: plain words, over any segments, halves and tests.
-/
namespace Go.Proofs.Ytcdnekhpeghkiaa
set_option linter.unusedVariables false

abbrev En := Nat → Int
/-- a flattening: when a segment is simple, its halves (the first, the second), its end; which segments are meant; number 9 is how many splits it came of -/
structure Fl where
  smp : En → Bool
  A : En → En
  B : En → En
  en : En → Int × Int
  G : En → Prop
  dep : ∀ e, G e → 0 ≤ e 9 ∧ e 9 ≤ 10
  last : ∀ e, G e → e 9 = 10 → smp e = true
  gA : ∀ e, G e → smp e = false → G (A e) ∧ (A e) 9 = e 9 + 1
  gB : ∀ e, G e → smp e = false → G (B e) ∧ (B e) 9 = e 9 + 1
def Fl.pts (F : Fl) : Nat → En → List (Int × Int)
  | 0, e => [F.en e]
  | k + 1, e => if F.smp e then [F.en e] else F.pts k (F.A e) ++ F.pts k (F.B e)
def lft (e : En) : Nat := 10 - (e 9).toNat
def Fl.all (F : Fl) (e : En) : List (Int × Int) := F.pts (lft e) e
theorem Fl.all_yes (F : Fl) (e : En) (h : F.smp e = true) : F.all e = [F.en e] := by
  unfold Fl.all
  cases lft e <;> simp [Fl.pts, h]
theorem Fl.lft_no (F : Fl) {e : En} (g : F.G e) (h : F.smp e = false) : ∃ k, lft e = k + 1 ∧ lft (F.A e) = k ∧ lft (F.B e) = k ∧ e 9 < 10 := by
  have d := F.dep e g
  have l : e 9 ≠ 10 := fun k => by rw [F.last e g k] at h; cases h
  have a := (F.gA e g h).2
  have b := (F.gB e g h).2
  unfold lft
  exact ⟨9 - (e 9).toNat, by omega, by omega, by omega, by omega⟩
theorem Fl.all_no (F : Fl) (e : En) (g : F.G e) (h : F.smp e = false) : F.all e = F.all (F.A e) ++ F.all (F.B e) := by
  obtain ⟨k, h1, h2, h3, _⟩ := F.lft_no g h
  unfold Fl.all
  rw [h1, h2, h3]
  simp [Fl.pts, h]
def nds : Nat → Nat
  | 0 => 1
  | k + 1 => nds k + nds k + 1
def lvs : Nat → Nat
  | 0 => 1
  | k + 1 => lvs k + lvs k
/-- the stack's work, and the most chords that it makes -/
def wrk (s : List En) : Nat := (s.map fun e => nds (lft e)).sum
def mst (s : List En) : Nat := (s.map fun e => lvs (lft e)).sum
theorem lvs_pos : ∀ k, 1 ≤ lvs k
  | 0 => by decide
  | k + 1 => by have := lvs_pos k; unfold lvs; omega
theorem nds_pos : ∀ k, 1 ≤ nds k
  | 0 => by decide
  | k + 1 => by unfold nds; omega
def Fl.res (F : Fl) (s : List En) : List (Int × Int) := s.flatMap F.all
/-- the stack's segments are meant, and lie no deeper than they are split -/
def Fl.ok (F : Fl) : List En → Prop
  | [] => True
  | e :: r => F.G e ∧ (r.length : Int) ≤ e 9 ∧ F.ok r
theorem Fl.pop (F : Fl) {e : En} {r : List En} (h : F.ok (e :: r)) (hs : F.smp e = true) : F.ok r ∧ F.res (e :: r) = F.en e :: F.res r ∧ wrk r < wrk (e :: r) ∧ mst r + 1 ≤ mst (e :: r) := by
  obtain ⟨g, _, h2⟩ := h
  refine ⟨h2, ?_, ?_, ?_⟩
  · simp [Fl.res, F.all_yes e hs]
  · have := nds_pos (lft e); simp [wrk]; omega
  · have := lvs_pos (lft e); simp [mst]; omega
theorem Fl.split (F : Fl) {e : En} {r : List En} (h : F.ok (e :: r)) (hs : F.smp e = false) : F.ok (F.A e :: F.B e :: r) ∧ F.res (F.A e :: F.B e :: r) = F.res (e :: r) ∧ wrk (F.A e :: F.B e :: r) < wrk (e :: r) ∧ mst (F.A e :: F.B e :: r) = mst (e :: r) ∧ r.length ≤ 9 := by
  obtain ⟨g, h1, h2⟩ := h
  obtain ⟨k, k1, k2, k3, k4⟩ := F.lft_no g hs
  obtain ⟨ga, da⟩ := F.gA e g hs
  obtain ⟨gb, db⟩ := F.gB e g hs
  refine ⟨⟨ga, by simp only [List.length_cons]; omega, gb, by omega, h2⟩, ?_, ?_, ?_, by omega⟩
  · simp [Fl.res, F.all_no e g hs, List.append_assoc]
  · simp [wrk, k1, k2, k3, nds]; omega
  · simp [mst, k1, k2, k3, lvs]; omega
theorem Fl.len (F : Fl) {e : En} {r : List En} (h : F.ok (e :: r)) : r.length ≤ 10 := by
  obtain ⟨g, h1, _⟩ := h
  have := F.dep e g
  omega
end Go.Proofs.Ytcdnekhpeghkiaa
