/-
  Print, for every number; noughts; FixBack walked.
-/
import Derived.Test.YtjmagehfkcnjjaaGreatDoorFQ
import Derived.Test.YtjmagehfkcnjjaaGreatDoorFI
import Derived.Test.YtjmagehfkcnjjaaGreatDoorKP
import Derived.OwnWalk
namespace Go.Proofs.YtjmagehfkcnjjaaGreatDoor
set_option linter.unusedVariables false
open Go.RowKit Go.Sort

theorem print_l (n : Int) (n0 : -9223372036854775808 ≤ n) (n9 : n ≤ 9223372036854775807) (w : World) (htab : Lib.TabIs Tryz.prog w "internal/strconv.uint64pow10" .u64 Lib.pow10Tab) : Calls Tryz.prog 32 #[.int .i64 n] w fun e w' => e = .returned (.string ⟨(prn n).toArray⟩) ∧ ∃ x : Later w, w' = x.out := by
  by_cases h : n < 0
  · obtain ⟨u, rfl⟩ : ∃ u : Nat, n = -(u : Int) := ⟨n.natAbs, by omega⟩
    have e : prn (-(u : Int)) = 45 :: (Lib.decDigits (u / 256) ++ prF (u % 256)) := by unfold prn prU; rw [if_pos h]; simp
    rw [e]
    by_cases hr : u % 256 = 0
    · have hc := print_n0 u (u / 256) (u % 256) (by omega) (by omega) (by omega) hr w htab
      unfold prF
      rw [if_pos hr, List.append_nil]
      exact hc
    · have hc := print_n1 u (u / 256) (u % 256) _ (by omega) (by omega) (by omega) (by omega) (by omega) rfl w htab
      unfold prF
      rw [if_neg hr]
      exact hc
  · obtain ⟨u, rfl⟩ : ∃ u : Nat, n = (u : Int) := ⟨n.natAbs, by omega⟩
    have e : prn (u : Int) = Lib.decDigits (u / 256) ++ prF (u % 256) := by unfold prn prU; rw [if_neg h]; simp
    rw [e]
    by_cases hr : u % 256 = 0
    · have hc := print_p0 u (u / 256) (u % 256) (by omega) (by omega) hr w htab
      unfold prF
      rw [if_pos hr, List.append_nil]
      exact hc
    · have hc := print_p1 u (u / 256) (u % 256) _ (by omega) (by omega) (by omega) (by omega) rfl w htab
      unfold prF
      rw [if_neg hr]
      exact hc
theorem prn_len (n : Int) (n0 : -9223372036854775808 ≤ n) (n9 : n ≤ 9223372036854775807) : 1 ≤ (prn n).length ∧ (prn n).length ≤ 30 := by
  obtain ⟨D, G, e, _, d1, d9, _, _, hG⟩ := prU_facts n.natAbs (by omega)
  have hl : (prU n.natAbs).length ≤ 29 ∧ 1 ≤ (prU n.natAbs).length := by
    rw [e, List.length_append]
    by_cases h : n.natAbs % 256 = 0
    · rw [if_pos h]; simp; omega
    · rw [if_neg h, List.length_cons]
      have := (hG h).2.1
      omega
  unfold prn
  split
  · rw [List.length_cons]; omega
  · omega
theorem infoU8 : ∃ i, Tryz.prog.info? 5 = some i ∧ i.zero = some (.int .u8 0) ∧ i.size = 1 ∧ i.bytes = 1 := by
  have h : (Tryz.prog.info? 5).map (fun i => (i.zero, i.size, i.bytes)) = some (some (.int .u8 0), 1, 1) := by kernel_rfl
  cases e : Tryz.prog.info? 5 with
  | none => rw [e] at h; cases h
  | some i => rw [e] at h; simp at h; exact ⟨i, rfl, h.1, h.2.1, h.2.2⟩
/-- a row of bytes that turns into a text -/
def NRet (w : World) (Z : ByteArray) : Ending → World → Prop := fun e w' => ∃ v, e = .returned v ∧ (convert 43 9 v).run Tryz.prog w' = .ok (.string Z) w' ∧ ∃ x : Later w, w' = x.out
structure NInv (w : World) (k : Nat) (v : Value) (W : World) : Prop where
  own : W.ownsRow w.heap.size 5 1 v k (List.replicate k (.int .u8 48))
  form : ∃ g c, v = .slice (some ⟨g, 0, none⟩) k c
  below : Below w.heap.size w W
theorem own_empty1 (W : World) (base g : Nat) (T : TypeId) (hg : g = W.heap.size) (h : base ≤ W.heap.size) : (W.alloc (.cells #[] T)).ownsRow base T 1 (.slice (some ⟨g, 0, none⟩) 0 0) 0 [] :=
  hg ▸ World.ownsRow_made W #[] 0 h (by unfold maxLen; omega) rfl
theorem one48 : ∀ x ∈ ([.int .u8 48] : List Value), x.oneCell' = true := by intro x hx; simp at hx; subst hx; rfl
theorem one48_at (W : World) (T : TypeId) : ∀ j u, ([.int .u8 48] : List Value)[j]? = some u → (W.alloc (.cells #[.int .u8 48] T)).cell? ((⟨W.heap.size, 0, none⟩ : Addr).add j) = some u := by
  intro j u h
  rw [Addr.add_mid, Nat.zero_add, (Blk.new W T #[.int .u8 48]).cell]
  simpa using h
end Go.Proofs.YtjmagehfkcnjjaaGreatDoor
