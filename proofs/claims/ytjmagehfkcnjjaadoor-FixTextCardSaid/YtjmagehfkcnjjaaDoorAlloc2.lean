/-
  The rule for a region that draws its order, with new blocks beside reads and calls, and a forced tail.
-/
import Derived.Test.YtjmagehfkcnjjaaDoorAlloc
namespace Go.Proofs.YtjmagehfkcnjjaaDoor
set_option linter.unusedVariables false
open Go.RowKit

section
variable {P : Program} {ops : Array Oper} {md : Region.Mode} {w : World}

/-- what holds of the new blocks -/
structure Laid (md : Region.Mode) (ops : Array Oper) (w : World) (h n : Nat) (z : Nat → Obj) (S : Nat) (listed : Array Bool) (a : Act) (wc : World) (G : Nat → Nat) : Prop where
  inv : HeadInv md ops n listed
  size : a.tmps.size = S
  below : Below w.heap.size w wc
  at_ : ∀ i d, h ≤ i → i < n → listed.getD i false = true → dstOf ops i = some d → a.tmps[d]? = some (ptrAt (G i)) ∧ w.heap.size ≤ G i ∧ wc.heap[G i]? = some (z i)
  ne : ∀ i j, h ≤ i → i < n → h ≤ j → j < n → listed.getD i false = true → listed.getD j false = true → i ≠ j → G i ≠ G j

/-- which operations make blocks, and of what -/
def AlOps (P : Program) (ops : Array Oper) (h n : Nat) (z : Nat → Obj) (S : Nat) : Prop :=
  (∀ i, h ≤ i → i < n → ∃ o d T, ops[i]? = some o ∧ o.op = .alloc T ∧ o.dst = some d ∧ o.guard = none ∧ d < S ∧ (∀ v : World, (Instr.alloc T true (.tuple #[])).run P v = .ok (ptrAt v.heap.size) (v.alloc (z i)))) ∧
  (∀ i j d, h ≤ i → i < n → j < n → j ≠ i → dstOf ops i = some d → dstOf ops j ≠ some d)

theorem alloc_new (v : World) (o : Obj) : (v.alloc o).heap[v.heap.size]? = some o := by unfold World.alloc; simp
theorem put_size (a : Act) (d : Option Tmp) (v : Value) : (a.put d v).tmps.size = a.tmps.size := by
  cases d <;> simp [Act.put]
theorem put_other (a : Act) (d : Option Tmp) (e : Tmp) (v : Value) (h : d ≠ some e) : (a.put d v).tmps[e]? = a.tmps[e]? := by
  cases d with
  | none => rfl
  | some d => simp only [Act.put]; rw [Array.getElem?_setIfInBounds_ne (fun k => h (by rw [k]))]
theorem put_same (a : Act) (e : Tmp) (v : Value) (h : e < a.tmps.size) : (a.put (some e) v).tmps[e]? = some v := by
  simp [Act.put, h]

theorem wpAny_of_G {h n g S : Nat} {z : Nat → Obj} {Q' : Exit → Act → World → Prop} {L : Array Bool → Act → Prop} (hA : AlOps P ops h n z S) (hni : ∀ i o, i < h → ops[i]? = some o → NoInitOp P o)
    (hL : ∀ listed a wc G, Laid md ops w h n z S listed a wc G → L listed a → wpAny P md ops Q' g listed a wc) :
    ∀ (f : Nat) (listed : Array Bool) (a : Act) (wc : World) (G : Nat → Nat), Laid md ops w h n z S listed a wc G →
      (∀ y : Later wc, wpAnyG P md ops (fun w' => ∃ x : Later y.out, w' = x.out) h n L f listed a) → wpAny P md ops Q' (f + g) listed a wc
  | 0, listed, a, wc, G, hl, hT => by rw [Nat.zero_add]; exact hL _ _ _ _ hl (hT ⟨wc, Below.refl _ _⟩)
  | f + 1, listed, a, wc, G, hl, hT => by
    rw [show f + 1 + g = (f + g) + 1 by omega]
    have h0 := hT ⟨wc, Below.refl _ _⟩
    refine ⟨fun e => absurd e h0.1, fun i hi => ?_⟩
    obtain ⟨hin, h1⟩ := h0.2 i hi
    obtain ⟨hun, oi, hoi, hall⟩ := mem_ready.1 hi
    have hoth : ∀ k, k ≠ i → (listed.setIfInBounds i true).getD k false = listed.getD k false := fun k e => getD_set_ne false (Ne.symm e)
    by_cases hq : i < h
    · unfold gOp at h1
      rw [if_pos hq] at h1
      obtain ⟨v, hy, hK⟩ := yieldsIn_of_qOp hoi h1
      refine wpOp_of_qOp (C := fun w' => ∃ x : Later wc, w' = x.out) (K := fun a' => a' = a.put oi.dst v) ⟨⟨wc, Below.refl _ _⟩, rfl⟩ ?_ (hy.qOp hoi rfl)
      rintro a' w' ⟨x, rfl⟩ rfl
      have hdi : dstOf ops i = oi.dst := by simp [dstOf, hoi]
      refine wpAny_of_G hA hni hL f _ _ _ G ⟨hl.inv.set hi hin, by rw [put_size]; exact hl.size, hl.below.trans (x.below.mono hl.below.size), ?_, ?_⟩ (fun y => ?_)
      · intro k d k1 k2 k3 k4
        have hne : k ≠ i := by omega
        rw [hoth k hne] at k3
        obtain ⟨e1, e2, e3⟩ := hl.at_ k d k1 k2 k3 k4
        refine ⟨?_, e2, ?_⟩
        · rw [put_other _ _ _ _ (by rw [← hdi]; exact hA.2 k i d k1 k2 hin (Ne.symm hne) k4)]; exact e1
        · exact (x.below.block _ (Array.getElem?_eq_some_iff.1 e3).1).trans e3
      · intro k j k1 k2 j1 j2 k3 j3 hkj
        rw [hoth k (by omega)] at k3
        rw [hoth j (by omega)] at j3
        exact hl.ne k j k1 k2 j1 j2 k3 j3 hkj
      · have h2 := ((hT ⟨y.out, x.below.trans (y.below.mono x.below.size)⟩).2 i hi).2
        unfold gOp at h2
        rw [if_pos hq] at h2
        obtain ⟨v', hy', hK'⟩ := yieldsIn_of_qOp hoi h2
        have e : v = v' := yields_one (w := y.out) (hni i oi hq hoi) ⟨⟨y.out, x.below.trans (y.below.mono x.below.size)⟩, rfl⟩ ⟨⟨y.out, Below.refl _ _⟩, rfl⟩ hy hy'
        subst e
        exact hK'
    · obtain ⟨o, d, T, ho, hop, hd, hg, hds, hrun⟩ := hA.1 i (by omega) hin
      obtain rfl : o = oi := Option.some.inj (ho.symm.trans hoi)
      have hdi : dstOf ops i = some d := by simp [dstOf, hoi, hd]
      unfold wpOp
      simp only [hoi]
      have hw : Region.wanted o (yielded ops a.tmps) = true := by simp [Region.wanted, hg]
      rw [if_pos hw]
      refine .inl ?_
      unfold Oper.wp
      have hx : (execOp a.eval o).run P wc = .ok (.value (ptrAt wc.heap.size)) (wc.alloc (z i)) := by
        unfold execOp
        rw [hop]
        simp [hrun]
      rw [hx, Oper.upon_value, hd]
      have hb : Below wc.heap.size wc (wc.alloc (z i)) := (Below.refl _ wc).alloc (Nat.le_refl _) _
      refine wpAny_of_G hA hni hL f _ _ _ (fun k => if k = i then wc.heap.size else G k) ⟨hl.inv.set hi hin, by rw [put_size]; exact hl.size, hl.below.trans (hb.mono hl.below.size), ?_, ?_⟩ (fun y => ?_)
      · intro k e k1 k2 k3 k4
        by_cases hki : k = i
        · subst hki
          rw [if_pos rfl]
          obtain rfl : e = d := Option.some.inj (k4.symm.trans hdi)
          exact ⟨put_same _ _ _ (by rw [hl.size]; exact hds), hl.below.size, alloc_new _ _⟩
        · rw [if_neg hki]
          rw [hoth k hki] at k3
          obtain ⟨e1, e2, e3⟩ := hl.at_ k e k1 k2 k3 k4
          refine ⟨?_, e2, ?_⟩
          · rw [put_other _ _ _ _ (by rw [← hdi]; exact hA.2 k i e k1 k2 hin (Ne.symm hki) k4)]; exact e1
          · exact (hb.block _ (Array.getElem?_eq_some_iff.1 e3).1).trans e3
      · have lt : ∀ k, h ≤ k → k < n → k ≠ i → (listed.setIfInBounds i true).getD k false = true → G k < wc.heap.size := fun k k1 k2 hki k3 => by
          rw [hoth k hki] at k3
          obtain ⟨o', d', T', ho', _, hd', _⟩ := hA.1 k k1 k2
          have := (hl.at_ k d' k1 k2 k3 (by simp [dstOf, ho', hd'])).2.2
          exact (Array.getElem?_eq_some_iff.1 this).1
        intro k j k1 k2 j1 j2 k3 j3 hkj
        by_cases hki : k = i
        · subst hki
          rw [if_pos rfl, if_neg (Ne.symm hkj)]
          have := lt j j1 j2 (Ne.symm hkj) j3
          omega
        · by_cases hji : j = i
          · subst hji
            rw [if_pos rfl, if_neg hki]
            have := lt k k1 k2 hki k3
            omega
          · rw [if_neg hki, if_neg hji]
            rw [hoth k hki] at k3
            rw [hoth j hji] at j3
            exact hl.ne k j k1 k2 j1 j2 k3 j3 hkj
      · have h2 := ((hT ⟨y.out, hb.trans (y.below.mono hb.size)⟩).2 i hi).2
        unfold gOp at h2
        rw [if_neg hq, hdi] at h2
        exact h2 wc.heap.size

theorem wp_region_later_als {id : Nat} {Q : Exit → Act → World → Prop} {a : Act} {l : List Oper} (h n : Nat) (z : Nat → Obj) (hhn : h ≤ n) (hm : P.follows .mixedOrders = true) (hB : Region.lexTailB .any l.toArray n = true)
    (hA : AlOps P l.toArray h n z a.tmps.size) (hni : NoInit P (l.take h))
    (H : ∀ y : Later w, wpQuiet P l.toArray (fun w' => ∃ x : Later y.out, w' = x.out) (alWalk (fun a' => ∀ (x : Later w) (G : Nat → Nat),
        (∀ i d, h ≤ i → i < n → dstOf l.toArray i = some d → a'.tmps[d]? = some (ptrAt (G i)) ∧ w.heap.size ≤ G i ∧ x.out.heap[G i]? = some (z i)) →
        (∀ i j, h ≤ i → i < n → h ≤ j → j < n → i ≠ j → G i ≠ G j) → wpList P l.toArray Q (l.drop n) a' x.out) ((l.take n).drop h)) (l.take h) a) : (Code.region id l.toArray true).wp P Q a w := by
  simp only [Region.lexTailB, Bool.and_eq_true, decide_eq_true_eq] at hB
  obtain ⟨⟨⟨⟨hsel, hn⟩, hs⟩, hc⟩, hlex⟩ := hB
  have hn' : n < l.length := by simpa using hn
  have htl : (l.take n).length = n := by simp; omega
  have hdl : (l.drop n).length = l.toArray.size - n := by simp
  have hth : (l.take n).take h = l.take h := by rw [List.take_take]; congr 1; omega
  have inv0 : HeadInv .any l.toArray n (Array.replicate l.toArray.size false) :=
    ⟨by simp, fun j oj _ hl => (by rw [getD_replicate_false] at hl; cases hl), fun t _ ht => getD_in (by simpa using ht) (getD_replicate_false _ _)⟩
  refine wp_region_any hm ?_
  have hb : Below w.heap.size w w.drew := (Below.refl _ w).drew
  have := wpAny_of_G (P := P) (ops := l.toArray) (md := .any) (w := w) (h := h) (n := n) (g := l.toArray.size - n) (S := a.tmps.size) (z := z) (Q' := Q)
    (L := fun listed' a' => Region.seqB .any l.toArray (l.toArray.size - n) n listed' = true ∧ (∀ (x : Later w) (G : Nat → Nat),
        (∀ i d, h ≤ i → i < n → dstOf l.toArray i = some d → a'.tmps[d]? = some (ptrAt (G i)) ∧ w.heap.size ≤ G i ∧ x.out.heap[G i]? = some (z i)) →
        (∀ i j, h ≤ i → i < n → h ≤ j → j < n → i ≠ j → G i ≠ G j) → wpList P l.toArray Q (l.drop n) a' x.out))
    hA (fun i o hi ho => hni.at (i := i) (by rw [List.getElem?_take_of_lt hi]; simpa using ho)) ?_ (l.take n).length (Array.replicate l.toArray.size false) a w.drew (fun _ => 0)
    ⟨inv0, rfl, hb, fun i d _ _ hl _ => (by rw [getD_replicate_false] at hl; cases hl), fun i j _ _ _ _ hl _ _ => (by rw [getD_replicate_false] at hl; cases hl)⟩ ?_
  · rw [htl, show n + (l.toArray.size - n) = l.toArray.size by omega] at this
    exact this
  · rintro listed a' wc G hl ⟨hL, hq⟩
    have all : ∀ i, i < n → listed.getD i false = true := fun i hi => by
      rcases hx : listed.getD i false with _ | _
      · have hlt : i < listed.size := by rw [hl.inv.size]; omega
        have hno := tail_waits hs hc hn hl.inv _ i rfl hi (getD_in hlt hx) n (Nat.le_refl _)
        obtain ⟨g, hg⟩ : ∃ g, l.toArray.size - n = g + 1 := ⟨l.toArray.size - n - 1, by omega⟩
        rw [hg] at hL
        simp only [Region.seqB, Bool.and_eq_true, decide_eq_true_eq] at hL
        rw [hL.1] at hno
        simp at hno
      · rfl
    have hf := hq ⟨wc, hl.below⟩ G (fun i d h1 h2 h3 => hl.at_ i d h1 h2 (all i h2) h3) (fun i j h1 h2 h3 h4 hij => hl.ne i j h1 h2 h3 h4 (all i h2) (all j h4) hij)
    have := wpAny_of_seq (md := .any) (Q' := Q) (l.drop n) n listed a' wc (fun j => by simp [List.getElem?_drop]) (by rw [hdl]; exact hL) hf
    rwa [hdl] at this
  · intro y
    have hw := H ⟨y.out, hb.trans (y.below.mono hb.size)⟩
    exact wpAnyG_lex (md := .any) (g := l.toArray.size - n) hsel hs hc hn (l.take n) 0 h _ a (fun j hj => by
      have hj' : j < n := by rw [htl] at hj; exact hj
      simp [hj']) (by simpa using htl) (by omega) inv0 (fun j hj => by omega) (by rw [htl]; exact hlex) (wpLexG_of h (l.take n) a (by rw [hth]; exact hw))

/-- one new block -/
theorem wp_region_later_al1 {id : Nat} {Q : Exit → Act → World → Prop} {a : Act} {l : List Oper} (h d : Nat) (z : Obj) (hm : P.follows .mixedOrders = true) (hB : Region.lexTailB .any l.toArray (h + 1) = true)
    (hA : ∃ o T, l[h]? = some o ∧ o.op = .alloc T ∧ o.dst = some d ∧ o.guard = none ∧ (∀ v : World, (Instr.alloc T true (.tuple #[])).run P v = .ok (ptrAt v.heap.size) (v.alloc z)))
    (hd : d < a.tmps.size) (hne : (l.take h).all (fun o => o.dst != some d) = true) (hni : NoInit P (l.take h))
    (H : ∀ y : Later w, wpQuiet P l.toArray (fun w' => ∃ x : Later y.out, w' = x.out) (fun a' => ∀ (g : Nat) (x : Later w), w.heap.size ≤ g → x.out.heap[g]? = some z →
        wpList P l.toArray Q (l.drop (h + 1)) (a'.put (some d) (.pointer (some ⟨g, 0, none⟩))) x.out) (l.take h) a) : (Code.region id l.toArray true).wp P Q a w := by
  obtain ⟨o, T, ho, hop, hdst, hg, hrun⟩ := hA
  have ho' : l.toArray[h]? = some o := by simpa using ho
  have hdo : dstOf l.toArray h = some d := by simp [dstOf, ho, hdst]
  have hhl : h < l.length := by
    rcases Nat.lt_or_ge h l.length with k | k
    · exact k
    · rw [List.getElem?_eq_none k] at ho; cases ho
  refine wp_region_later_als h (h + 1) (fun _ => z) (by omega) hm hB ⟨fun i h1 h2 => ?_, fun i j e h1 h2 h3 h4 h5 => ?_⟩ hni (fun y => ?_)
  · obtain rfl : i = h := by omega
    exact ⟨o, d, T, ho', hop, hdst, hg, hd, hrun⟩
  · obtain rfl : i = h := by omega
    obtain rfl : e = d := Option.some.inj (h5.symm.trans hdo)
    have hjl : j < l.length := by omega
    have hj := List.all_eq_true.1 hne (l[j]) (by rw [List.mem_take_iff_getElem]; exact ⟨j, by omega, rfl⟩)
    simp only [bne_iff_ne, ne_eq] at hj
    simpa [dstOf, hjl] using hj
  · refine wpQuiet_post (fun a' h' => ?_) _ _ (H y)
    have e : (l.take (h + 1)).drop h = [o] := by
      rw [List.take_add_one, ho, List.drop_append_of_le_length (by simp; omega)]
      simp
    rw [e]
    intro g x G hG _
    have k := hG h d (Nat.le_refl _) (by omega) hdo
    rw [hdst] at k ⊢
    have hlt : d < a'.tmps.size := by
      rcases Nat.lt_or_ge d a'.tmps.size with q | q
      · exact q
      · have := k.1
        rw [Array.getElem?_eq_none (by rw [put_size]; exact q)] at this
        cases this
    rw [put_same _ _ _ hlt] at k
    have eg : g = G h := by have := k.1; unfold ptrAt at this; simpa using this
    exact h' g x (by rw [eg]; exact k.2.1) (by rw [eg]; exact k.2.2)
end
end Go.Proofs.YtjmagehfkcnjjaaDoor
