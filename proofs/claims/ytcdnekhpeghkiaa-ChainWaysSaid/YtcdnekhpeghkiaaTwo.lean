/-
  A region that draws its order, with one operation that makes a new block, and quiet ones behind it, ahead of the forced tail.
-/
import Derived.Test.YtcdnekhpeghkiaaOne
namespace Go.Proofs.Ytcdnekhpeghkiaa
set_option linter.unusedVariables false
open Go.RowKit

section
variable {P : Program} {ops : Array Oper} {C : World → Prop} {ro : Option Nat} {n m : Nat} {V : Nat → Value} {z : Obj}

theorem wpAnyX_post {l : List Oper} (hops : ops = l.toArray) {hs0 : List Nat} {t0 : Nat} {r : List Nat} {Lq : Nat → Act → Prop} (hsel : Region.noSelect ops = true)
    (hsk : sinkL ops t0 (hs0 ++ [m]) = true) (hch : chainL ops (t0 :: r) = true) (hcov : ∀ j, j < ops.size → j ∈ hs0 ++ [m] ∨ j ∈ t0 :: r) (hdis : ∀ t ∈ t0 :: r, t ∉ hs0 ++ [m]) (hm0 : m ∉ hs0) (g : Nat) :
    ∀ (hs : List Nat) (listed : Array Bool) (a : Act), (∀ i ∈ hs, i ∈ hs0) → Open ops (t0 :: r) listed → headB ops hs listed = true →
    tailB ops (t0 :: r) (hs.foldl (fun b i => b.setIfInBounds i true) listed) = true →
    wpQuiet P ops C (Lq g) (pick l hs) a →
    wpAnyX P ops C m V z hs0 (fun g listed' a' => tailB ops (t0 :: r) listed' = true ∧ Open ops (t0 :: r) listed' ∧ Lq g a') hs.length (some g) listed a
  | [], listed, a, _, inv, _, hT, h => ⟨hT, inv, h⟩
  | i :: hs, listed, a, hin, inv, hB, hT, h => by
    simp only [headB, Bool.and_eq_true, decide_eq_true_eq] at hB
    obtain ⟨⟨⟨hlt, hr⟩, hf⟩, hB'⟩ := hB
    have hr' : i ∈ Region.ready .any ops listed := by simpa using hr
    have h0 : ops[i]? = some ops[i] := Array.getElem?_eq_getElem hlt
    have hl0 : l[i]? = some ops[i] := by rw [← h0, hops]; simp
    have hpick : pick l (i :: hs) = ops[i] :: pick l hs := by simp only [pick, hl0]
    rw [hpick] at h
    have hi0 := hin i (by simp)
    have him : i ≠ m := fun e => hm0 (e ▸ hi0)
    have hst : qOp P ops C i (wpQuiet P ops C (Lq g) (pick l hs)) a := by unfold qOp; simp only [h0]; exact h
    obtain ⟨v, hy, hK⟩ := yieldsIn_of_qOp h0 hst
    refine wpAnyX_first h0 (Region.noSelect_spec hsel) hsk hch hcov hdis hi0 him (fun g listed' a' hL j hj hjh => ?_) hs.length (some g) listed a inv (Region.free_spec h0 hf) hr' hy
      (wpAnyX_post hops hsel hsk hch hcov hdis hm0 g hs _ _ (fun k hk => hin k (List.mem_cons_of_mem _ hk)) (inv.set hr' (fun h => hdis i h (List.mem_append_left _ hi0))) hB' (by simpa using hT) hK)
    have h1 := hL.1
    simp only [tailB, Bool.and_eq_true, decide_eq_true_eq] at h1
    rw [h1.1] at hj
    obtain rfl : j = t0 := by simpa using hj
    exact hdis j (by simp) hjh

theorem wpAnyX_lex2 {l : List Oper} (hops : ops = l.toArray) {hs0 hs2 : List Nat} {t0 : Nat} {r : List Nat} {Lq : Nat → Act → Prop} (hsel : Region.noSelect ops = true)
    (hsk : sinkL ops t0 (hs0 ++ [m]) = true) (hch : chainL ops (t0 :: r) = true) (hcov : ∀ j, j < ops.size → j ∈ hs0 ++ [m] ∨ j ∈ t0 :: r) (hdis : ∀ t ∈ t0 :: r, t ∉ hs0 ++ [m]) (hm0 : m ∉ hs0) (hs20 : ∀ i ∈ hs2, i ∈ hs0) :
    ∀ (hs : List Nat) (listed : Array Bool) (a : Act), (∀ i ∈ hs, i ∈ hs0) → Open ops (t0 :: r) listed → headB ops (hs ++ m :: hs2) listed = true →
    Region.ready .any ops (hs.foldl (fun b i => b.setIfInBounds i true) listed) = [m] →
    tailB ops (t0 :: r) ((hs ++ m :: hs2).foldl (fun b i => b.setIfInBounds i true) listed) = true →
    wpQuiet P ops C (fun a' => MkCond P ops m V z a' ∧ ∀ g, wpQuiet P ops C (Lq g) (pick l hs2) (a'.put (dstOf ops m) (V g))) (pick l hs) a →
    wpAnyX P ops C m V z hs0 (fun g listed' a' => tailB ops (t0 :: r) listed' = true ∧ Open ops (t0 :: r) listed' ∧ Lq g a') (hs.length + (hs2.length + 1)) none listed a
  | [], listed, a, _, inv, hB, hR, hT, h => by
    simp only [List.nil_append, headB, Bool.and_eq_true, decide_eq_true_eq] at hB
    obtain ⟨⟨⟨hlt, hr⟩, hf⟩, hB'⟩ := hB
    have hr' : m ∈ Region.ready .any ops listed := by simpa using hr
    rw [show ([] : List Nat).length + (hs2.length + 1) = hs2.length + 1 by simp]
    refine ⟨fun h => (by rw [h] at hr'; cases hr'), fun i hi => ?_⟩
    have him : i = m := by
      simp only [List.foldl_nil] at hR
      rw [hR] at hi
      simpa using hi
    refine ⟨fun _ => ⟨h.1, fun g => ?_⟩, fun e => absurd him e⟩
    exact wpAnyX_post hops hsel hsk hch hcov hdis hm0 g hs2 _ _ hs20 (inv.set hr' (fun k => hdis m k (by simp))) hB' (by simpa using hT) (h.2 g)
  | i :: hs, listed, a, hin, inv, hB, hR, hT, h => by
    simp only [List.cons_append, headB, Bool.and_eq_true, decide_eq_true_eq] at hB
    obtain ⟨⟨⟨hlt, hr⟩, hf⟩, hB'⟩ := hB
    have hr' : i ∈ Region.ready .any ops listed := by simpa using hr
    have h0 : ops[i]? = some ops[i] := Array.getElem?_eq_getElem hlt
    have hl0 : l[i]? = some ops[i] := by rw [← h0, hops]; simp
    have hpick : pick l (i :: hs) = ops[i] :: pick l hs := by simp only [pick, hl0]
    rw [hpick] at h
    have hi0 := hin i (by simp)
    have him : i ≠ m := fun e => hm0 (e ▸ hi0)
    have hst : qOp P ops C i (wpQuiet P ops C (fun a' => MkCond P ops m V z a' ∧ ∀ g, wpQuiet P ops C (Lq g) (pick l hs2) (a'.put (dstOf ops m) (V g))) (pick l hs)) a := by unfold qOp; simp only [h0]; exact h
    obtain ⟨v, hy, hK⟩ := yieldsIn_of_qOp h0 hst
    rw [show (i :: hs).length + (hs2.length + 1) = (hs.length + (hs2.length + 1)) + 1 by simp; omega]
    refine wpAnyX_first h0 (Region.noSelect_spec hsel) hsk hch hcov hdis hi0 him (fun g listed' a' hL j hj hjh => ?_) (hs.length + (hs2.length + 1)) none listed a inv (Region.free_spec h0 hf) hr' hy
      (wpAnyX_lex2 hops hsel hsk hch hcov hdis hm0 hs20 hs _ _ (fun k hk => hin k (List.mem_cons_of_mem _ hk)) (inv.set hr' (fun h => hdis i h (List.mem_append_left _ hi0))) hB' (by simpa using hR) (by simpa using hT) hK)
    have h1 := hL.1
    simp only [tailB, Bool.and_eq_true, decide_eq_true_eq] at h1
    rw [h1.1] at hj
    obtain rfl : j = t0 := by simpa using hj
    exact hdis j (by simp) hjh

def twoB (ops : Array Oper) (hs : List Nat) (m : Nat) (hs2 ts : List Nat) : Bool :=
  match ts with
  | [] => false
  | t0 :: r => Region.noSelect ops && headB ops (hs ++ m :: hs2) (Array.replicate ops.size false) && decide (Region.ready .any ops (listedBy ops.size hs) = [m]) && tailB ops (t0 :: r) (listedBy ops.size (hs ++ m :: hs2)) &&
    sinkL ops t0 ((hs ++ hs2) ++ [m]) && chainL ops (t0 :: r) && (List.range ops.size).all (fun i => ((hs ++ hs2) ++ [m]).contains i || (t0 :: r).contains i) && (t0 :: r).all (fun t => !((hs ++ hs2) ++ [m]).contains t) && !(hs ++ hs2).contains m
theorem wpWide_region_two {w : World} {id : Nat} {Q : Exit → Act → World → Prop} {a : Act} {l : List Oper} (hs : List Nat) (m : Nat) (hs2 ts : List Nat) (V : Nat → Value) (z : Obj) (hm : P.follows .mixedOrders = true) (hB : twoB l.toArray hs m hs2 ts = true)
    (hsz : (hs ++ m :: hs2 ++ ts).length = l.length) (hnd : noDefer l = true) (hni : NoInit P (pick l (hs ++ hs2)))
    (hh : ∀ y : Later w, wpQuiet P l.toArray (fun w' => ∃ x : Later y.out, w' = x.out) (fun a' => MkCond P l.toArray m V z a' ∧ ∀ (g : Nat), wpQuiet P l.toArray (fun w' => ∃ x : Later y.out, w' = x.out) (fun a'' => ∀ (x : Later w), w.heap.size ≤ g → x.out.heap[g]? = some z →
        wpListIn (wideAt ro) n P l.toArray Q (pick l ts) a'' x.out) (pick l hs2) (a'.put (dstOf l.toArray m) (V g))) (pick l hs) a) : (Code.region id l.toArray true).wpIn (wideAt ro) n P Q a w := by
  cases ts with
  | nil => simp [twoB] at hB
  | cons t0 r =>
    simp only [twoB, Bool.and_eq_true, decide_eq_true_eq] at hB
    obtain ⟨⟨⟨⟨⟨⟨⟨⟨hsel, hH⟩, hR⟩, hT⟩, hsk⟩, hch⟩, hcov⟩, hdis⟩, hm0'⟩ := hB
    have hcov' : ∀ j, j < l.toArray.size → j ∈ (hs ++ hs2) ++ [m] ∨ j ∈ t0 :: r := fun j hj => by
      have := List.all_eq_true.1 hcov j (by simpa using hj)
      simp only [Bool.or_eq_true, List.contains_iff_mem] at this
      exact this
    have hdis' : ∀ t ∈ t0 :: r, t ∉ (hs ++ hs2) ++ [m] := fun t ht h => by
      have := List.all_eq_true.1 hdis t ht
      rw [List.contains_iff_mem.2 h] at this
      cases this
    have hm0 : m ∉ hs ++ hs2 := fun h => by rw [List.contains_iff_mem.2 h] at hm0'; cases hm0'
    have inv0 : Open l.toArray (t0 :: r) (Array.replicate l.toArray.size false) :=
      ⟨by simp, fun j oj _ hl => (by rw [getD_replicate_false] at hl; cases hl), fun t _ => getD_replicate_false _ _⟩
    have hlt : ∀ (ts : List Nat) (b : Array Bool), tailB l.toArray ts b = true → ∀ t ∈ ts, t < l.toArray.size := by
      intro ts
      induction ts with
      | nil => intro b _ t ht; cases ht
      | cons u q ih =>
        intro b hb t ht
        simp only [tailB, Bool.and_eq_true, decide_eq_true_eq] at hb
        rcases List.mem_cons.1 ht with rfl | ht
        · have : t ∈ Region.ready .any l.toArray b := by rw [hb.1]; simp
          obtain ⟨_, o, ho, _⟩ := mem_ready.1 this
          exact (Array.getElem?_eq_some_iff.1 ho).1
        · exact ih _ hb.2 t ht
    have hmem : ∀ (q : List Nat) (i : Nat) (o : Oper), i ∈ q → l[i]? = some o → o ∈ pick l q := by
      intro q
      induction q with
      | nil => intro i o h; cases h
      | cons u q ih =>
        intro i o h ho
        unfold pick
        rcases List.mem_cons.1 h with rfl | h
        · rw [ho]; simp
        · split
          · exact List.mem_cons_of_mem _ (ih i o h ho)
          · exact ih i o h ho
    have hni' : ∀ i o, i ∈ hs ++ hs2 → l.toArray[i]? = some o → NoInitOp P o := fun i o hi ho => by
      have hm := hmem (hs ++ hs2) i o hi (by simpa using ho)
      obtain ⟨k, hk, rfl⟩ := List.getElem_of_mem hm
      exact hni.at (i := k) (List.getElem?_eq_getElem hk)
    refine wpIn_region_any hm ?_
    have hb : Below w.heap.size w w.drew := (Below.refl _ w).drew
    have := wpAnyWide_of_X (P := P) (ops := l.toArray) (ro := ro) (n := n) (m := m) (V := V) (z := z) (w0 := w) (hs := hs ++ hs2) (g := (t0 :: r).length) (Q' := Q)
      (L := fun g listed' a' => tailB l.toArray (t0 :: r) listed' = true ∧ Open l.toArray (t0 :: r) listed' ∧ ∀ (x : Later w), w.heap.size ≤ g → x.out.heap[g]? = some z →
        wpListIn (wideAt ro) n P l.toArray Q (pick l (t0 :: r)) a' x.out)
      (fun i o ho => noDefer_at hnd ho) hni' (fun b listed' a' wc hbw hbs hz hL => wpAnyIn_of_tail rfl (t0 :: r) listed' a' wc (hlt _ _ hL.1) hL.1 (hL.2.2 ⟨wc, hbw⟩ hbs hz))
      (hs.length + (hs2.length + 1)) none (Array.replicate l.toArray.size false) a w.drew hb (fun b e => by cases e) (fun y => ?_)
    · have e : hs.length + (hs2.length + 1) + (t0 :: r).length = l.toArray.size := by simp at hsz ⊢; omega
      rw [e] at this
      exact this
    · have hw := hh ⟨y.out, hb.trans (y.below.mono hb.size)⟩
      exact wpAnyX_lex2 rfl hsel hsk hch hcov' hdis' hm0 (fun i h => List.mem_append_right _ h) hs _ a (fun _ h => List.mem_append_left _ h) inv0 hH hR hT hw
/-- in no round -/
theorem wp_region_two {w : World} {id : Nat} {Q : Exit → Act → World → Prop} {a : Act} {l : List Oper} (hs : List Nat) (m : Nat) (hs2 ts : List Nat) (V : Nat → Value) (z : Obj) (hm : P.follows .mixedOrders = true) (hB : twoB l.toArray hs m hs2 ts = true)
    (hsz : (hs ++ m :: hs2 ++ ts).length = l.length) (hnd : noDefer l = true) (hni : NoInit P (pick l (hs ++ hs2)))
    (hh : ∀ y : Later w, wpQuiet P l.toArray (fun w' => ∃ x : Later y.out, w' = x.out) (fun a' => MkCond P l.toArray m V z a' ∧ ∀ (g : Nat), wpQuiet P l.toArray (fun w' => ∃ x : Later y.out, w' = x.out) (fun a'' => ∀ (x : Later w), w.heap.size ≤ g → x.out.heap[g]? = some z →
        wpListIn Fence.wide 0 P l.toArray Q (pick l ts) a'' x.out) (pick l hs2) (a'.put (dstOf l.toArray m) (V g))) (pick l hs) a) : (Code.region id l.toArray true).wp P Q a w :=
  (wpIn_wide (n := 0)).1 (wpWide_region_two (ro := none) (n := 0) hs m hs2 ts V z hm hB hsz hnd hni hh)
end
end Go.Proofs.Ytcdnekhpeghkiaa
