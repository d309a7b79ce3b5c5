/-
  As in One, with one operation ahead of the rest that waits for nothing and reads no memory (it may be drawn late: it may as well be taken first).
-/
import Derived.Test.YtcdnekhpeghkiaaOne
import Derived.OrdersIn
namespace Go.Proofs.Ytcdnekhpeghkiaa
set_option linter.unusedVariables false
open Go.RowKit

section
variable {P : Program} {ops : Array Oper} {C : World → Prop} {ro : Option Nat} {n m : Nat} {V : Nat → Value} {z : Obj}

def pickBF (ops : Array Oper) (f0 : Nat) (hs ts : List Nat) : Bool :=
  match ts with
  | [] => false
  | t0 :: r => Region.noSelect ops && Region.free .any ops (Array.replicate ops.size false) f0 && (Region.ready .any ops (Array.replicate ops.size false)).contains f0 &&
    headB ops hs ((Array.replicate ops.size false).setIfInBounds f0 true) && tailB ops (t0 :: r) (hs.foldl (fun b i => b.setIfInBounds i true) ((Array.replicate ops.size false).setIfInBounds f0 true)) && sinkL ops t0 hs && chainL ops (t0 :: r) &&
    (List.range ops.size).all (fun i => (hs.contains i || i == f0) || (t0 :: r).contains i) && (t0 :: r).all (fun t => !hs.contains t) && (t0 :: r).all (fun t => !(t == f0))
theorem wpAnyX_firstF {hs : List Nat} {t0 : Nat} {r : List Nat} {i : Nat} {oi : Oper} {v : Value} {L : Nat → Array Bool → Act → Prop} (hi : ops[i]? = some oi) (hsel : ∀ (j : Nat) (o : Oper) cs b, ops[j]? = some o → o.op ≠ .select cs b)
    (hsk : sinkL ops t0 (hs ++ [m]) = true) (hch : chainL ops (t0 :: r) = true) {fs : List Nat} (hcov : ∀ j, j < ops.size → (j ∈ hs ++ [m] ∨ j ∈ fs) ∨ j ∈ t0 :: r) (hdis : ∀ t ∈ t0 :: r, t ∉ hs ++ [m]) (hin : i ∈ hs) (him : i ≠ m)
    (hdone : ∀ g listed a, L g listed a → ∀ j ∈ Region.ready .any ops listed, j ∉ hs ++ [m]) :
    ∀ (f : Nat) (s : Option Nat) (listed : Array Bool) (a : Act), (∀ j ∈ fs, listed.getD j false = true) → Open ops (t0 :: r) listed →
      (∀ j oj, ops[j]? = some oj → j ≠ i → listed.getD j true = false → (∀ e ∈ oj.after, Region.binds .any e = true → e.on ≠ i) → oi.apart ops oj = true) →
      i ∈ Region.ready .any ops listed → YieldsIn P ops C oi v a →
      wpAnyX P ops C m V z hs L f s (listed.setIfInBounds i true) (a.put oi.dst v) → wpAnyX P ops C m V z hs L (f + 1) s listed a := by
  have inH : ∀ {listed : Array Bool}, (∀ j ∈ fs, listed.getD j false = true) → Open ops (t0 :: r) listed → i ∈ Region.ready .any ops listed → ∀ j ∈ Region.ready .any ops listed, j ∈ hs ++ [m] := fun {listed} HF inv hr j hj => by
    obtain ⟨hjun0, oj, hoj, _⟩ := mem_ready.1 hj
    rcases hcov j (Array.getElem?_eq_some_iff.1 hoj).1 with (h | h) | h
    · exact h
    · have := HF j h
      rw [getD_both hjun0] at this
      cases this
    · exact absurd hj (pick_waits hsk hch inv (List.mem_append_left _ hin) (getD_both (mem_ready.1 hr).1) j h)
  intro f
  induction f with
  | zero =>
    intro s listed a HF inv _ hr hy H
    refine ⟨fun h => (by rw [h] at hr; cases hr), fun j hj => ?_⟩
    have hjH := inH HF inv hr j hj
    have no : j ≠ i → False := fun hji => by
      cases s with
      | none => exact H
      | some g => exact hdone g _ _ H j (ready_mono hj hji) hjH
    refine ⟨fun hjm => (no (fun e => him (e.symm.trans hjm))).elim, fun hjm => ?_⟩
    by_cases hji : j = i
    · subst hji; exact ⟨hin, hy.qOp hi H⟩
    · exact (no hji).elim
  | succ f ih =>
    intro s listed a HF inv hfree hr hy H
    have hun := (mem_ready.1 hr).1
    refine ⟨fun h => (by rw [h] at hr; cases hr), fun j hj => ?_⟩
    have hjH := inH HF inv hr j hj
    by_cases hji : j = i
    · subst hji; exact ⟨fun e => absurd e him, fun _ => ⟨hin, hy.qOp hi H⟩⟩
    · have h1 := H.2 j (ready_mono hj hji)
      obtain ⟨hjun, oj, hoj, hall⟩ := mem_ready.1 hj
      have hnot : ∀ e ∈ oj.after, Region.binds .any e = true → e.on ≠ i := fun e he hb heq => by
        have h1 := hall e he hb
        rw [heq, getD_both hun] at h1
        cases h1
      have hap := hfree j oj hoj hji hjun hnot
      have hfree' : ∀ k ok, ops[k]? = some ok → k ≠ i → (listed.setIfInBounds j true).getD k true = false →
          (∀ e ∈ ok.after, Region.binds .any e = true → e.on ≠ i) → oi.apart ops ok = true := fun k ok hk hki hun hno => by
        refine hfree k ok hk hki ?_ hno
        by_cases hjk : j = k
        · subst hjk; exact hjun
        · rw [getD_set_ne true hjk] at hun; exact hun
      have hinv := inv.set hj (fun h => hdis j h hjH)
      have HF' : ∀ k ∈ fs, (listed.setIfInBounds j true).getD k false = true := fun k hk => getD_set_true (HF k hk)
      have hcomm : (listed.setIfInBounds i true).setIfInBounds j true = (listed.setIfInBounds j true).setIfInBounds i true := Array.setIfInBounds_comm _ _ (Ne.symm hji)
      refine ⟨fun hjm => ?_, fun hjm => ?_⟩
      · subst hjm
        obtain ⟨k1, k2⟩ := h1.1 rfl
        obtain ⟨a1, a2, a3⟩ := Oper.apart_spec hap
        have ed : dstOf ops j = oj.dst := by simp [dstOf, hoj]
        refine ⟨fun o ho => ?_, fun g => ?_⟩
        · obtain rfl : o = oj := Option.some.inj (ho.symm.trans hoj)
          obtain ⟨q1, q2⟩ := k1 o ho
          have ex := execOp_put (ops := ops) o (fun cs b => hsel j o cs b hoj) a oi.dst v a1
          have ew := wanted_put (ops := ops) o a oi.dst v a1
          rw [ew] at q1
          refine ⟨q1, fun wc => ?_⟩
          rw [← ex]
          exact q2 wc
        · have hg := k2 g
          rw [ed] at hg ⊢
          rw [hcomm] at hg
          exact ih (some g) (listed.setIfInBounds j true) _ HF' hinv hfree' (ready_mono hr (Ne.symm hji))
            (hy.of_same (execOp_put oi (fun cs b => hsel i oi cs b hi) a oj.dst _ a3) (wanted_put oi a oj.dst _ a3)) (by rw [← Act.put_comm a v _ a2]; exact hg)
      · obtain ⟨_, h1⟩ := h1.2 hjm
        have h2 := qOp_put hoj hap (fun cs b => hsel i oi cs b hi) (fun cs b => hsel j oj cs b hoj) hy h1
        refine ⟨?_, qOp_mono (fun a' h3 => ih s (listed.setIfInBounds j true) a' HF' hinv hfree' (ready_mono hr (Ne.symm hji)) h3.1 ?_) h2⟩
        · rcases List.mem_append.1 hjH with h | h
          · exact h
          · exact absurd (by simpa using h) hjm
        · rw [← hcomm]
          exact h3.2

theorem wpAnyX_lexF {l : List Oper} (hops : ops = l.toArray) {hs0 : List Nat} {t0 : Nat} {r : List Nat} {Lq : Nat → Act → Prop} (hsel : Region.noSelect ops = true)
    (hsk : sinkL ops t0 (hs0 ++ [m]) = true) (hch : chainL ops (t0 :: r) = true) {fs : List Nat} (hcov : ∀ j, j < ops.size → (j ∈ hs0 ++ [m] ∨ j ∈ fs) ∨ j ∈ t0 :: r) (hdis : ∀ t ∈ t0 :: r, t ∉ hs0 ++ [m]) (hm0 : m ∉ hs0) :
    ∀ (hs : List Nat) (listed : Array Bool) (a : Act), (∀ j ∈ fs, listed.getD j false = true) → (∀ i ∈ hs, i ∈ hs0) → (∀ i ∈ hs0, i ∉ hs → listed.getD i false = true) → Open ops (t0 :: r) listed → headB ops (hs ++ [m]) listed = true →
    tailB ops (t0 :: r) ((hs ++ [m]).foldl (fun b i => b.setIfInBounds i true) listed) = true →
    wpQuiet P ops C (fun a' => MkCond P ops m V z a' ∧ ∀ g, Lq g (a'.put (dstOf ops m) (V g))) (pick l hs) a →
    wpAnyX P ops C m V z hs0 (fun g listed' a' => tailB ops (t0 :: r) listed' = true ∧ Open ops (t0 :: r) listed' ∧ Lq g a') (hs.length + 1) none listed a
  | [], listed, a, HF, _, hall, inv, hB, hT, h => by
    simp only [List.nil_append, headB, Bool.and_eq_true, decide_eq_true_eq] at hB
    obtain ⟨⟨⟨hlt, hr⟩, hf⟩, _⟩ := hB
    have hr' : m ∈ Region.ready .any ops listed := by simpa using hr
    have hun := getD_both (mem_ready.1 hr').1
    refine ⟨fun h => (by rw [h] at hr'; cases hr'), fun i hi => ?_⟩
    have him : i = m := by
      obtain ⟨hiun, oi, hoi, _⟩ := mem_ready.1 hi
      rcases hcov i (Array.getElem?_eq_some_iff.1 hoi).1 with (h | h) | h
      · rcases List.mem_append.1 h with h | h
        · have := hall i h (by simp)
          rw [getD_both hiun] at this
          cases this
        · simpa using h
      · have := HF i h
        rw [getD_both hiun] at this
        cases this
      · exact absurd hi (pick_waits hsk hch inv (List.mem_append_right _ (by simp)) hun i h)
    refine ⟨fun _ => ⟨h.1, fun g => ⟨by simpa using hT, inv.set hr' (fun k => hdis m k (by simp)), h.2 g⟩⟩, fun e => absurd him e⟩
  | i :: hs, listed, a, HF, hin, hall, inv, hB, hT, h => by
    simp only [List.cons_append, headB, Bool.and_eq_true, decide_eq_true_eq] at hB
    obtain ⟨⟨⟨hlt, hr⟩, hf⟩, hB'⟩ := hB
    have hr' : i ∈ Region.ready .any ops listed := by simpa using hr
    have h0 : ops[i]? = some ops[i] := Array.getElem?_eq_getElem hlt
    have hl0 : l[i]? = some ops[i] := by rw [← h0, hops]; simp
    unfold pick at h
    rw [hl0] at h
    have hi0 := hin i (by simp)
    have him : i ≠ m := fun e => hm0 (e ▸ hi0)
    have hst : qOp P ops C i (wpQuiet P ops C (fun a' => MkCond P ops m V z a' ∧ ∀ g, Lq g (a'.put (dstOf ops m) (V g))) (pick l hs)) a := by unfold qOp; simp only [h0]; exact h
    obtain ⟨v, hy, hK⟩ := yieldsIn_of_qOp h0 hst
    refine wpAnyX_firstF h0 (Region.noSelect_spec hsel) hsk hch hcov hdis hi0 him (fun g listed' a' hL j hj hjh => ?_) (hs.length + 1) none listed a HF inv (Region.free_spec h0 hf) hr' hy
      (wpAnyX_lexF hops hsel hsk hch hcov hdis hm0 hs _ _ (fun k hk => getD_set_true (HF k hk)) (fun k hk => hin k (List.mem_cons_of_mem _ hk)) (fun k hk hkn => ?_) (inv.set hr' (fun h => hdis i h (List.mem_append_left _ hi0))) hB' (by simpa using hT) hK)
    · have h1 := hL.1
      simp only [tailB, Bool.and_eq_true, decide_eq_true_eq] at h1
      rw [h1.1] at hj
      obtain rfl : j = t0 := by simpa using hj
      exact hdis j (by simp) hjh
    · by_cases e : i = k
      · subst e
        have hlt' : i < listed.size := by rw [inv.size]; exact hlt
        simp [hlt']
      · exact getD_set_true (hall k hk (by simp [Ne.symm e, hkn]))

theorem wpWide_region_oneF {w : World} {id : Nat} {Q : Exit → Act → World → Prop} {a : Act} {l : List Oper} (f0 : Nat) (of0 : Oper) (v0 : Value) (hs : List Nat) (m : Nat) (ts : List Nat) (V : Nat → Value) (z : Obj) (hm : P.follows .mixedOrders = true) (hf0 : l[f0]? = some of0) (hfy : YieldsFenced P l.toArray of0 v0 a) (hQ : ∀ c a w, Q (.panic c) (a.put of0.dst v0) w → Q (.panic c) a w) (hB : pickBF l.toArray f0 (hs ++ [m]) ts = true) (hmn : hs.contains m = false)
    (hsz : ((hs ++ [m]) ++ ts).length + 1 = l.length) (hnd : noDefer l = true) (hni : NoInit P (pick l hs))
    (hh : ∀ y : Later w, wpQuiet P l.toArray (fun w' => ∃ x : Later y.out, w' = x.out) (fun a' => MkCond P l.toArray m V z a' ∧ ∀ (g : Nat) (x : Later w), w.heap.size ≤ g → x.out.heap[g]? = some z →
        wpListIn (wideAt none) n P l.toArray Q (pick l ts) (a'.put (dstOf l.toArray m) (V g)) x.out) (pick l hs) (a.put of0.dst v0)) : (Code.region id l.toArray true).wpIn (wideAt none) n P Q a w := by
  cases ts with
  | nil => simp [pickBF] at hB
  | cons t0 r =>
    simp only [pickBF, Bool.and_eq_true] at hB
    obtain ⟨⟨⟨⟨⟨⟨⟨⟨⟨hsel, hfr⟩, hrd⟩, hH⟩, hT⟩, hsk⟩, hch⟩, hcov⟩, hdis⟩, hop⟩ := hB
    have hcov' : ∀ j, j < l.toArray.size → (j ∈ hs ++ [m] ∨ j ∈ [f0]) ∨ j ∈ t0 :: r := fun j hj => by
      have := List.all_eq_true.1 hcov j (by simpa using hj)
      simp only [Bool.or_eq_true, List.contains_iff_mem, beq_iff_eq, List.mem_singleton] at this ⊢
      rcases this with (h | h) | h
      · exact .inl (.inl h)
      · exact .inl (.inr h)
      · exact .inr h
    have hdis' : ∀ t ∈ t0 :: r, t ∉ hs ++ [m] := fun t ht h => by
      have := List.all_eq_true.1 hdis t ht
      simp at this h
      rcases h with h | h
      · exact this.1 h
      · exact this.2 h
    have hm0 : m ∉ hs := fun h => by simp [h] at hmn
    have inv00 : Open l.toArray (t0 :: r) (Array.replicate l.toArray.size false) :=
      ⟨by simp, fun j oj _ hl => (by rw [getD_replicate_false] at hl; cases hl), fun t _ => getD_replicate_false _ _⟩
    have hrd' : f0 ∈ Region.ready .any l.toArray (Array.replicate l.toArray.size false) := by simpa using hrd
    have inv0 : Open l.toArray (t0 :: r) ((Array.replicate l.toArray.size false).setIfInBounds f0 true) :=
      inv00.set hrd' (fun h => by have := List.all_eq_true.1 hop f0 h; simp at this)
    have hlt0 : f0 < l.toArray.size := by
      obtain ⟨_, o, ho, _⟩ := mem_ready.1 hrd'
      exact (Array.getElem?_eq_some_iff.1 ho).1
    have hF0 : ∀ j ∈ [f0], ((Array.replicate l.toArray.size false).setIfInBounds f0 true).getD j false = true := fun j hj => by
      obtain rfl := List.mem_singleton.1 hj
      have hlt9 : j < l.length := by simpa using hlt0
      simp [hlt9]
    have hlt : ∀ (ts : List Nat) (b : Array Bool), tailB l.toArray ts b = true → ∀ t ∈ ts, t < l.toArray.size := by
      intro ts
      induction ts with
      | nil => intro b _ t ht; cases ht
      | cons u q ih =>
        intro b hb t ht
        simp only [tailB, Bool.and_eq_true, decide_eq_true_eq] at hb
        rcases List.mem_cons.1 ht with rfl | ht
        · have : t ∈ Region.ready .any l.toArray b := by rw [hb.1]; simp
          obtain ⟨_, o, ho, _⟩ := mem_ready.1 this
          exact (Array.getElem?_eq_some_iff.1 ho).1
        · exact ih _ hb.2 t ht
    have hmem : ∀ (q : List Nat) (i : Nat) (o : Oper), i ∈ q → l[i]? = some o → o ∈ pick l q := by
      intro q
      induction q with
      | nil => intro i o h; cases h
      | cons u q ih =>
        intro i o h ho
        unfold pick
        rcases List.mem_cons.1 h with rfl | h
        · rw [ho]; simp
        · split
          · exact List.mem_cons_of_mem _ (ih i o h ho)
          · exact ih i o h ho
    have hni' : ∀ i o, i ∈ hs → l.toArray[i]? = some o → NoInitOp P o := fun i o hi ho => by
      have hm := hmem hs i o hi (by simpa using ho)
      obtain ⟨k, hk, rfl⟩ := List.getElem_of_mem hm
      exact hni.at (i := k) (List.getElem?_eq_getElem hk)
    refine wpIn_region_any hm ?_
    have hb : Below w.heap.size w w.drew := (Below.refl _ w).drew
    have := wpAnyWide_of_X (P := P) (ops := l.toArray) (ro := none) (n := n) (m := m) (V := V) (z := z) (w0 := w) (hs := hs) (g := (t0 :: r).length) (Q' := Q)
      (L := fun g listed' a' => tailB l.toArray (t0 :: r) listed' = true ∧ Open l.toArray (t0 :: r) listed' ∧ ∀ (x : Later w), w.heap.size ≤ g → x.out.heap[g]? = some z →
        wpListIn (wideAt none) n P l.toArray Q (pick l (t0 :: r)) a' x.out)
      (fun i o ho => noDefer_at hnd ho) hni' (fun b listed' a' wc hbw hbs hz hL => wpAnyIn_of_tail rfl (t0 :: r) listed' a' wc (hlt _ _ hL.1) hL.1 (hL.2.2 ⟨wc, hbw⟩ hbs hz))
      (hs.length + 1) none ((Array.replicate l.toArray.size false).setIfInBounds f0 true) (a.put of0.dst v0) w.drew hb (fun b e => by cases e) (fun y => ?_)
    · have e : hs.length + 1 + (t0 :: r).length + 1 = l.toArray.size := by simp at hsz ⊢; omega
      have h0 : l.toArray[f0]? = some of0 := by simpa using hf0
      have key := wpAnyIn_take (i := f0) (oi := of0) (v := v0) rfl h0 hsel hfr hrd hQ hfy this
      rw [e] at key
      exact key
    · have hw := hh ⟨y.out, hb.trans (y.below.mono hb.size)⟩
      refine wpAnyX_lexF rfl hsel hsk hch hcov' hdis' hm0 hs _ _ hF0 (fun _ h => h) (fun i h1 h2 => absurd h1 h2) inv0 hH hT (wpQuiet_post (fun a' h' => ⟨h'.1, fun g x h1 h2 => h'.2 g x h1 h2⟩) _ _ hw)
/-- in no round -/
theorem wp_region_oneF {w : World} {id : Nat} {Q : Exit → Act → World → Prop} {a : Act} {l : List Oper} (f0 : Nat) (of0 : Oper) (v0 : Value) (hs : List Nat) (m : Nat) (ts : List Nat) (V : Nat → Value) (z : Obj) (hm : P.follows .mixedOrders = true) (hf0 : l[f0]? = some of0) (hfy : YieldsFenced P l.toArray of0 v0 a) (hQ : ∀ c a w, Q (.panic c) (a.put of0.dst v0) w → Q (.panic c) a w) (hB : pickBF l.toArray f0 (hs ++ [m]) ts = true) (hmn : hs.contains m = false)
    (hsz : ((hs ++ [m]) ++ ts).length + 1 = l.length) (hnd : noDefer l = true) (hni : NoInit P (pick l hs))
    (hh : ∀ y : Later w, wpQuiet P l.toArray (fun w' => ∃ x : Later y.out, w' = x.out) (fun a' => MkCond P l.toArray m V z a' ∧ ∀ (g : Nat) (x : Later w), w.heap.size ≤ g → x.out.heap[g]? = some z →
        wpListIn Fence.wide 0 P l.toArray Q (pick l ts) (a'.put (dstOf l.toArray m) (V g)) x.out) (pick l hs) (a.put of0.dst v0)) : (Code.region id l.toArray true).wp P Q a w :=
  (wpIn_wide (n := 0)).1 (wpWide_region_oneF (n := 0) f0 of0 v0 hs m ts V z hm hf0 hfy hQ hB hmn hsz hnd hni hh)
end
end Go.Proofs.Ytcdnekhpeghkiaa
