/-
  What a taker has taken: subpaths, each with a row of its own for its segments.
-/
import Derived.Test.YtcdnekhpeghkiaaQC
import Derived.Test.YtcdnekhpeghkiaaC2
namespace Go.Proofs.Ytcdnekhpeghkiaa
set_option linter.unusedVariables false
open Go.RowKit

/-- a subpath: where it begins, its segments, and whether it is closed -/
structure SubP where
  st : Int × Int
  segs : List En
  cl : Bool

def flE (l : List En) : List Value := l.flatMap fun s => [.int .i64 (s 0), .int .i64 (s 1), .int .i64 (s 2), .int .i64 (s 3), .int .i64 (s 4), .int .i64 (s 5), .int .i64 (s 6), .int .i64 (s 7), .int .i64 (s 8)]
def subV (s : SubP) (v : Value) : List Value := [.int .i64 s.st.1, .int .i64 s.st.2, v, .bool s.cl]
def subsV (l : List (SubP × Value)) : List Value := l.flatMap fun p => subV p.1 p.2
theorem flE_len (l : List En) : (flE l).length = l.length * 9 := by
  induction l with
  | nil => rfl
  | cons a r ih => unfold flE at ih ⊢; rw [List.flatMap_cons, List.length_append, ih]; simp; omega
theorem flE_app (a b : List En) : flE (a ++ b) = flE a ++ flE b := by unfold flE; rw [List.flatMap_append]
theorem subsV_len (l : List (SubP × Value)) : (subsV l).length = l.length * 4 := by
  induction l with
  | nil => rfl
  | cons a r ih => unfold subsV at ih ⊢; rw [List.flatMap_cons, List.length_append, ih]; simp [subV]; omega
theorem subsV_app (a b : List (SubP × Value)) : subsV (a ++ b) = subsV a ++ subsV b := by unfold subsV; rw [List.flatMap_append]
/-- rows of things of other types are apart -/
theorem rows_apart {W : World} {b1 b2 z1 z2 n1 n2 : Nat} {e1 e2 : TypeId} {v1 v2 : Value} {x1 x2 : List Value} (h1 : W.ownsRow b1 e1 z1 v1 n1 x1) (h2 : W.ownsRow b2 e2 z2 v2 n2 x2) (hne : e1 ≠ e2) : v1.ownBlock = none ∨ v1.ownBlock ≠ v2.ownBlock := by
  rcases h1.2 with ⟨rfl, _⟩ | ⟨g, c, cur, rfl, _, hg, _⟩
  · exact .inl rfl
  · rcases h2.2 with ⟨rfl, _⟩ | ⟨g', c', cur', rfl, _, hg', _⟩
    · right; simp [Value.ownBlock]
    · right
      simp only [Value.ownBlock, ne_eq, Option.some.injEq]
      rintro rfl
      rw [hg] at hg'
      simp only [Option.some.injEq, Obj.cells.injEq] at hg'
      exact hne hg'.2.1

structure Subs (W : World) (B : Nat) (sv : Value) (l : List (SubP × Value)) : Prop where
  own : W.ownsRow B 60 4 sv l.length (subsV l)
  rows : ∀ p ∈ l, W.ownsRow B 26 9 p.2 p.1.segs.length (flE p.1.segs)
  apart : l.Pairwise fun p q => p.2.ownBlock = none ∨ p.2.ownBlock ≠ q.2.ownBlock
theorem subs_ne : (26 : TypeId) ≠ 60 := by decide
/-- other memory grows -/
theorem Subs.kept {W W' : World} {B : Nat} {sv : Value} {l : List (SubP × Value)} {row : Option Nat} (h : Subs W B sv l) (hg : W.grownBy W' row) (hr : ∀ r, row = some r → r < B) : Subs W' B sv l where
  own := h.own.kept hg (by
    cases e : sv.ownBlock with
    | none => exact .inl rfl
    | some k => right; intro e'; have := hr k e'.symm; have := (h.own.lt k e).1; omega)
  rows := fun p hp => (h.rows p hp).kept hg (by
    cases e : p.2.ownBlock with
    | none => exact .inl rfl
    | some k => right; intro e'; have := hr k e'.symm; have := ((h.rows p hp).lt k e).1; omega)
  apart := h.apart
theorem Subs.later {W : World} {B : Nat} {sv : Value} {l : List (SubP × Value)} (h : Subs W B sv l) (x : Later W) : Subs x.out B sv l where
  own := own_later h.own x
  rows := fun p hp => own_later (h.rows p hp) x
  apart := h.apart
theorem Subs.nil (W : World) (B : Nat) : Subs W B (.slice none 0 0) [] := ⟨World.ownsRow_nil W B _ _, fun p hp => by simp at hp, List.Pairwise.nil⟩
/-- one subpath more, without segments -/
theorem Subs.push {W W' : World} {B : Nat} {sv sv' : Value} {l : List (SubP × Value)} (h : Subs W B sv l) (a : Int × Int)
    (ho : W'.ownsRow B 60 4 sv' (l.length + 1) (subsV l ++ subV ⟨a, [], false⟩ (.slice none 0 0))) (hg : W.grownBy W' sv.ownBlock) : Subs W' B sv' (l ++ [(⟨a, [], false⟩, .slice none 0 0)]) where
  own := by
    rw [List.length_append, subsV_app]
    simpa [subsV] using ho
  rows := fun p hp => by
    rcases List.mem_append.1 hp with hp | hp
    · exact (h.rows p hp).kept hg (rows_apart (h.rows p hp) h.own subs_ne)
    · obtain rfl := List.mem_singleton.1 hp
      exact World.ownsRow_nil W' B _ _
  apart := by
    rw [List.pairwise_append]
    refine ⟨h.apart, List.pairwise_singleton _ _, fun p hp q hq => ?_⟩
    obtain rfl := List.mem_singleton.1 hq
    cases e : p.2.ownBlock with
    | none => exact .inl rfl
    | some k => right; simp [Value.ownBlock]
theorem subsV_at (l : List (SubP × Value)) (s : SubP) (v : Value) (k : Nat) (hk : k < 4) (u : Value) : (subsV (l ++ [(s, v)])).set (l.length * 4 + k) u = subsV l ++ (subV s v).set k u := by
  rw [subsV_app, List.set_append, if_neg (by rw [subsV_len]; omega), subsV_len]
  simp [subsV]
/-- the last one is closed -/
theorem Subs.close {W : World} {B g c n : Nat} {l : List (SubP × Value)} {s : SubP} {v : Value} (h : Subs W B (.slice (some ⟨g, 0, none⟩) n c) (l ++ [(s, v)])) (hn : n = l.length + 1) :
    Subs (W.setCell ⟨g, l.length * 4 + 3, none⟩ (.bool true)) B (.slice (some ⟨g, 0, none⟩) n c) (l ++ [(⟨s.st, s.segs, true⟩, v)]) := by
  have hl : (l ++ [(s, v)]).length = n := by simp [hn]
  have hl' : (l ++ [((⟨s.st, s.segs, true⟩ : SubP), v)]).length = n := by simp [hn]
  have ho := h.own
  rw [hl] at ho
  obtain ⟨k1, k2⟩ := ho.stored (l.length * 4 + 3) (.bool true)
  rw [subsV_at l s v 3 (by omega)] at k1
  refine ⟨?_, fun p hp => ?_, ?_⟩
  · rw [hl', subsV_app]
    simpa [subsV, subV] using k1
  · have kept : ∀ q ∈ l ++ [(s, v)], (W.setCell ⟨g, l.length * 4 + 3, none⟩ (.bool true)).ownsRow B 26 9 q.2 q.1.segs.length (flE q.1.segs) := fun q hq => (h.rows q hq).kept k2 (rows_apart (h.rows q hq) h.own subs_ne)
    rcases List.mem_append.1 hp with hp | hp
    · exact kept p (List.mem_append_left _ hp)
    · obtain rfl := List.mem_singleton.1 hp
      exact kept (s, v) (by simp)
  · have := h.apart
    rw [List.pairwise_append] at this ⊢
    refine ⟨this.1, List.pairwise_singleton _ _, fun p hp q hq => ?_⟩
    obtain rfl := List.mem_singleton.1 hq
    exact this.2.2 p hp (s, v) (by simp)
/-- the last one has one segment more -/
theorem Subs.seg {W W' : World} {B g c n : Nat} {l : List (SubP × Value)} {s : SubP} {v v' : Value} {a : En} (h : Subs W B (.slice (some ⟨g, 0, none⟩) n c) (l ++ [(s, v)])) (hn : n = l.length + 1)
    (ho : W'.ownsRow B 26 9 v' (s.segs.length + 1) (flE s.segs ++ flE [a])) (hg : W.grownBy W' v.ownBlock) (hv : v'.ownBlock = v.ownBlock ∨ v'.ownBlock = some W.heap.size) :
    Subs (W'.setCell ⟨g, l.length * 4 + 2, none⟩ v') B (.slice (some ⟨g, 0, none⟩) n c) (l ++ [(⟨s.st, s.segs ++ [a], s.cl⟩, v')]) := by
  have hl : (l ++ [(s, v)]).length = n := by simp [hn]
  have hl' : (l ++ [((⟨s.st, s.segs ++ [a], s.cl⟩ : SubP), v')]).length = n := by simp [hn]
  have hrow := h.rows (s, v) (by simp)
  have hown := h.own.kept hg (by
    rcases rows_apart hrow h.own subs_ne with e | e
    · rw [e]; right; simp [Value.ownBlock]
    · exact .inr (Ne.symm e))
  have hown' := hown
  rw [hl] at hown'
  obtain ⟨k1, k2⟩ := hown'.stored (l.length * 4 + 2) v'
  rw [subsV_at l s v 2 (by omega)] at k1
  have hap := h.apart
  rw [List.pairwise_append] at hap
  refine ⟨?_, fun p hp => ?_, ?_⟩
  · rw [hl', subsV_app]
    simpa [subsV, subV] using k1
  · rcases List.mem_append.1 hp with hp | hp
    · have r1 := (h.rows p (List.mem_append_left _ hp)).kept hg (hap.2.2 p hp (s, v) (by simp))
      exact r1.kept k2 (rows_apart r1 hown subs_ne)
    · obtain rfl := List.mem_singleton.1 hp
      have r1 : W'.ownsRow B 26 9 v' (s.segs ++ [a]).length (flE (s.segs ++ [a])) := by
        rw [List.length_append, flE_app]; exact ho
      exact r1.kept k2 (rows_apart r1 hown subs_ne)
  · rw [List.pairwise_append]
    refine ⟨hap.1, List.pairwise_singleton _ _, fun p hp q hq => ?_⟩
    obtain rfl := List.mem_singleton.1 hq
    rcases hv with e | e
    · simp only [e]; exact hap.2.2 p hp (s, v) (by simp)
    · cases e' : p.2.ownBlock with
      | none => exact .inl rfl
      | some k =>
        right
        simp only [e]
        intro e2
        have := ((h.rows p (List.mem_append_left _ hp)).lt k e').2
        simp only [Option.some.injEq] at e2
        omega
end Go.Proofs.Ytcdnekhpeghkiaa
