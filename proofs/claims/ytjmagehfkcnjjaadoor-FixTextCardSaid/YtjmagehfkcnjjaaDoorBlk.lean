/-
  What a block holds, as one word; how stores, new blocks and calls keep it.
-/
import Derived.Test.YtjmagehfkcnjjaaDoorAlloc2
namespace Go.Proofs.YtjmagehfkcnjjaaDoor
set_option linter.unusedVariables false
open Go.RowKit

/-- block b holds these cells, none of them frozen -/
def Blk (W : World) (b : Nat) (T : TypeId) (c : Array Value) : Prop := W.heap[b]? = some (.cells c T)
theorem Blk.lt {W : World} {b : Nat} {T : TypeId} {c : Array Value} (h : Blk W b T c) : b < W.heap.size := (Array.getElem?_eq_some_iff.1 h).1
theorem Blk.cell {W : World} {b : Nat} {T : TypeId} {c : Array Value} (h : Blk W b T c) (i : Nat) : W.cell? ⟨b, i, none⟩ = c[i]? := by
  unfold Blk at h; simp [World.cell?, h]
theorem Blk.frozen {W : World} {b : Nat} {T : TypeId} {c : Array Value} (h : Blk W b T c) (i : Nat) : W.frozen? ⟨b, i, none⟩ = false := by
  unfold Blk at h; simp [World.frozen?, h]
theorem Blk.set {W : World} {b : Nat} {T : TypeId} {c : Array Value} (h : Blk W b T c) (i : Nat) (v : Value) : Blk (W.setCell ⟨b, i, none⟩ v) b T (c.setIfInBounds i v) := by
  have hl := h.lt
  unfold Blk at *
  simp only [World.setCell, Array.getElem?_modify, if_true, h]
  simp
theorem Blk.other {W : World} {b b' : Nat} {T : TypeId} {c : Array Value} (h : Blk W b T c) (i : Nat) (v : Value) (hne : b ≠ b') : Blk (W.setCell ⟨b', i, none⟩ v) b T c :=
  (Below.heap_setCell W ⟨b', i, none⟩ v b hne).trans h
theorem Blk.new (W : World) (T : TypeId) (c : Array Value) : Blk (W.alloc (.cells c T)) W.heap.size T c := alloc_new W _
theorem Blk.new' {W : World} {b : Nat} {T : TypeId} {c : Array Value} (h : b = W.heap.size) : Blk (W.alloc (.cells c T)) b T c := h ▸ Blk.new W T c
theorem Blk.alloc {W : World} {b : Nat} {T : TypeId} {c : Array Value} (h : Blk W b T c) (o : Obj) : Blk (W.alloc o) b T c := (Below.heap_alloc W o b h.lt).trans h
theorem Blk.drew {W : World} {b : Nat} {T : TypeId} {c : Array Value} (h : Blk W b T c) : Blk W.drew b T c := h
theorem Blk.later {W : World} {b : Nat} {T : TypeId} {c : Array Value} (h : Blk W b T c) (x : Later W) : Blk x.out b T c := (x.below.block b h.lt).trans h
theorem Blk.below {W W' : World} {B b : Nat} {T : TypeId} {c : Array Value} (h : Blk W b T c) (k : Below B W W') (hb : b < B) : Blk W' b T c := (k.block b hb).trans h
theorem Blk.heap {W W' : World} {b : Nat} {T : TypeId} {c : Array Value} (h : Blk W b T c) (k : W'.heap[b]? = W.heap[b]?) : Blk W' b T c := k.trans h
theorem Blk.eq {W : World} {b : Nat} {T : TypeId} {c c' : Array Value} (h : Blk W b T c) (e : c = c') : Blk W b T c' := e ▸ h
theorem Blk.grown {W W' : World} {b N : Nat} {T : TypeId} {c : Array Value} {row : Option Nat} (h : Blk W b T c) (hg : W.grownBy W' row) (hr : ∀ r, row = some r → N ≤ r) (hb : b < N) : Blk W' b T c :=
  (hg.block b h.lt (fun e => by have := hr b e.symm; omega)).trans h
/-- what the walk is given of a block -/
theorem Blk.all {W : World} {b : Nat} {T : TypeId} {c : Array Value} (h : Blk W b T c) : (∀ i, W.cell? ⟨b, i, none⟩ = c[i]?) ∧ (∀ i, W.frozen? ⟨b, i, none⟩ = false) ∧ b < W.heap.size := ⟨h.cell, h.frozen, h.lt⟩
end Go.Proofs.YtjmagehfkcnjjaaDoor
