/-
  Split: the subpaths of a path that is one.
-/
import Derived.Test.YtcdnekhpeghkiaaQG
namespace Go.Proofs.Ytcdnekhpeghkiaa
set_option linter.unusedVariables false
open Go.RowKit

/-- the points that are left: they lie where the path's points lay -/
def Pl (w0 : World) (v : Value) (rest : List (Int × Int)) : Prop :=
  ∃ b o c, v = .slice (some ⟨b, o, none⟩) rest.length c ∧ b < w0.heap.size ∧ rest.length ≤ c ∧ c ≤ maxLen ∧
    ∀ (i : Nat) (p : Int × Int), rest[i]? = some p → w0.cell? ⟨b, o + i * 2, none⟩ = some (.int .i64 p.1) ∧ w0.cell? ⟨b, o + i * 2 + 1, none⟩ = some (.int .i64 p.2)
theorem Pl.drop {w0 : World} {b o c : Nat} {ps r : List (Int × Int)} (hb : b < w0.heap.size) (hl : (ps ++ r).length ≤ c) (c9 : c ≤ maxLen)
    (hp : ∀ (i : Nat) (p : Int × Int), (ps ++ r)[i]? = some p → w0.cell? ⟨b, o + i * 2, none⟩ = some (.int .i64 p.1) ∧ w0.cell? ⟨b, o + i * 2 + 1, none⟩ = some (.int .i64 p.2))
    (k d : Nat) (hk : ps.length = k) (hd : d = k * 2) : Pl w0 (.slice (if c = k then (some ⟨b, o, none⟩ : Option Addr) else some ⟨b, o + d, none⟩) r.length (c - k)) r := by
  rw [List.length_append, hk] at hl
  by_cases e : c = k
  · rw [if_pos e]
    obtain rfl : r = [] := List.eq_nil_of_length_eq_zero (by omega)
    exact ⟨b, o, c - k, rfl, hb, by simp, by omega, fun i p h => by simp at h⟩
  · rw [if_neg e]
    refine ⟨b, o + d, c - k, rfl, hb, by omega, by omega, fun i p h => ?_⟩
    have h6 := hp (k + i) p (by rw [List.getElem?_append_right (by omega), hk]; simpa using h)
    rw [hd, show o + k * 2 + i * 2 = o + (k + i) * 2 by omega]
    exact h6
structure TkAt (w0 : World) (t : Nat) (vv pl sv : Value) (rest : List (Int × Int)) (pt : Int × Int) (L : List (SubP × Value)) (W : World) : Prop where
  blk : Blk W t 93 #[vv, pl, sv, .int .i64 pt.1, .int .i64 pt.2]
  pts : Pl w0 pl rest
  subs : Subs W (t + 1) sv L
  below : Below w0.heap.size w0 W
  t0 : w0.heap.size ≤ t
  size : t + 1 ≤ W.heap.size
def nrP (p : Int × Int) : Prop := (-268435456 ≤ p.1 ∧ p.1 ≤ 268435456) ∧ (-268435456 ≤ p.2 ∧ p.2 ≤ 268435456)
def GoodSub (k : Nat) (s : SubP) : Prop := nrP s.st ∧ s.segs.length ≤ k ∧ ∀ a ∈ s.segs, GoodE a ∧ a 9 = 0
structure GoodS (k : Nat) (pt : Int × Int) (rest : List (Int × Int)) (L : List (SubP × Value)) : Prop where
  len : L.length ≤ k
  each : ∀ p ∈ L, GoodSub k p.1
  pt : nrP pt
  rest : ∀ p ∈ rest, nrP p
theorem GoodSub.mono {k m : Nat} {s : SubP} (h : GoodSub k s) (hm : k ≤ m) : GoodSub m s := ⟨h.1, Nat.le_trans h.2.1 hm, h.2.2⟩
theorem GoodS.move {k : Nat} {pt p : Int × Int} {r : List (Int × Int)} {L : List (SubP × Value)} (h : GoodS k pt (p :: r) L) (v : Value) : GoodS (k + 1) p r (L ++ [(⟨p, [], false⟩, v)]) where
  len := by rw [List.length_append]; have := h.len; simp; omega
  each := fun q hq => by
    rcases List.mem_append.1 hq with hq | hq
    · exact (h.each q hq).mono (by omega)
    · obtain rfl := List.mem_singleton.1 hq
      exact ⟨h.rest p (by simp), by simp, fun a ha => by simp at ha⟩
  pt := h.rest p (by simp)
  rest := fun q hq => h.rest q (List.mem_cons_of_mem _ hq)
theorem GoodS.last {k : Nat} {pt pt' : Int × Int} {rest r : List (Int × Int)} {l : List (SubP × Value)} {s s' : SubP} {v v' : Value} (h : GoodS k pt rest (l ++ [(s, v)])) (hp : nrP pt') (hr : ∀ p ∈ r, nrP p) (hs : GoodSub (k + 1) s') : GoodS (k + 1) pt' r (l ++ [(s', v')]) where
  len := by have := h.len; simp at this ⊢; omega
  each := fun q hq => by
    rcases List.mem_append.1 hq with hq | hq
    · exact (h.each q (List.mem_append_left _ hq)).mono (by omega)
    · obtain rfl := List.mem_singleton.1 hq
      exact hs
  pt := hp
  rest := hr
theorem GoodSub.more {k : Nat} {s : SubP} {a : En} (h : GoodSub k s) (ha : GoodE a ∧ a 9 = 0) (c : Bool) : GoodSub (k + 1) ⟨s.st, s.segs ++ [a], c⟩ :=
  ⟨h.1, by simp; exact h.2.1, fun b hb => by
    rcases List.mem_append.1 hb with hb | hb
    · exact h.2.2 b hb
    · obtain rfl := List.mem_singleton.1 hb; exact ha⟩
theorem good_sg2 {a p : Int × Int} (ha : nrP a) (hp : nrP p) : GoodE (sg2 a.1 a.2 p.1 p.2) ∧ (sg2 a.1 a.2 p.1 p.2) 9 = 0 := by
  obtain ⟨⟨_, _⟩, _, _⟩ := ha
  obtain ⟨⟨_, _⟩, _, _⟩ := hp
  refine ⟨⟨by left; rfl, by show (0 : Int) ≤ 0; omega, by show (0 : Int) ≤ 10; omega, fun i hi => ?_⟩, rfl⟩
  have : i = 0 ∨ i = 1 ∨ i = 2 ∨ i = 3 ∨ i = 4 ∨ i = 5 ∨ i = 6 ∨ i = 7 := by omega
  rcases this with rfl | rfl | rfl | rfl | rfl | rfl | rfl | rfl <;> simp only [sg2] <;> omega
theorem good_sg3 {a p q : Int × Int} (ha : nrP a) (hp : nrP p) (hq : nrP q) : GoodE (sg3 a.1 a.2 p.1 p.2 q.1 q.2) ∧ (sg3 a.1 a.2 p.1 p.2 q.1 q.2) 9 = 0 := by
  obtain ⟨⟨_, _⟩, _, _⟩ := ha
  obtain ⟨⟨_, _⟩, _, _⟩ := hp
  obtain ⟨⟨_, _⟩, _, _⟩ := hq
  refine ⟨⟨by right; left; rfl, by show (0 : Int) ≤ 0; omega, by show (0 : Int) ≤ 10; omega, fun i hi => ?_⟩, rfl⟩
  have : i = 0 ∨ i = 1 ∨ i = 2 ∨ i = 3 ∨ i = 4 ∨ i = 5 ∨ i = 6 ∨ i = 7 := by omega
  rcases this with rfl | rfl | rfl | rfl | rfl | rfl | rfl | rfl <;> simp only [sg3] <;> omega
theorem good_sg4 {a p q r : Int × Int} (ha : nrP a) (hp : nrP p) (hq : nrP q) (hr : nrP r) : GoodE (sg4 a.1 a.2 p.1 p.2 q.1 q.2 r.1 r.2) ∧ (sg4 a.1 a.2 p.1 p.2 q.1 q.2 r.1 r.2) 9 = 0 := by
  obtain ⟨⟨_, _⟩, _, _⟩ := ha
  obtain ⟨⟨_, _⟩, _, _⟩ := hp
  obtain ⟨⟨_, _⟩, _, _⟩ := hq
  obtain ⟨⟨_, _⟩, _, _⟩ := hr
  refine ⟨⟨by right; right; rfl, by show (0 : Int) ≤ 0; omega, by show (0 : Int) ≤ 10; omega, fun i hi => ?_⟩, rfl⟩
  have : i = 0 ∨ i = 1 ∨ i = 2 ∨ i = 3 ∨ i = 4 ∨ i = 5 ∨ i = 6 ∨ i = 7 := by omega
  rcases this with rfl | rfl | rfl | rfl | rfl | rfl | rfl | rfl <;> simp only [sg4] <;> omega
/-- what take leaves -/
def TkRet (w0 : World) (t : Nat) (vv : Value) (k : Nat) (left : Nat) (e : Ending) (w' : World) : Prop :=
  e = .returned (.tuple #[]) ∧ ∃ pl' sv' rest' pt' L', TkAt w0 t vv pl' sv' rest' pt' L' w' ∧ GoodS (k + 1) pt' rest' L' ∧ L' ≠ [] ∧ rest'.length = left
theorem TkAt.next {w0 W w' : World} {t : Nat} {vv pl sv pl' sv' : Value} {rest r : List (Int × Int)} {pt pt' : Int × Int} {L L' : List (SubP × Value)} (T : TkAt w0 t vv pl sv rest pt L W)
    (hb : Blk w' t 93 #[vv, pl', sv', .int .i64 pt'.1, .int .i64 pt'.2]) (hp : Pl w0 pl' r) (hs : Subs w' (t + 1) sv' L') (hB : Below t W w') : TkAt w0 t vv pl' sv' r pt' L' w' :=
  ⟨hb, hp, hs, T.below.trans (hB.mono T.t0), T.t0, Nat.le_trans T.size hB.size⟩


theorem take_c1 {w0 W : World} {t k : Nat} {vv pl sv : Value} {p : Int × Int} {r : List (Int × Int)} {pt : Int × Int} {L : List (SubP × Value)} (T : TkAt w0 t vv pl sv (p :: r) pt L W) (G : GoodS k pt (p :: r) L) (k9 : k ≤ 600) (r9 : r.length ≤ 1000000) :
    Calls Try.prog 46 #[.pointer (some ⟨t, 0, none⟩), .int .i64 1] W (TkRet w0 t vv k r.length) := by
  obtain ⟨b, o, c, rfl, hb, hl, c9, hp⟩ := T.pts
  have q := hp 0 p rfl
  have t0 := T.t0
  refine (take_move_at W t (t + 1) b o r.length c vv sv pt.1 pt.2 p.1 p.2 L L.length rfl (by have := G.len; omega) r9 T.blk (by simpa using hl) c9 (by omega) (by omega) T.size
    ((T.below.cell (p := ⟨b, o, none⟩) hb).trans (by simpa using q.1)) ((T.below.cell (p := ⟨b, o + 1, none⟩) hb).trans (by simpa using q.2)) T.subs _ rfl).mono ?_
  rintro e w' ⟨rfl, sv', h1, h2, h3⟩
  exact ⟨rfl, _, sv', r, p, _, T.next h1 (Pl.drop (ps := [p]) hb hl c9 hp 1 2 rfl rfl) h2 h3, G.move _, by simp, rfl⟩


theorem take_c2 {w0 W : World} {t k : Nat} {vv pl sv : Value} {p0 : Int × Int} {r : List (Int × Int)} {pt : Int × Int} {l : List (SubP × Value)} {s : SubP} {v : Value} (T : TkAt w0 t vv pl sv (p0 :: r) pt (l ++ [(s, v)]) W) (G : GoodS k pt (p0 :: r) (l ++ [(s, v)])) (k9 : k ≤ 600) (r9 : r.length ≤ 1000000) :
    Calls Try.prog 46 #[.pointer (some ⟨t, 0, none⟩), .int .i64 2] W (TkRet w0 t vv k r.length) := by
  obtain ⟨b, o, c, rfl, hb, hl, c9, hp⟩ := T.pts
  have q0 := hp 0 p0 rfl
  have t0 := T.t0
  obtain ⟨gg, cgg, rfl, _⟩ := T.subs.lastAt
  have gs : GoodSub k s := G.each (s, v) (by simp)
  have gl := G.len
  rw [List.length_append] at gl
  refine (take_seg1 W t (t + 1) b o r.length c vv v gg cgg pt.1 pt.2 p0.1 p0.2 l s l.length s.segs.length rfl rfl (by omega) (by have := gs.2.1; omega) r9 T.blk (by simpa using hl) c9 (by omega) (by omega) T.size
    ((T.below.cell (p := ⟨b, o, none⟩) hb).trans (by simpa using q0.1)) ((T.below.cell (p := ⟨b, o + 1, none⟩) hb).trans (by simpa [Nat.add_assoc] using q0.2)) T.subs _ rfl).mono ?_
  rintro e w' ⟨rfl, v', h1, h2, h3⟩
  exact ⟨rfl, _, _, r, p0, _, T.next h1 (Pl.drop (ps := [p0]) hb hl c9 hp 1 2 rfl rfl) h2 h3, G.last (G.rest p0 (by simp)) (fun q hq => G.rest q (by simp [hq])) (gs.more (good_sg2 G.pt (G.rest p0 (by simp))) s.cl), by simp, rfl⟩


theorem take_c3 {w0 W : World} {t k : Nat} {vv pl sv : Value} {p0 p1 : Int × Int} {r : List (Int × Int)} {pt : Int × Int} {l : List (SubP × Value)} {s : SubP} {v : Value} (T : TkAt w0 t vv pl sv (p0 :: p1 :: r) pt (l ++ [(s, v)]) W) (G : GoodS k pt (p0 :: p1 :: r) (l ++ [(s, v)])) (k9 : k ≤ 600) (r9 : r.length ≤ 1000000) :
    Calls Try.prog 46 #[.pointer (some ⟨t, 0, none⟩), .int .i64 3] W (TkRet w0 t vv k r.length) := by
  obtain ⟨b, o, c, rfl, hb, hl, c9, hp⟩ := T.pts
  have q0 := hp 0 p0 rfl
  have q1 := hp 1 p1 rfl
  have t0 := T.t0
  obtain ⟨gg, cgg, rfl, _⟩ := T.subs.lastAt
  have gs : GoodSub k s := G.each (s, v) (by simp)
  have gl := G.len
  rw [List.length_append] at gl
  refine (take_seg2 W t (t + 1) b o r.length c vv v gg cgg pt.1 pt.2 p0.1 p0.2 p1.1 p1.2 l s l.length s.segs.length rfl rfl (by omega) (by have := gs.2.1; omega) r9 T.blk (by simpa using hl) c9 (by omega) (by omega) T.size
    ((T.below.cell (p := ⟨b, o, none⟩) hb).trans (by simpa using q0.1)) ((T.below.cell (p := ⟨b, o + 1, none⟩) hb).trans (by simpa [Nat.add_assoc] using q0.2)) ((T.below.cell (p := ⟨b, o + 2, none⟩) hb).trans (by simpa using q1.1)) ((T.below.cell (p := ⟨b, o + 3, none⟩) hb).trans (by simpa [Nat.add_assoc] using q1.2)) T.subs _ rfl).mono ?_
  rintro e w' ⟨rfl, v', h1, h2, h3⟩
  exact ⟨rfl, _, _, r, p1, _, T.next h1 (Pl.drop (ps := [p0, p1]) hb hl c9 hp 2 4 rfl rfl) h2 h3, G.last (G.rest p1 (by simp)) (fun q hq => G.rest q (by simp [hq])) (gs.more (good_sg3 G.pt (G.rest p0 (by simp)) (G.rest p1 (by simp))) s.cl), by simp, rfl⟩


theorem take_c4 {w0 W : World} {t k : Nat} {vv pl sv : Value} {p0 p1 p2 : Int × Int} {r : List (Int × Int)} {pt : Int × Int} {l : List (SubP × Value)} {s : SubP} {v : Value} (T : TkAt w0 t vv pl sv (p0 :: p1 :: p2 :: r) pt (l ++ [(s, v)]) W) (G : GoodS k pt (p0 :: p1 :: p2 :: r) (l ++ [(s, v)])) (k9 : k ≤ 600) (r9 : r.length ≤ 1000000) :
    Calls Try.prog 46 #[.pointer (some ⟨t, 0, none⟩), .int .i64 4] W (TkRet w0 t vv k r.length) := by
  obtain ⟨b, o, c, rfl, hb, hl, c9, hp⟩ := T.pts
  have q0 := hp 0 p0 rfl
  have q1 := hp 1 p1 rfl
  have q2 := hp 2 p2 rfl
  have t0 := T.t0
  obtain ⟨gg, cgg, rfl, _⟩ := T.subs.lastAt
  have gs : GoodSub k s := G.each (s, v) (by simp)
  have gl := G.len
  rw [List.length_append] at gl
  refine (take_seg3 W t (t + 1) b o r.length c vv v gg cgg pt.1 pt.2 p0.1 p0.2 p1.1 p1.2 p2.1 p2.2 l s l.length s.segs.length rfl rfl (by omega) (by have := gs.2.1; omega) r9 T.blk (by simpa using hl) c9 (by omega) (by omega) T.size
    ((T.below.cell (p := ⟨b, o, none⟩) hb).trans (by simpa using q0.1)) ((T.below.cell (p := ⟨b, o + 1, none⟩) hb).trans (by simpa [Nat.add_assoc] using q0.2)) ((T.below.cell (p := ⟨b, o + 2, none⟩) hb).trans (by simpa using q1.1)) ((T.below.cell (p := ⟨b, o + 3, none⟩) hb).trans (by simpa [Nat.add_assoc] using q1.2)) ((T.below.cell (p := ⟨b, o + 4, none⟩) hb).trans (by simpa using q2.1)) ((T.below.cell (p := ⟨b, o + 5, none⟩) hb).trans (by simpa [Nat.add_assoc] using q2.2)) T.subs _ rfl).mono ?_
  rintro e w' ⟨rfl, v', h1, h2, h3⟩
  exact ⟨rfl, _, _, r, p2, _, T.next h1 (Pl.drop (ps := [p0, p1, p2]) hb hl c9 hp 3 6 rfl rfl) h2 h3, G.last (G.rest p2 (by simp)) (fun q hq => G.rest q (by simp [hq])) (gs.more (good_sg4 G.pt (G.rest p0 (by simp)) (G.rest p1 (by simp)) (G.rest p2 (by simp))) s.cl), by simp, rfl⟩


theorem take_c5 {w0 W : World} {t k : Nat} {vv pl sv : Value} {r : List (Int × Int)} {pt : Int × Int} {l : List (SubP × Value)} {s : SubP} {v : Value} (T : TkAt w0 t vv pl sv r pt (l ++ [(s, v)]) W) (G : GoodS k pt r (l ++ [(s, v)])) (k9 : k ≤ 600) (r9 : r.length ≤ 1000000) :
    Calls Try.prog 46 #[.pointer (some ⟨t, 0, none⟩), .int .i64 5] W (TkRet w0 t vv k r.length) := by
  have hpl := T.pts
  obtain ⟨b, o, c, rfl, hb, hl, c9, hp⟩ := T.pts
  have t0 := T.t0
  obtain ⟨gg, cgg, rfl, _⟩ := T.subs.lastAt
  have gs : GoodSub k s := G.each (s, v) (by simp)
  have gl := G.len
  rw [List.length_append] at gl
  have hd : ∀ (e : Ending) (w' : World), (e = .returned (.tuple #[]) ∧ (∃ v', Blk w' t 93 #[vv, .slice (some ⟨b, o, none⟩) r.length c, .slice (some ⟨gg, 0, none⟩) (l.length + 1) cgg, .int .i64 pt.1, .int .i64 pt.2] ∧ Subs w' (t + 1) (.slice (some ⟨gg, 0, none⟩) (l.length + 1) cgg) (l ++ [(⟨s.st, s.segs ++ [sg2 pt.1 pt.2 s.st.1 s.st.2], true⟩, v')]) ∧ Below t W w')) → TkRet w0 t vv k r.length e w' := by
    rintro e w' ⟨rfl, v', h1, h2, h3⟩
    exact ⟨rfl, _, _, r, pt, _, T.next h1 hpl h2 h3, G.last G.pt G.rest (gs.more (good_sg2 G.pt gs.1) true), by simp, rfl⟩
  by_cases h0 : pt.1 = s.st.1
  · by_cases h1 : pt.2 = s.st.2
    · refine (take_close_same W t (t + 1) b o r.length c vv v gg cgg pt.1 pt.2 s.st.1 s.st.2 l s l.length s.segs.length rfl rfl (by omega) (by have := gs.2.1; omega) r9 T.blk hl c9 (by omega) (by omega) T.size T.subs rfl h0 h1).mono ?_
      rintro e w' ⟨rfl, h1, h2, h3⟩
      exact ⟨rfl, _, _, r, pt, _, T.next h1 hpl h2 h3, G.last G.pt G.rest ⟨gs.1, Nat.le_succ_of_le gs.2.1, gs.2.2⟩, by simp, rfl⟩
    · exact (take_close_d2 W t (t + 1) b o r.length c vv v gg cgg pt.1 pt.2 s.st.1 s.st.2 l s l.length s.segs.length rfl rfl (by omega) (by have := gs.2.1; omega) r9 T.blk hl c9 (by omega) (by omega) T.size T.subs rfl h0 (by simp [h1])).mono hd
  · exact (take_close_d1 W t (t + 1) b o r.length c vv v gg cgg pt.1 pt.2 s.st.1 s.st.2 l s l.length s.segs.length rfl rfl (by omega) (by have := gs.2.1; omega) r9 T.blk hl c9 (by omega) (by omega) T.size T.subs rfl (by simp [h0])).mono hd
theorem take_c {w0 W : World} {t k : Nat} {vv pl sv : Value} {rest : List (Int × Int)} {pt : Int × Int} {L : List (SubP × Value)} (v : Int) (T : TkAt w0 t vv pl sv rest pt L W) (G : GoodS k pt rest L) (k9 : k ≤ 600) (r9 : rest.length ≤ 1000000)
    (hv : 0 ≤ tkV v) (hr : (tkV v).toNat ≤ rest.length) (hL : v = 1 ∨ L ≠ []) :
    Calls Try.prog 46 #[.pointer (some ⟨t, 0, none⟩), .int .i64 v] W (TkRet w0 t vv k (rest.length - (tkV v).toNat)) := by
  have hv' : v = 1 ∨ v = 2 ∨ v = 3 ∨ v = 4 ∨ v = 5 := by
    unfold tkV at hv
    by_cases h1 : v = 1
    · exact .inl h1
    by_cases h2 : v = 2
    · exact .inr (.inl h2)
    by_cases h3 : v = 3
    · exact .inr (.inr (.inl h3))
    by_cases h4 : v = 4
    · exact .inr (.inr (.inr (.inl h4)))
    by_cases h5 : v = 5
    · exact .inr (.inr (.inr (.inr h5)))
    rw [if_neg h1, if_neg h2, if_neg h3, if_neg h4, if_neg h5] at hv
    omega
  by_cases h1 : v = 1
  · subst h1
    have e : (tkV 1).toNat = 1 := rfl
    rw [e] at hr ⊢
    match rest, T, G, hr, r9 with
    | p :: r, T, G, hr, r9 =>
      rw [show (p :: r).length - 1 = r.length by simp]
      exact take_c1 T G k9 (by simp at r9; omega)
  · have hL' : L ≠ [] := hL.resolve_left h1
    obtain ⟨l, ⟨s, u⟩, rfl⟩ : ∃ l p, L = l ++ [p] := ⟨L.dropLast, L.getLast hL', (List.dropLast_concat_getLast hL').symm⟩
    rcases hv' with rfl | rfl | rfl | rfl | rfl
    · exact absurd rfl h1
    · rw [show (tkV 2).toNat = 1 from rfl] at hr ⊢
      match rest, T, G, hr, r9 with
      | p :: r, T, G, hr, r9 =>
        rw [show (p :: r).length - 1 = r.length by simp]
        exact take_c2 T G k9 (by simp at r9; omega)
    · rw [show (tkV 3).toNat = 2 from rfl] at hr ⊢
      match rest, T, G, hr, r9 with
      | p :: q :: r, T, G, hr, r9 =>
        rw [show (p :: q :: r).length - 2 = r.length by simp]
        exact take_c3 T G k9 (by simp at r9; omega)
    · rw [show (tkV 4).toNat = 3 from rfl] at hr ⊢
      match rest, T, G, hr, r9 with
      | p :: q :: p2 :: r, T, G, hr, r9 =>
        rw [show (p :: q :: p2 :: r).length - 3 = r.length by simp]
        exact take_c4 T G k9 (by simp at r9; omega)
    · rw [show (tkV 5).toNat = 0 from rfl] at hr ⊢
      rw [Nat.sub_zero]
      exact take_c5 T G k9 r9
end Go.Proofs.Ytcdnekhpeghkiaa
