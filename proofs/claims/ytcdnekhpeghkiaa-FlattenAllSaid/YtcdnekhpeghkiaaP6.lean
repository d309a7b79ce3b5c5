/-
  The reference's halves of a segment.
-/
import Derived.Test.YtcdnekhpeghkiaaP5
import Derived.Test.YtcdnekhpeghkiaaOne
import Derived.Maps.AppendAt
namespace Go.Proofs.Ytcdnekhpeghkiaa
set_option linter.unusedVariables false
open Go.RowKit

section
variable {P : Program}
theorem wpList_append_at (w : World) {ops : Array Oper} {rest : List Oper} {o : Oper} {a : Act} {Q : Exit → Act → World → Prop} (hgd : o.guard = none) (s x : Operand) (t : TypeId)
    (ho : o.op = .call { callee := .builtin .append, args := #[s, x], argTypes := #[t, t] })
    (base : Nat) (e : TypeId) (i : TypeInfo) (z : Value) (size bytes : Nat) (ht : P.underlying t = some (.slice e)) (hi : P.info? e = some i) (hz : i.zero = some z)
    (hsize : i.size = size) (hby : i.bytes = bytes) (hzs : z.cells.size = size) (hsz : 0 < size)
    (v : Value) (n : Nat) (xs : List Value) (hs : a.eval s = v) (hown : w.ownsRow base e size v n xs)
    (ad : Addr) (m c : Nat) (news : List Value) (hx : a.eval x = .slice (some ad) m c) (hl : news.length = m * size) (hnews : ∀ j u, news[j]? = some u → w.cell? (ad.add j) = some u) (h1 : ∀ u ∈ news, u.oneCell' = true)
    (h63 : n + m ≤ maxLen) (hbytes : (n + m) * bytes ≤ 140737488355328) (hbase : base ≤ w.heap.size)
    (h : ∀ v' w', w'.ownsRow base e size v' (n + m) (xs ++ news) → w.grownBy w' v.ownBlock → (v'.ownBlock = v.ownBlock ∨ v'.ownBlock = some w.heap.size) → wpList P ops Q rest (a.put o.dst v') w') : wpList P ops Q (o :: rest) a w :=
  wpList_plain hgd fun K hK => by
    obtain ⟨v', w', hr, h2, h3, _, h5⟩ := run_append_own_at (P := P) w base t o.type e i z size bytes ht hi hz hsize hby hzs hsz v n xs hown ad m c news hl hnews h1 h63 hbytes hbase
    unfold Oper.wp execOp
    simp only [ho, resolve, invoke, builtin, Sem.run_bind, Sem.run_pure, Result.andThen_ok, List.map_toArray, List.map_cons, List.map_nil, hs, hx, hr]
    exact hK _ _ (h v' w' h2 h3 h5)
theorem wpListIn_append_at {F : Fence} {k : Nat} (w : World) {ops : Array Oper} {rest : List Oper} {o : Oper} {a : Act} {Q : Exit → Act → World → Prop} (hgd : o.guard = none) (s x : Operand) (t : TypeId)
    (ho : o.op = .call { callee := .builtin .append, args := #[s, x], argTypes := #[t, t] })
    (base : Nat) (e : TypeId) (i : TypeInfo) (z : Value) (size bytes : Nat) (ht : P.underlying t = some (.slice e)) (hi : P.info? e = some i) (hz : i.zero = some z)
    (hsize : i.size = size) (hby : i.bytes = bytes) (hzs : z.cells.size = size) (hsz : 0 < size)
    (v : Value) (n : Nat) (xs : List Value) (hs : a.eval s = v) (hown : w.ownsRow base e size v n xs)
    (ad : Addr) (m c : Nat) (news : List Value) (hx : a.eval x = .slice (some ad) m c) (hl : news.length = m * size) (hnews : ∀ j u, news[j]? = some u → w.cell? (ad.add j) = some u) (h1 : ∀ u ∈ news, u.oneCell' = true)
    (h63 : n + m ≤ maxLen) (hbytes : (n + m) * bytes ≤ 140737488355328) (hbase : base ≤ w.heap.size)
    (h : ∀ v' w', w'.ownsRow base e size v' (n + m) (xs ++ news) → w.grownBy w' v.ownBlock → (v'.ownBlock = v.ownBlock ∨ v'.ownBlock = some w.heap.size) → wpListIn F k P ops Q rest (a.put o.dst v') w') : wpListIn F k P ops Q (o :: rest) a w :=
  wpListIn_plain hgd fun K hK => by
    obtain ⟨v', w', hr, h2, h3, _, h5⟩ := run_append_own_at (P := P) w base t o.type e i z size bytes ht hi hz hsize hby hzs hsz v n xs hown ad m c news hl hnews h1 h63 hbytes hbase
    unfold Oper.wpIn
    refine ⟨?_, ?_⟩
    · simp [Oper.about, ho, resolve, Target.leads, Sem.run_pure]
    · rw [Oper.semAt_plain F _ _ (by rw [ho]; intro c hc'; cases hc')]
      simp [execOp, ho, resolve, invoke, builtin, hs, hx, hr, Result.andThen]
      exact hK _ _ (h v' w' h2 h3 h5)
end
/-- the first points of the rows, and the last ones, turned -/
def fA (s : En) (k : Nat) : List (Int × Int) := (List.range k).map fun i => (mdn i (cx s 0) 0, mdn i (cx s 1) 0)
def fB (s : En) : Nat → List (Int × Int)
  | 0 => []
  | k + 1 => (mdn k (cx s 0) (nn s - 1 - k), mdn k (cx s 1) (nn s - 1 - k)) :: fB s k
theorem fA_len (s : En) (k : Nat) : (fA s k).length = k := by simp [fA]
theorem fB_len (s : En) : ∀ k, (fB s k).length = k
  | 0 => rfl
  | k + 1 => by unfold fB; rw [List.length_cons, fB_len s k]
theorem fA_succ (s : En) (k : Nat) : fA s (k + 1) = fA s k ++ [(mdn k (cx s 0) 0, mdn k (cx s 1) 0)] := by
  unfold fA
  rw [List.range_succ, List.map_append]
  rfl
theorem rowL_len (s : En) (k : Nat) : (rowL s k).length = nn s - k := by simp [rowL]
theorem rowL_at (s : En) (k i : Nat) (h : i < nn s - k) : (rowL s k)[i]? = some (mdn k (cx s 0) i, mdn k (cx s 1) i) := by
  unfold rowL
  rw [List.getElem?_map, List.getElem?_range h]
  rfl
theorem rowL_take (s : En) (k i : Nat) (h : i < nn s - k) : (rowL s k).take (i + 1) = (rowL s k).take i ++ [(mdn k (cx s 0) i, mdn k (cx s 1) i)] := by
  rw [List.take_add_one, rowL_at s k i h]
  rfl
theorem own_ptsIn0 {W : World} {base g n cap : Nat} {l : List (Int × Int)} (h : W.ownsRow base 23 2 (.slice (some ⟨g, 0, none⟩) n cap) n (fl l)) (i : Nat) (p : Int × Int) (hp : l[i]? = some p) :
    W.cell? ⟨g, i * 2, none⟩ = some (.int .i64 p.1) ∧ W.cell? ⟨g, i * 2 + 1, none⟩ = some (.int .i64 p.2) := (PtsIn.own h).2 i p hp
theorem rpoints_E (s : En) (g : GoodE s) (w : World) : Calls Try.prog 76 #[.agg #[.int .i64 (s 0), .int .i64 (s 1), .int .i64 (s 2), .int .i64 (s 3), .int .i64 (s 4), .int .i64 (s 5), .int .i64 (s 6), .int .i64 (s 7), .int .i64 (s 8)]] w (SliceRet w 23 2 (nn s) (fl (rowL s 0))) := by
  rcases nn_of g with ⟨h, h8⟩ | ⟨h, h8⟩ | ⟨h, h8⟩
  · have c := rpoints_2 s h8 w
    simpa [rowL, h, mdn, cx, List.range_succ] using c
  · have c := rpoints_3 s h8 w
    simpa [rowL, h, mdn, cx, List.range_succ] using c
  · have c := rpoints_4 s h8 w
    simpa [rowL, h, mdn, cx, List.range_succ] using c
theorem ne_of_new {v u : Value} {H : Nat} {W : World} {base size n : Nat} {e : TypeId} {xs : List Value} (h : v.ownBlock = u.ownBlock ∨ v.ownBlock = some H) {t : Value} (ht : W.ownsRow base e size t n xs) (hW : W.heap.size ≤ H) (hne : t.ownBlock ≠ u.ownBlock) : t.ownBlock ≠ v.ownBlock := by
  rcases h with h | h
  · rw [h]; exact hne
  · rw [h]
    intro k
    have := (ht.lt H k).2
    omega
def slen : Value → Nat
  | .slice _ n _ => n
  | _ => 0
/-- three rows of the text's own, that lie apart, k rows on -/
structure H3 (w : World) (s : En) (N k : Nat) (vl va vb : Value) (W : World) : Prop where
  l : W.ownsRow (w.heap.size + 3) 23 2 vl (N - k) (fl (rowL s k))
  a : W.ownsRow (w.heap.size + 3) 23 2 va k (fl (fA s k))
  b : W.ownsRow (w.heap.size + 3) 23 2 vb k (fl (fB s k))
  la : vl.ownBlock ≠ va.ownBlock
  lb : vl.ownBlock ≠ vb.ownBlock
  ab : va.ownBlock ≠ vb.ownBlock
  sl : ∃ g c, vl = .slice (some ⟨g, 0, none⟩) (N - k) c
  sa : ∃ g c, va = .slice (some ⟨g, 0, none⟩) k c
  sb : ∃ g c, vb = .slice (some ⟨g, 0, none⟩) k c
  b1 : Blk W (w.heap.size + 1) 33 #[.int .i64 0, .int .i64 0, .int .i64 0, .int .i64 0, .int .i64 0, .int .i64 0, .int .i64 0, .int .i64 0, .int .i64 0]
  b2 : Blk W (w.heap.size + 2) 33 #[.int .i64 0, .int .i64 0, .int .i64 0, .int .i64 0, .int .i64 0, .int .i64 0, .int .i64 0, .int .i64 0, .int .i64 0]
  below : Below w.heap.size w W
/-- in the inner loop: the row that comes, i points on -/
structure M3 (w : World) (s : En) (k R i : Nat) (vl va vb vm : Value) (W : World) : Prop where
  l : W.ownsRow (w.heap.size + 3) 23 2 vl R (fl (rowL s k))
  a : W.ownsRow (w.heap.size + 3) 23 2 va (k + 1) (fl (fA s (k + 1)))
  b : W.ownsRow (w.heap.size + 3) 23 2 vb (k + 1) (fl (fB s (k + 1)))
  m : W.ownsRow (w.heap.size + 3) 23 2 vm i (fl ((rowL s (k + 1)).take i))
  ab : va.ownBlock ≠ vb.ownBlock
  lm : vl.ownBlock ≠ vm.ownBlock
  am : va.ownBlock ≠ vm.ownBlock
  bm : vb.ownBlock ≠ vm.ownBlock
  sm : ∃ g c, vm = .slice (some ⟨g, 0, none⟩) i c
  b1 : Blk W (w.heap.size + 1) 33 #[.int .i64 0, .int .i64 0, .int .i64 0, .int .i64 0, .int .i64 0, .int .i64 0, .int .i64 0, .int .i64 0, .int .i64 0]
  b2 : Blk W (w.heap.size + 2) 33 #[.int .i64 0, .int .i64 0, .int .i64 0, .int .i64 0, .int .i64 0, .int .i64 0, .int .i64 0, .int .i64 0, .int .i64 0]
  below : Below w.heap.size w W
theorem segA_E (s : En) (g : GoodE s) (ga cap : Nat) (w : World) (hp : PtsIn w ga (fA s (nn s))) : Calls Try.prog 78 #[.slice (some ⟨ga, 0, none⟩) (nn s) cap] w fun e w' => e = .returned (.agg #[.int .i64 (hlfA s 0), .int .i64 (hlfA s 1), .int .i64 (hlfA s 2), .int .i64 (hlfA s 3), .int .i64 (hlfA s 4), .int .i64 (hlfA s 5), .int .i64 (hlfA s 6), .int .i64 (hlfA s 7), .int .i64 (hlfA s 8)]) ∧ ∃ x : Later w, w' = x.out := by
  rcases nn_of g with ⟨h, h8⟩ | ⟨h, h8⟩ | ⟨h, h8⟩
  · rw [h] at hp ⊢
    have c := rseg_2 (mdn 0 (cx s 0) 0) (mdn 0 (cx s 1) 0) (mdn 1 (cx s 0) 0) (mdn 1 (cx s 1) 0) ga cap w hp
    simpa [hlfA, h, h8] using c
  · rw [h] at hp ⊢
    have c := rseg_3 (mdn 0 (cx s 0) 0) (mdn 0 (cx s 1) 0) (mdn 1 (cx s 0) 0) (mdn 1 (cx s 1) 0) (mdn 2 (cx s 0) 0) (mdn 2 (cx s 1) 0) ga cap w hp
    simpa [hlfA, h, h8] using c
  · rw [h] at hp ⊢
    have c := rseg_4 (mdn 0 (cx s 0) 0) (mdn 0 (cx s 1) 0) (mdn 1 (cx s 0) 0) (mdn 1 (cx s 1) 0) (mdn 2 (cx s 0) 0) (mdn 2 (cx s 1) 0) (mdn 3 (cx s 0) 0) (mdn 3 (cx s 1) 0) ga cap w hp
    simpa [hlfA, h, h8] using c
theorem segB_E (s : En) (g : GoodE s) (ga cap : Nat) (w : World) (hp : PtsIn w ga (fB s (nn s))) : Calls Try.prog 78 #[.slice (some ⟨ga, 0, none⟩) (nn s) cap] w fun e w' => e = .returned (.agg #[.int .i64 (hlfB s 0), .int .i64 (hlfB s 1), .int .i64 (hlfB s 2), .int .i64 (hlfB s 3), .int .i64 (hlfB s 4), .int .i64 (hlfB s 5), .int .i64 (hlfB s 6), .int .i64 (hlfB s 7), .int .i64 (hlfB s 8)]) ∧ ∃ x : Later w, w' = x.out := by
  rcases nn_of g with ⟨h, h8⟩ | ⟨h, h8⟩ | ⟨h, h8⟩
  · rw [h] at hp ⊢
    have c := rseg_2 (mdn 1 (cx s 0) 0) (mdn 1 (cx s 1) 0) (mdn 0 (cx s 0) 1) (mdn 0 (cx s 1) 1) ga cap w (by simpa [fB, h] using hp)
    simpa [hlfB, h, h8] using c
  · rw [h] at hp ⊢
    have c := rseg_3 (mdn 2 (cx s 0) 0) (mdn 2 (cx s 1) 0) (mdn 1 (cx s 0) 1) (mdn 1 (cx s 1) 1) (mdn 0 (cx s 0) 2) (mdn 0 (cx s 1) 2) ga cap w (by simpa [fB, h] using hp)
    simpa [hlfB, h, h8] using c
  · rw [h] at hp ⊢
    have c := rseg_4 (mdn 3 (cx s 0) 0) (mdn 3 (cx s 1) 0) (mdn 2 (cx s 0) 1) (mdn 2 (cx s 1) 1) (mdn 1 (cx s 0) 2) (mdn 1 (cx s 1) 2) (mdn 0 (cx s 0) 3) (mdn 0 (cx s 1) 3) ga cap w (by simpa [fB, h] using hp)
    simpa [hlfB, h, h8] using c
theorem two_at6 {W : World} {g : Nat} {T : TypeId} {u v : Value} (h : Blk W g T #[u, v]) : ∀ j x, ([u, v] : List Value)[j]? = some x → W.cell? ((⟨g, 0, none⟩ : Addr).add j) = some x := by
  intro j x hx
  rw [Addr.add_mid, Nat.zero_add, h.cell]
  simpa using hx
theorem fl_app6 (a b : List (Int × Int)) : fl (a ++ b) = fl a ++ fl b := by unfold fl; rw [List.flatMap_append]
theorem Blk.far {W W' : World} {b N : Nat} {T : TypeId} {c : Array Value} {row : Option Nat} (h : Blk W b T c) (hg : W.grownBy W' row) (hr : ∀ r, row = some r → N ≤ r) (hb : b < N) : Blk W' b T c := h.grown hg hr hb


set_option maxRecDepth 100000 in
set_option maxHeartbeats 4000000 in
theorem rhalves_E (s : En) (g : GoodE s) (w : World) : Calls Try.prog 54 #[.agg #[.int .i64 (s 0), .int .i64 (s 1), .int .i64 (s 2), .int .i64 (s 3), .int .i64 (s 4), .int .i64 (s 5), .int .i64 (s 6), .int .i64 (s 7), .int .i64 (s 8)]] w fun e w' => e = .returned (.tuple #[.agg #[.int .i64 ((hlfA s) 0), .int .i64 ((hlfA s) 1), .int .i64 ((hlfA s) 2), .int .i64 ((hlfA s) 3), .int .i64 ((hlfA s) 4), .int .i64 ((hlfA s) 5), .int .i64 ((hlfA s) 6), .int .i64 ((hlfA s) 7), .int .i64 ((hlfA s) 8)], .agg #[.int .i64 ((hlfB s) 0), .int .i64 ((hlfB s) 1), .int .i64 ((hlfB s) 2), .int .i64 ((hlfB s) 3), .int .i64 ((hlfB s) 4), .int .i64 ((hlfB s) 5), .int .i64 ((hlfB s) 6), .int .i64 ((hlfB s) 7), .int .i64 ((hlfB s) 8)]]) ∧ ∃ x : Later w, w' = x.out := by
  have hpts := fun v => rpoints_E s g v
  have hsA := fun ga cap W hp => segA_E s g ga cap W hp
  have hsB := fun ga cap W hp => segB_E s g ga cap W hp
  obtain ⟨i0, hi0, hz0, hz1, hz2⟩ := infoPt
  obtain ⟨N, hN⟩ : ∃ N, nn s = N := ⟨_, rfl⟩
  have N2 : 2 ≤ N ∧ N ≤ 4 := by rcases nn_of g with ⟨h, _⟩ | ⟨h, _⟩ | ⟨h, _⟩ <;> omega
  rw [hN] at hpts hsA hsB
  have HPTS := Lib.hid hpts
  have HSA := Lib.hid hsA
  have HSB := Lib.hid hsB
  have HN := Lib.hid hN
  have G := Lib.hid g
  clear hpts hsA hsB hN g
  go_enter Try.func54, Try.ntmps54
  go_upto_region 4 with (go_at_call 76; (with_reducible refine (HPTS.out _).mono ?_); intro _ _ hsr; obtain ⟨o, rfl, own, x, rfl⟩ := hsr; obtain ⟨gl, cl, rfl⟩ := Go.Joins.ownsRow_form own (by omega); have HOL := Lib.hid own; clear own)
  have xs := x.size_le
  simp only [World.size_alloc] at xs
  have hgl := HOL.out.lt gl rfl
  simp only [World.size_alloc] at hgl
  have hI0 : H3 w s N 0 (.slice (some ⟨gl, 0, none⟩) N cl) (.slice (some ⟨x.out.heap.size, 0, none⟩) 0 0) (.slice (some ⟨x.out.heap.size + 1, 0, none⟩) 0 0) ((x.out.alloc (.cells #[] 23)).alloc (.cells #[] 23)) :=
    ⟨own_base ((HOL.out.alloc _).alloc _) (by simp), (own_empty x.out _ _ rfl (by omega)).alloc _, own_empty _ _ _ (by simp) (by simp; omega), by simp only [Value.ownBlock, ne_eq, Option.some.injEq]; omega, by simp only [Value.ownBlock, ne_eq, Option.some.injEq]; omega, by simp only [Value.ownBlock, ne_eq, Option.some.injEq]; omega, ⟨_, _, rfl⟩, ⟨_, _, rfl⟩, ⟨_, _, rfl⟩, (by repeat (first | (with_reducible assumption) | (with_reducible refine Blk.later ?_ _) | (with_reducible refine Blk.drew ?_) | ((with_reducible refine Blk.new' ?_); (simp; done)) | (with_reducible refine Blk.alloc ?_ _))), (by repeat (first | (with_reducible assumption) | (with_reducible refine Blk.later ?_ _) | (with_reducible refine Blk.drew ?_) | ((with_reducible refine Blk.new' ?_); (simp; done)) | (with_reducible refine Blk.alloc ?_ _))), (by repeat (first | (with_reducible assumption) | (with_reducible exact Below.refl _ _) | (with_reducible refine Later.after ?_ _) | (with_reducible refine Later.newer ?_ _) | (with_reducible refine Below.drew ?_) | (with_reducible refine Below.setCell ?_ (by first | exact Nat.le_refl _ | exact Nat.le_add_right _ _ | omega | (simp [go_sem]; done) | (simp [go_sem]; omega)) _)))⟩
  have HI0 := Lib.hid hI0
  clear hI0 xs hgl
  go_wp2_with (fail)
  go_loopw [4, 5, 6] (fun u v t wr => ∃ k : Nat, k ≤ N ∧ Hid (H3 w s N k u v t wr)) (fun u _ _ _ => slen u)
  case atStart => exact ⟨0, by omega, HI0⟩
  case round =>
    obtain ⟨k, hk, HI⟩ := hrel
    obtain ⟨gl, cl, rfl⟩ := HI.out.sl
    obtain ⟨ga, ca, rfl⟩ := HI.out.sa
    obtain ⟨gb, cb, rfl⟩ := HI.out.sb
    have sw : w.heap.size + 3 ≤ wr.heap.size := by have := HI.out.b2.lt; omega
    by_cases hlt : k < N
    · obtain ⟨m, hm⟩ : ∃ m, N - k = m + 1 := ⟨N - k - 1, by omega⟩
      obtain ⟨R, hR⟩ : ∃ R, N - k = R := ⟨_, rfl⟩
      have hl := HI.out.l
      rw [hR] at hl
      have fst := rowL_at s k 0 (by rw [HN.out]; omega)
      have lst := rowL_at s k m (by rw [HN.out]; omega)
      obtain ⟨p0, hp0⟩ : ∃ p, mdn k (cx s 0) 0 = p := ⟨_, rfl⟩
      obtain ⟨p1, hp1⟩ : ∃ p, mdn k (cx s 1) 0 = p := ⟨_, rfl⟩
      obtain ⟨q0, hq0⟩ : ∃ p, mdn k (cx s 0) m = p := ⟨_, rfl⟩
      obtain ⟨q1, hq1⟩ : ∃ p, mdn k (cx s 1) m = p := ⟨_, rfl⟩
      rw [hp0, hp1] at fst
      rw [hq0, hq1] at lst
      obtain ⟨t0, t1⟩ := own_ptsIn0 hl 0 _ fst
      simp only [Nat.zero_mul, Nat.zero_add] at t0 t1
      have lgl := (hl.lt gl rfl).2
      have HLR := Lib.hid hl
      have HLST := Lib.hid lst
      have HP := Lib.hid (And.intro hp0 hp1)
      have HQ := Lib.hid (And.intro hq0 hq1)
      have HRR := Lib.hid hR
      have R0 : 0 < R := by omega
      have hd : decide (0 < R) = true := by simp [R0]
      have hd2 : decide ((0 : Int) < R) = true := by simp; omega
      have dm : (R : Int) - 1 = (m : Int) := by omega
      have dm1 : IntKind.i64.wrap ((R : Int) - 1) = (m : Int) := by rw [IntWalk.i64_in _ (by omega)]; omega
      have dm2 : wrap64 ((R : Int) - 1) = (m : Int) := by unfold wrap64; omega
      have mR : m < R := by omega
      have m0 : (0 : Int) ≤ m := by omega
      have HMR := Lib.hid hm
      have R9 : R ≤ 4 := by omega
      clear hl fst lst hp0 hp1 hq0 hq1 hm
      go_upto_region 6 with (at_builtin; refine wpList_append_at _ rfl _ _ 30 rfl (w.heap.size + 3) 23 i0 (.agg #[.int .i64 0, .int .i64 0]) 2 16 Try.underlying30 hi0 hz0 hz1 hz2 rfl (by decide) (.slice (some ⟨ga, 0, none⟩) k ca) k (fl (fA s k)) rfl (HI.out.a.alloc _) ⟨wr.heap.size, 0, none⟩ 1 1 [.int .i64 p0, .int .i64 p1] rfl rfl (two_at6 (Blk.new wr _ _)) (fun x hx => fl_one [(p0, p1)] x (by simpa [fl] using hx)) (by unfold maxLen; omega) (by omega) (by simp only [World.size_alloc]; omega) ?_; intro va w1 hown hgrow hlies; obtain ⟨ga', ca', rfl⟩ := Go.Joins.ownsRow_form hown (by omega); have HA1 := Lib.hid hown; have HG1 := Lib.hid hgrow; have HL1 := Lib.hid hlies; clear hown hgrow hlies)
      have s1 := HG1.out.size
      simp only [World.size_alloc] at s1
      have nla : ∀ r, (Value.slice (some ⟨ga, 0, none⟩) k ca).ownBlock = some r → w.heap.size + 3 ≤ r := fun r hr => (HI.out.a.lt r hr).1
      have kl := (HLR.out.alloc (.cells #[.int .i64 p0, .int .i64 p1] 23)).kept HG1.out (.inr HI.out.la)
      have kb := (HI.out.b.alloc (.cells #[.int .i64 p0, .int .i64 p1] 23)).kept HG1.out (.inr (fun e => HI.out.ab e.symm))
      obtain ⟨t2, t3⟩ := own_ptsIn0 kl m _ HLST.out
      have tl := (kl.lt gl rfl).2
      have ngl := ne_of_new HL1.out (HLR.out.alloc (.cells #[.int .i64 p0, .int .i64 p1] 23)) (Nat.le_refl _) HI.out.la
      have ngb := ne_of_new HL1.out (HI.out.b.alloc (.cells #[.int .i64 p0, .int .i64 p1] 23)) (Nat.le_refl _) (fun e => HI.out.ab e.symm)
      have k1 := (HI.out.b1.alloc (.cells #[.int .i64 p0, .int .i64 p1] 23)).far (N := w.heap.size + 3) HG1.out nla (by omega)
      have k2 := (HI.out.b2.alloc (.cells #[.int .i64 p0, .int .i64 p1] 23)).far (N := w.heap.size + 3) HG1.out nla (by omega)
      have kB : Below w.heap.size w w1 := Below.grown (HI.out.below.alloc HI.out.below.size _) HG1.out (by simp only [World.size_alloc]; omega) (fun r hr => by have := nla r hr; omega)
      have lga := (HA1.out.lt ga' rfl).2
      have ho1 : (w1.alloc (.cells #[.int .i64 q0, .int .i64 q1] 23)).ownsRow (w.heap.size + 3) 23 2 (.slice (some ⟨w1.heap.size, 0, none⟩) 1 1) 1 [.int .i64 q0, .int .i64 q1] := World.ownsRow_lit w1 #[.int .i64 q0, .int .i64 q1] 1 (by omega) (by unfold maxLen; omega) rfl
      have KL := Lib.hid kl
      have KB := Lib.hid kb
      have HO1 := Lib.hid ho1
      have K1 := Lib.hid k1
      have K2 := Lib.hid k2
      have KBW := Lib.hid kB
      have sz1 : w.heap.size + 3 ≤ w1.heap.size := by omega
      clear t0 t1 kl kb ho1 k1 k2 kB nla
      go_wp2_with (at_builtin; refine wpList_append_at _ rfl _ _ 30 rfl (w.heap.size + 3) 23 i0 (.agg #[.int .i64 0, .int .i64 0]) 2 16 Try.underlying30 hi0 hz0 hz1 hz2 rfl (by decide) (.slice (some ⟨w1.heap.size, 0, none⟩) 1 1) 1 [.int .i64 q0, .int .i64 q1] rfl HO1.out ⟨gb, 0, none⟩ k cb (fl (fB s k)) rfl (by rw [fl_len, fB_len]) ((KB.out.alloc _).cells rfl) (fun x hx => fl_one _ x hx) (by unfold maxLen; omega) (by omega) (by simp only [World.size_alloc]; omega) ?_; intro vb w2 hown hgrow hlies; rw [Nat.add_comm 1 k] at hown; obtain ⟨gb', cb', rfl⟩ := Go.Joins.ownsRow_form hown (by omega); have HB2 := Lib.hid hown; have HG2 := Lib.hid hgrow; have HL2 := Lib.hid hlies; clear hown hgrow hlies)
      have s2 := HG2.out.size
      simp only [World.size_alloc] at s2
      have hne2 : ∀ g : Nat, g < w1.heap.size → g ≠ gb' := fun g hg e => by
        rcases HL2.out with h | h
        · simp only [Value.ownBlock, Option.some.injEq] at h; omega
        · simp only [Value.ownBlock, Option.some.injEq, World.size_alloc] at h; omega
      have nr2 : ∀ r, (Value.slice (some ⟨w1.heap.size, 0, none⟩) 1 1).ownBlock = some r → w.heap.size + 3 ≤ r := fun r hr => by cases hr; omega
      have kl := (KL.out.alloc (.cells #[.int .i64 q0, .int .i64 q1] 23)).kept HG2.out (.inr (by simp only [Value.ownBlock, ne_eq, Option.some.injEq]; omega))
      have ka := (HA1.out.alloc (.cells #[.int .i64 q0, .int .i64 q1] 23)).kept HG2.out (.inr (by simp only [Value.ownBlock, ne_eq, Option.some.injEq]; omega))
      have lgb := (HB2.out.lt gb' rfl).2
      have hM0 : M3 w s k R 0 (.slice (some ⟨gl, 0, none⟩) R cl) (.slice (some ⟨ga', 0, none⟩) (k + 1) ca') (.slice (some ⟨gb', 0, none⟩) (k + 1) cb') (.slice (some ⟨w2.heap.size, 0, none⟩) 0 0) (w2.alloc (.cells #[] 23)) :=
        ⟨kl.alloc _, by rw [fA_succ, HP.out.1, HP.out.2, fl_app6]; exact ka.alloc _, by
          have h := HB2.out
          have e : fB s (k + 1) = (q0, q1) :: fB s k := by
            show (mdn k (cx s 0) (nn s - 1 - k), mdn k (cx s 1) (nn s - 1 - k)) :: fB s k = _
            rw [HN.out, show N - 1 - k = m by have := HMR.out; omega, HQ.out.1, HQ.out.2]
          rw [e]
          exact h.alloc _, by simpa [fl] using own_empty w2 (w.heap.size + 3) w2.heap.size rfl (by omega), by simp only [Value.ownBlock, ne_eq, Option.some.injEq]; exact hne2 ga' lga,
          by simp only [Value.ownBlock, ne_eq, Option.some.injEq]; omega, by simp only [Value.ownBlock, ne_eq, Option.some.injEq]; omega, by simp only [Value.ownBlock, ne_eq, Option.some.injEq]; omega, ⟨_, _, rfl⟩,
          ((K1.out.alloc _).far (N := w.heap.size + 3) HG2.out nr2 (by omega)).alloc _, ((K2.out.alloc _).far (N := w.heap.size + 3) HG2.out nr2 (by omega)).alloc _,
          (Below.grown (KBW.out.alloc KBW.out.size _) HG2.out (by simp only [World.size_alloc]; omega) (fun r hr => by have := nr2 r hr; omega)).alloc (by omega) _⟩
      have HM0 := Lib.hid hM0
      have mR1 : m + 1 = R := by have := HMR.out; have := HRR.out; omega
      have HRm := Lib.hid mR1
      clear kl ka hM0 t2 t3 tl hne2 nr2 mR1
      go_loopw [7, 8] (fun u v wr => ∃ i : Nat, i + 1 ≤ R ∧ v = .int .i64 i ∧ Hid (M3 w s k R i (.slice (some ⟨gl, 0, none⟩) R cl) (.slice (some ⟨ga', 0, none⟩) (k + 1) ca') (.slice (some ⟨gb', 0, none⟩) (k + 1) cb') u wr)) (fun _ v _ => R - (intOf v).toNat)
      case atStart => exact ⟨0, by omega, rfl, HM0⟩
      case round =>
        obtain ⟨i, hi, rfl, hM⟩ := hrel
        obtain ⟨gm, cm, rfl⟩ := hM.out.sm
        obtain ⟨K, hK⟩ : ∃ K, K = i + 1 := ⟨_, rfl⟩
        have e1 : (i : Int) + 1 = (K : Int) := by omega
        have e2 : IntKind.i64.wrap ((i : Int) + 1) = (K : Int) := by rw [IntWalk.i64_in _ (by omega)]; omega
        have swr : w.heap.size + 3 ≤ wr.heap.size := by have := hM.out.b2.lt; omega
        by_cases hiR : K < R
        · have hdK : decide (K < R) = true := by simp [hiR]
          have hdK2 : decide ((K : Int) < R) = true := by simp; omega
          have l1 := rowL_at s k i (by rw [HN.out]; have := HRR.out; omega)
          have l2 := rowL_at s k K (by rw [HN.out]; have := HRR.out; omega)
          have ht := rowL_take s (k + 1) i (by rw [HN.out]; have := HRR.out; omega)
          have m4 : ∀ c, c < 2 → ∀ j, j < R → -268435456 ≤ mdn k (cx s c) j ∧ mdn k (cx s c) j ≤ 268435456 := fun c hc j hj => mdn_bd k R (cx s c) (fun q hq => cx_bd G.out c hc q (by have := HRR.out; omega)) j hj
          have mx := mdn_at k (cx s 0) i
          have my := mdn_at k (cx s 1) i
          rw [← hK] at mx my
          rw [mx, my] at ht
          have b0 := m4 0 (by omega) i (by omega)
          have b1 := m4 0 (by omega) K hiR
          have b2 := m4 1 (by omega) i (by omega)
          have b3 := m4 1 (by omega) K hiR
          generalize mdn k (cx s 0) i = x0 at *
          generalize mdn k (cx s 1) i = y0 at *
          generalize mdn k (cx s 0) K = x1 at *
          generalize mdn k (cx s 1) K = y1 at *
          have hmid := fun v => rmid_c x0 y0 x1 y1 v (by omega) (by omega) (by omega) (by omega) (by omega) (by omega) (by omega) (by omega)
          generalize (x0 + x1) / 2 = X at *
          generalize (y0 + y1) / 2 = Y at *
          obtain ⟨r0, r1⟩ := own_ptsIn0 hM.out.l i _ l1
          obtain ⟨r2, r3⟩ := own_ptsIn0 hM.out.l K _ l2
          simp only [] at r0 r1 r2 r3
          have lgl2 := (hM.out.l.lt gl rfl).2
          have iR : i < R := by omega
          have K0 : (0 : Int) ≤ K := by omega
          have HMID := Lib.hid hmid
          have HT := Lib.hid ht
          have HKK := Lib.hid hK
          clear l1 l2 ht m4 mx my b0 b1 b2 b3 hmid hK
          go_wp2_with (fail)
          refine wp_region_one [0, 1, 2, 3, 4, 5, 6, 7, 8, 9, 10] 11 [12, 13] (fun g => .slice (some ⟨g, 0, none⟩) 1 1) (.cells #[.int .i64 X, .int .i64 Y] 23) (by kernel_rfl) (by kernel_rfl) (by kernel_rfl) (by kernel_rfl) (by kernel_rfl) (noInit_of (by kernel_rfl)) (fun y => ?_)
          simp only [pick, List.getElem?_cons_zero, List.getElem?_cons_succ]
          repeat (go_big_quiet_step ((first | (go_at_call 77; with_reducible exact Later.call _ (HMID.out _)))))
          refine wpQuiet_nil ?_
          refine ⟨(by intro o ho; obtain rfl := Option.some.inj ho; refine ⟨rfl, fun wc => ?_⟩; simp [execOp, go_sem]; done), ?_⟩
          intro gq x hgq hx
          simp only [dstOf, List.getElem?_toArray, List.getElem?_cons_succ, List.getElem?_cons_zero, Option.bind_some, Act.put, List.setIfInBounds_toArray, List.set_cons_succ, List.set_cons_zero]
          have bgq : Blk x.out gq 23 #[.int .i64 X, .int .i64 Y] := hx
          have HGQ := Lib.hid bgq
          clear hx bgq r0 r1 r2 r3
          gi_wp2_with (gi_at_builtin; refine wpListIn_append_at _ rfl _ _ 30 rfl (w.heap.size + 3) 23 i0 (.agg #[.int .i64 0, .int .i64 0]) 2 16 Try.underlying30 hi0 hz0 hz1 hz2 rfl (by decide) (.slice (some ⟨gm, 0, none⟩) i cm) i (fl ((rowL s (k + 1)).take i)) rfl (own_later hM.out.m x) ⟨gq, 0, none⟩ 1 1 [.int .i64 X, .int .i64 Y] rfl rfl (two_at6 HGQ.out) (fun x hx => fl_one [(X, Y)] x (by simpa [fl] using hx)) (by unfold maxLen; omega) (by omega) (by have := x.size_le; omega) ?_; intro vm w4 hown hgrow hlies; obtain ⟨gm', cm', rfl⟩ := Go.Joins.ownsRow_form hown (by omega); have HM4 := Lib.hid hown; have HG4 := Lib.hid hgrow; have HL4 := Lib.hid hlies; clear hown hgrow hlies)
          go_wp2_with (fail)
          have s4 := HG4.out.size
          have sx := x.size_le
          have nm : ∀ r, (Value.slice (some ⟨gm, 0, none⟩) i cm).ownBlock = some r → w.heap.size + 3 ≤ r := fun r hr => (hM.out.m.lt r hr).1
          have hKK := HKK.out
          subst hKK
          go_roundw
          case rel => exact ⟨i + 1, by omega, by go_num, Lib.hid ⟨(own_later hM.out.l x).kept HG4.out (.inr hM.out.lm), (own_later hM.out.a x).kept HG4.out (.inr hM.out.am), (own_later hM.out.b x).kept HG4.out (.inr hM.out.bm), by rw [HT.out, fl_app6]; exact HM4.out, hM.out.ab, ne_of_new HL4.out (own_later hM.out.l x) (Nat.le_refl _) hM.out.lm, ne_of_new HL4.out (own_later hM.out.a x) (Nat.le_refl _) hM.out.am, ne_of_new HL4.out (own_later hM.out.b x) (Nat.le_refl _) hM.out.bm, ⟨_, _, rfl⟩, (hM.out.b1.later x).far (N := w.heap.size + 3) HG4.out nm (by omega), (hM.out.b2.later x).far (N := w.heap.size + 3) HG4.out nm (by omega), Below.grown (hM.out.below.trans (x.below.mono hM.out.below.size)) HG4.out (by omega) (fun r hr => by have := nm r hr; omega)⟩⟩
          case measure => simp [intOf]; omega
        · have hdK : decide (K < R) = false := by simp; omega
          have hdK2 : decide ((K : Int) < R) = false := by simp; omega
          have hiN : i = N - (k + 1) := by have := HRR.out; omega
          have htk : (rowL s (k + 1)).take i = rowL s (k + 1) := List.take_of_length_le (by rw [rowL_len, HN.out]; omega)
          have HTK := Lib.hid htk
          have HIN := Lib.hid hiN
          have HKK := Lib.hid hK
          clear htk hiN hK
          go_wp2_with (fail)
          go_roundw
          case rel => exact ⟨k + 1, by omega, Lib.hid ⟨by rw [← HIN.out, ← HTK.out]; exact hM.out.m, hM.out.a, hM.out.b, fun e => hM.out.am e.symm, fun e => hM.out.bm e.symm, hM.out.ab, ⟨_, _, by rw [← HIN.out]⟩, ⟨_, _, rfl⟩, ⟨_, _, rfl⟩, hM.out.b1, hM.out.b2, hM.out.below⟩⟩
          case measure => have := HIN.out; have := HRR.out; simp [slen]; omega
    · obtain rfl : k = N := by omega
      have e0 : k - k = 0 := by omega
      have pA := PtsIn.own HI.out.a
      have pB := PtsIn.own HI.out.b
      have HPA := Lib.hid pA
      have HPB := Lib.hid pB
      obtain ⟨v1, v2, v3⟩ := HI.out.b1.all
      obtain ⟨z1, z2, z3⟩ := HI.out.b2.all
      have hB := HI.out.below
      clear pA pB
      go_wp2_with (first | (go_at_call 78; (with_reducible refine (HSA.out _ _ _ HPA.out).mono ?_); rintro e _ ⟨rfl, x, rfl⟩) | (go_at_call 78; (with_reducible refine (HSB.out _ _ _ (HPB.out.later _)).mono ?_); rintro e _ ⟨rfl, x, rfl⟩))
      exact bodyPost_ret (v := .tuple #[.agg #[.int .i64 ((hlfA s) 0), .int .i64 ((hlfA s) 1), .int .i64 ((hlfA s) 2), .int .i64 ((hlfA s) 3), .int .i64 ((hlfA s) 4), .int .i64 ((hlfA s) 5), .int .i64 ((hlfA s) 6), .int .i64 ((hlfA s) 7), .int .i64 ((hlfA s) 8)], .agg #[.int .i64 ((hlfB s) 0), .int .i64 ((hlfB s) 1), .int .i64 ((hlfB s) 2), .int .i64 ((hlfB s) 3), .int .i64 ((hlfB s) 4), .int .i64 ((hlfB s) 5), .int .i64 ((hlfB s) 6), .int .i64 ((hlfB s) 7), .int .i64 ((hlfB s) 8)]]) (by simp [results, Try.results54, go_sem, *]) rfl ⟨rfl, (Later.mk_of (by repeat (first | (with_reducible assumption) | (with_reducible exact Below.refl _ _) | (with_reducible refine Later.after ?_ _) | (with_reducible refine Later.newer ?_ _) | (with_reducible refine Below.drew ?_) | (with_reducible refine Below.setCell ?_ (by first | exact Nat.le_refl _ | exact Nat.le_add_right _ _ | omega | (simp [go_sem]; done) | (simp [go_sem]; omega)) _))))⟩

end Go.Proofs.Ytcdnekhpeghkiaa
