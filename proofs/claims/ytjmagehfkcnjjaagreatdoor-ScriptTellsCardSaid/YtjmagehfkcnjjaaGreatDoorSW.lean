/-
  The words of a text: what the iterator yields.
-/
import Derived.Test.YtjmagehfkcnjjaaGreatDoorKI
import Derived.Test.YtjmagehfkcnjjaaGreatDoorKS
import Derived.Test.YtjmagehfkcnjjaaGreatDoorFQ
namespace Go.Proofs.YtjmagehfkcnjjaaGreatDoor
set_option linter.unusedVariables false
open Go.RowKit Go.Shelf
attribute [local go_sem] Oper.semAt_some

theorem grownL {w : World} (x : Later w) : w.grownBy x.out none := ⟨x.below.os, x.below.tape, x.below.output, x.below.size, fun k hk _ => x.below.block k hk⟩
theorem KeepsAll.refl (Bl : List Nat) (W : World) : KeepsAll Bl W W := fun _ _ => rfl
def encW (x : Nat × List UInt8) : Array Value := #[.int .i64 (x.1 : Int), .string ⟨x.2.toArray⟩]
/-- what IndexAny is asked of a text: the first blank -/
def IAny (l : List UInt8) : Prop := ∀ (k : Nat) (v : World), k ≤ l.length → Calls Tryz.prog 70 #[.string ⟨(l.drop k).toArray⟩, .string ⟨#[9, 10, 13, 32, 44]⟩] v fun e w' => e = .returned (.int .i64 (Lib.indexAny (l.drop k) blks)) ∧ ∃ x : Later v, w' = x.out
theorem at_facts (k s m1 K2 : Nat) (h1 : m1 = s + 1) (h2 : K2 = k + m1) (h : K2 ≤ 3000000) : (s : Int) + 1 = (m1 : Int) ∧ (k : Int) + (m1 : Int) = (K2 : Int) ∧ (m1 : Int) ≤ 3000000 ∧ (K2 : Int) ≤ 3000000 := by
  subst h1
  subst h2
  refine ⟨by omega, by omega, by omega, by omega⟩
theorem km_le (k m n : Nat) (h : m ≤ n - k) (hk : k < n) : k + (m + 1) ≤ n + 1 := by omega
theorem km_meas (k m n K2 : Nat) (hk : k < n) (h : K2 = k + (m + 1)) : n + 1 - K2 < n + 1 - k := by omega
set_option maxHeartbeats 400000 in
theorem words_c (S : ByteArray) (w : World) : Calls Tryz.prog 38 #[.string S] w fun e w' => e = .returned (.func (.func 69) #[] #[.pointer (some ⟨w.heap.size, 0, none⟩)]) ∧ w' = w.alloc (.cells #[.string S] 9) := by
  go_enter Tryz.func38, Tryz.ntmps38
  go_wp2
  go_ret
  exact ⟨rfl, rfl⟩
set_option maxRecDepth 100000 in
set_option maxHeartbeats 2000000 in
theorem words_run (l : List UInt8) (Bc lp : Nat) (J : Nat → World → Prop) (Z : World → Prop) (W : World) (hl : l.length ≤ 1100000) (hIA : IAny l)
    (hJ : ∀ (k : Nat) (A B : World), J k A → A.grownBy B none → J k B)
    (hY : ∀ k x W1, (wds 0 l)[k]? = some x → J k W1 → YieldAt Fence.wide 2 Tryz.prog lp (encW x) W1 fun e W' => KeepsAll [Bc] W1 W' ∧ ((e = .returned (.bool true) ∧ J (k + 1) W') ∨ (e = .returned (.bool false) ∧ Z W')))
    (hb : Blk W Bc 9 #[.string ⟨l.toArray⟩]) (h0 : J 0 W) :
    CallsIn Fence.wide 3 Tryz.prog 69 #[.func (.yield lp) #[] #[], .pointer (some ⟨Bc, 0, none⟩)] W fun e W' => (∃ v, e = .returned v) ∧ (J (wds 0 l).length W' ∨ Z W') := by
  obtain ⟨S, hS⟩ : ∃ S : ByteArray, S = ⟨l.toArray⟩ := ⟨_, rfl⟩
  have hSs : S.size = l.length := by rw [hS, ba_size]
  rw [← hS] at hb
  have HJ := Lib.hid hJ
  have HY := Lib.hid hY
  have HB := Lib.hid hb
  have H0 := Lib.hid h0
  have HA := Lib.hid hIA
  have HS := Lib.hid hS
  have HSs := Lib.hid hSs
  obtain ⟨b1, b2, b3⟩ := hb.all
  clear hJ hY hb h0 hIA hS hSs
  refine callsIn_of_wp Tryz.func69 rfl trivial ?_ rfl
  simp only [Tryz.ntmps69, List.size_toArray, List.length_cons, List.length_nil, Nat.reduceAdd, Nat.reduceSub, Array.replicate_succ, Array.replicate_zero, List.push_toArray, List.append_toArray, List.nil_append, List.cons_append]
  gi_wp2
  clear b1 b2 b3
  gi_loopw [3] (fun u wr => ∃ k j : Nat, u = .int .i64 (k : Int) ∧ k ≤ l.length + 1 ∧ j ≤ (wds 0 l).length ∧ Hid ((wds 0 l).drop j = wds k (l.drop k)) ∧ Hid (J j wr) ∧ Hid (KeepsAll [Bc] W wr)) (fun u _ => l.length + 1 - (intOf u).toNat)
  case atStart => exact ⟨0, 0, rfl, by omega, Nat.zero_le _, Lib.hid (by simp), H0, Lib.hid (KeepsAll.refl _ _)⟩
  case round =>
    obtain ⟨k, j, rfl, hk, hjl, hD, hJj, hK⟩ := hrel
    have hbk := HB.out.heap (hK.out Bc (by simp))
    obtain ⟨b1, b2, b3⟩ := hbk.all
    clear hbk
    by_cases hlt : k < l.length
    · have hd1 : decide ((k : Int) < (S.size : Int)) = true := by rw [HSs.out]; simp; exact hlt
      have hd2 : decide (k < S.size) = true := by rw [HSs.out]; simp; exact hlt
      have hd3 : k < S.size := by rw [HSs.out]; exact hlt
      have hd4 : (k : Int) ≤ (S.size : Int) := by omega
      have hia := fun v => HA.out k v (Nat.le_of_lt hlt)
      rw [index_wrd] at hia
      obtain ⟨R, hR0⟩ : ∃ R : ByteArray, R = ⟨(l.drop k).toArray⟩ := ⟨_, rfl⟩
      have hSR : S.extract k S.size = R := by rw [HS.out, ba_drop, hR0]
      have hRs : R.size = l.length - k := by rw [hR0, ba_size, List.length_drop]
      have hRe : R.toList.isEmpty = false := by
        rw [hR0, isEmpty_ba]
        cases e : l.drop k with
        | nil => have := congrArg List.length e; rw [List.length_drop] at this; simp at this; omega
        | cons _ _ => rfl
      have hwl := wrd_len (l.drop k)
      rw [List.length_drop] at hwl hia
      rw [← hR0] at hia
      obtain ⟨m, hm⟩ : ∃ m, m = (wrd (l.drop k)).length := ⟨_, rfl⟩
      rw [← hm] at hwl hia
      by_cases hmf : m = l.length - k
      · rw [if_pos hmf] at hia
        have hw0 : wrd (l.drop k) ≠ [] := fun e => by rw [e] at hm; simp at hm; omega
        obtain ⟨hat, hnx⟩ := wds_come l k j hlt hD.out hw0
        rw [← hm] at hnx
        obtain ⟨m1, hm1⟩ : ∃ m1, m1 = m + 1 := ⟨_, rfl⟩
        obtain ⟨K2, hK2⟩ : ∃ K2, K2 = k + m1 := ⟨_, rfl⟩
        have hkm : K2 ≤ l.length + 1 := by rw [hK2, hm1]; exact km_le k m _ hwl hlt
        have hme : l.length + 1 - K2 < l.length + 1 - k := km_meas k m _ K2 hlt (by rw [hK2, hm1])
        rw [show k + m + 1 = K2 by rw [hK2, hm1]; rfl] at hnx
        have HKM := Lib.hid hkm
        have HME := Lib.hid hme
        have hyk := fun W1 => HY.out j _ W1 hat
        have hwr : (⟨(wrd (l.drop k)).toArray⟩ : ByteArray) = R := by
          rw [hR0, ← wrd_take, ← hm, hmf]
          congr 2
          exact List.take_of_length_le (by rw [List.length_drop]; omega)
        unfold encW at hyk
        simp only [hwr] at hyk
        have HIA := Lib.hid hia
        have HYK := Lib.hid hyk
        have HNX := Lib.hid hnx
        have hjl2 : j + 1 ≤ (wds 0 l).length := (List.getElem?_eq_some_iff.1 hat).1
        have HJL := Lib.hid hjl2
        have hsm : m1 = R.size + 1 := by rw [hm1, hRs, hmf]
        have hk3 : K2 ≤ 3000000 := Nat.le_trans hkm (Nat.succ_le_succ (Nat.le_trans hl (by decide)))
        obtain ⟨e1, e7, e8, e9⟩ := at_facts k R.size m1 K2 hsm hK2 hk3
        clear hia hyk hnx hat hwr hw0 hRs hR0 hm hjl2 hjl hmf hsm hm1 hK2 hkm hme hk3
        gi_wp2_with (refine ⟨trivial, ?_⟩; gi_at_call 70; refine (callsIn_wide.2 (HIA.out _)).mono ?_; rintro e _ ⟨rfl, x, rfl⟩)
        have hj : J j x.out := HJ.out _ _ _ hJj.out (grownL x)
        obtain ⟨fn, tmps, assign, body, hy, hR⟩ := HYK.out x.out hj
        (try simp only [encW] at hy hR)
        rw [hy]
        refine ⟨fun _ => (by omega), hR.mono ?_⟩
        rintro e W3 ⟨hk3, ⟨rfl, hJ3⟩ | ⟨rfl, hZ3⟩⟩
        · have hKL : KeepsAll [Bc] W W3 := (hK.out.trans (KeepsAll.below (B := wr.heap.size) x.below (fun b hb => by simp only [List.mem_cons, List.not_mem_nil, or_false] at hb; subst hb; exact b3))).trans hk3
          have HJ3 := Lib.hid hJ3
          have HKL := Lib.hid hKL
          clear hJ3 hKL hk3 hj hy hR b1 b2 b3
          gi_wp2
          go_roundw
          case rel => exact ⟨K2, j + 1, rfl, HKM.out, HJL.out, HNX, HJ3, HKL⟩
          case measure => exact HME.out
        · have HZ3 := Lib.hid hZ3
          clear hZ3 hk3 hj hy hR b1 b2 b3
          gi_wp2
          first | go_end0 | refine bodyPost_ret (results_none rfl _ _ _) rfl ?_
          exact ⟨⟨_, rfl⟩, .inr HZ3.out⟩
      · rw [if_neg hmf] at hia
        have hmR : m < R.size := by rw [hRs]; omega
        by_cases hm0 : m = 0
        · have hw0 : wrd (l.drop k) = [] := List.length_eq_zero_iff.1 (by rw [← hm]; exact hm0)
          have hnx := wds_skip l k j hlt hD.out hw0
          subst hm0
          have hE0 : R.extract 0 0 = ⟨#[]⟩ := by rw [hR0, ba_take]; rfl
          have HIA := Lib.hid hia
          have HNX := Lib.hid hnx
          have HJL := Lib.hid hjl
          obtain ⟨K2, hK2⟩ : ∃ K2, K2 = k + 1 := ⟨_, rfl⟩
          have hkm : K2 ≤ l.length + 1 := by rw [hK2]; exact km_le k 0 _ (Nat.zero_le _) hlt
          have hme : l.length + 1 - K2 < l.length + 1 - k := km_meas k 0 _ K2 hlt hK2
          rw [← hK2] at HNX
          have HKM := Lib.hid hkm
          have HME := Lib.hid hme
          have hk3 : K2 ≤ 3000000 := Nat.le_trans hkm (Nat.succ_le_succ (Nat.le_trans hl (by decide)))
          obtain ⟨_, e7, _, e9⟩ := at_facts k 0 1 K2 rfl hK2 hk3
          have e8 : (k : Int) + 1 = (K2 : Int) := e7
          clear e7
          have hR0' : (0 : Int) ≤ (R.size : Int) := Int.natCast_nonneg _
          clear hia hnx hw0 hRs hR0 hm hjl hmf hK2 hkm hme hk3 hwl hmR
          gi_wp2_with (refine ⟨trivial, ?_⟩; gi_at_call 70; refine (callsIn_wide.2 (HIA.out _)).mono ?_; rintro e _ ⟨rfl, x, rfl⟩)
          refine ⟨fun f h => (by cases h), ?_⟩
          gi_wp2
          have hj : J j x.out := HJ.out _ _ _ hJj.out (grownL x)
          have hKL : KeepsAll [Bc] W x.out := hK.out.trans (KeepsAll.below (B := wr.heap.size) x.below (fun b hb => by simp only [List.mem_cons, List.not_mem_nil, or_false] at hb; subst hb; exact b3))
          have HJ3 := Lib.hid hj
          have HKL := Lib.hid hKL
          go_roundw
          case rel => exact ⟨K2, j, rfl, HKM.out, HJL.out, HNX, HJ3, HKL⟩
          case measure => exact HME.out
        · have hw0 : wrd (l.drop k) ≠ [] := fun e => by rw [e] at hm; exact hm0 hm
          obtain ⟨hat, hnx⟩ := wds_come l k j hlt hD.out hw0
          rw [← hm] at hnx
          obtain ⟨m1, hm1⟩ : ∃ m1, m1 = m + 1 := ⟨_, rfl⟩
          obtain ⟨K2, hK2⟩ : ∃ K2, K2 = k + m1 := ⟨_, rfl⟩
          have hkm : K2 ≤ l.length + 1 := by rw [hK2, hm1]; exact km_le k m _ hwl hlt
          have hme : l.length + 1 - K2 < l.length + 1 - k := km_meas k m _ K2 hlt (by rw [hK2, hm1])
          rw [show k + m + 1 = K2 by rw [hK2, hm1]; rfl] at hnx
          have HKM := Lib.hid hkm
          have HME := Lib.hid hme
          have hyk := fun W1 => HY.out j _ W1 hat
          obtain ⟨Wd, hWd⟩ : ∃ Wd : ByteArray, Wd = ⟨(wrd (l.drop k)).toArray⟩ := ⟨_, rfl⟩
          have hEx : R.extract 0 m = Wd := by rw [hR0, ba_take, hm, wrd_take, hWd]
          have hWs : Wd.size = m := by rw [hWd, ba_size, ← hm]
          have hWe : Wd.toList.isEmpty = false := by
            rw [hWd, isEmpty_ba]
            cases e : wrd (l.drop k) with
            | nil => exact absurd e hw0
            | cons _ _ => rfl
          unfold encW at hyk
          simp only [← hWd] at hyk
          have HIA := Lib.hid hia
          have HYK := Lib.hid hyk
          have HNX := Lib.hid hnx
          have hjl2 : j + 1 ≤ (wds 0 l).length := (List.getElem?_eq_some_iff.1 hat).1
          have HJL := Lib.hid hjl2
          have hsm : m1 = Wd.size + 1 := by rw [hm1, hWs]
          have hk3 : K2 ≤ 3000000 := Nat.le_trans hkm (Nat.succ_le_succ (Nat.le_trans hl (by decide)))
          obtain ⟨e1, e7, e8, e9⟩ := at_facts k Wd.size m1 K2 hsm hK2 hk3
          have hmR2 : (m : Int) ≤ (R.size : Int) := Int.ofNat_le.2 (Nat.le_of_lt hmR)
          clear hia hyk hnx hat hWd hw0 hRs hR0 hm hjl2 hjl hWs hmf hsm hm1 hK2 hkm hme hk3 hm0 hwl
          gi_wp2_with (refine ⟨trivial, ?_⟩; gi_at_call 70; refine (callsIn_wide.2 (HIA.out _)).mono ?_; rintro e _ ⟨rfl, x, rfl⟩)
          have hj : J j x.out := HJ.out _ _ _ hJj.out (grownL x)
          obtain ⟨fn, tmps, assign, body, hy, hR⟩ := HYK.out x.out hj
          (try simp only [encW] at hy hR)
          rw [hy]
          refine ⟨fun _ => (by omega), hR.mono ?_⟩
          rintro e W3 ⟨hk3, ⟨rfl, hJ3⟩ | ⟨rfl, hZ3⟩⟩
          · have hKL : KeepsAll [Bc] W W3 := (hK.out.trans (KeepsAll.below (B := wr.heap.size) x.below (fun b hb => by simp only [List.mem_cons, List.not_mem_nil, or_false] at hb; subst hb; exact b3))).trans hk3
            have HJ3 := Lib.hid hJ3
            have HKL := Lib.hid hKL
            clear hJ3 hKL hk3 hj hy hR b1 b2 b3
            gi_wp2
            go_roundw
            case rel => exact ⟨K2, j + 1, rfl, HKM.out, HJL.out, HNX, HJ3, HKL⟩
            case measure => exact HME.out
          · have HZ3 := Lib.hid hZ3
            clear hZ3 hk3 hj hy hR b1 b2 b3
            gi_wp2
            first | go_end0 | refine bodyPost_ret (results_none rfl _ _ _) rfl ?_
            exact ⟨⟨_, rfl⟩, .inr HZ3.out⟩
    · have hlen := wds_end l k j (by omega) hD.out
      obtain rfl : j = (wds 0 l).length := by omega
      have hd1 : decide ((k : Int) < (S.size : Int)) = false := by rw [HSs.out]; simp; omega
      have hd2 : decide (k < S.size) = false := by rw [HSs.out]; simp; omega
      have hd3 : ¬ k < S.size := by rw [HSs.out]; exact hlt
      gi_wp2
      first | go_end0 | refine bodyPost_ret (results_none rfl _ _ _) rfl ?_
      exact ⟨⟨_, rfl⟩, .inl hJj.out⟩
theorem words_seq (l : List UInt8) (Bc : Nat) (w : World) (hl : l.length ≤ 1100000) (hIA : IAny l) (hb : Blk w Bc 9 #[.string ⟨l.toArray⟩]) :
    SeqStop Fence.wide 3 Tryz.prog 69 #[.pointer (some ⟨Bc, 0, none⟩)] encW (KeepsAll [Bc]) (wds 0 l) w :=
  fun lp J Z W hW hJ _ hY h0 => words_run l Bc lp J Z W hl hIA hJ hY (hb.below hW hb.lt) h0
end Go.Proofs.YtjmagehfkcnjjaaGreatDoor
