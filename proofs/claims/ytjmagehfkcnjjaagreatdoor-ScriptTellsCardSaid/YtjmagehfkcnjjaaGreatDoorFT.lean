/-
  The document's own Print.
-/
import Derived.Test.YtjmagehfkcnjjaaGreatDoorFR
import Derived.Test.YtjmagehfkcnjjaaGreatDoorKP
namespace Go.Proofs.YtjmagehfkcnjjaaGreatDoor
set_option linter.unusedVariables false
open Go.RowKit Go.Sort

def strN (v : Value) : Nat := match v with | .string s => s.size | _ => 0
def emp (v : Value) : Nat := match v with | .string s => (if s.size = 0 then 1 else 0) | _ => 0
/-- the digits of a number that are not told yet -/
def decP (v : Nat) : List UInt8 := if v = 0 then [] else Lib.decDigits v
def DR (u v : Nat) (T : List UInt8) : Prop := (T = [] ∧ v = u) ∨ (T ≠ [] ∧ decP v ++ T = Lib.decDigits u)
theorem dec_decP (v : Nat) : Lib.decDigits v = decP (v / 10) ++ [UInt8.ofNat (48 + v % 10)] := by
  unfold decP
  rw [Lib.decDigits]
  by_cases h : v < 10
  · rw [dif_pos h, if_pos (by omega), Nat.mod_eq_of_lt h]; rfl
  · rw [dif_neg h, if_neg (by omega)]
theorem DR.step {u v : Nat} {T : List UInt8} (h : DR u v T) (hc : 0 < v ∨ T = []) : DR u (v / 10) (UInt8.ofNat (48 + v % 10) :: T) := by
  refine .inr ⟨by simp, ?_⟩
  have e : decP (v / 10) ++ UInt8.ofNat (48 + v % 10) :: T = Lib.decDigits v ++ T := by rw [dec_decP v]; simp
  rw [e]
  rcases h with ⟨h1, h2⟩ | ⟨h1, h2⟩
  · rw [h1, h2, List.append_nil]
  · have hv : 0 < v := hc.resolve_right h1
    unfold decP at h2
    rw [if_neg (by omega)] at h2
    exact h2
theorem DR.len {u v : Nat} {T : List UInt8} (h : DR u v T) (hu : u < 18446744073709551616) : T.length ≤ 20 := by
  rcases h with ⟨h1, _⟩ | ⟨_, h2⟩
  · rw [h1]; simp
  · have h3 := congrArg List.length h2
    rw [List.length_append] at h3
    have h4 : (Lib.decDigits u).length ≤ 20 := by have h := dec_size u hu; rw [ba_size] at h; exact h
    omega
set_option maxRecDepth 100000 in
set_option maxHeartbeats 1000000 in
theorem rdigits_c (u : Nat) (hu : u < 18446744073709551616) (w : World) : Calls Tryz.prog 43 #[.int .u64 (u : Int)] w fun e w' => e = .returned (.string ⟨(Lib.decDigits u).toArray⟩) ∧ ∃ x : Later w, w' = x.out := by
  go_enter Tryz.func43, Tryz.ntmps43
  go_wp2_with (fail)
  go_loopw [0, 3] (fun nv sv wr => ∃ (v : Nat) (T : List UInt8), nv = .int .u64 v ∧ sv = .string ⟨T.toArray⟩ ∧ v ≤ u ∧ DR u v T ∧ ∃ y : Later w, wr = y.out) (fun nv sv _ => (intOf nv).toNat + emp sv)
  case atStart => exact ⟨u, [], rfl, rfl, Nat.le_refl _, .inl ⟨rfl, rfl⟩, ⟨w, Below.refl _ _⟩, rfl⟩
  case round =>
    obtain ⟨v, T, rfl, rfl, hv, hR, y, rfl⟩ := hrel
    obtain ⟨S, hS⟩ : ∃ S : ByteArray, S = ⟨T.toArray⟩ := ⟨_, rfl⟩
    have hSs : S.size ≤ 20 := by rw [hS, ba_size]; exact hR.len hu
    have hE : S.toList.isEmpty = T.isEmpty := by rw [hS]; exact isEmpty_ba T
    rw [← hS]
    have HSx := Lib.hid hS
    clear hS
    by_cases hc : 0 < v ∨ T = []
    · have hR2 := hR.step hc
      have HR2 := Lib.hid hR2
      obtain ⟨b, hb⟩ : ∃ b, b = UInt8.ofNat (48 + v % 10) := ⟨_, rfl⟩
      have hbn : b.toNat = 48 + v % 10 := by rw [hb]; simp; omega
      obtain ⟨c, hcn⟩ : ∃ c : Int, c = (b.toNat : Int) := ⟨_, rfl⟩
      obtain ⟨d, hd⟩ : ∃ d : Nat, d = v % 10 := ⟨_, rfl⟩
      obtain ⟨q, hq⟩ : ∃ q : Nat, q = v / 10 := ⟨_, rfl⟩
      have m1 : (v : Int) % 10 = (d : Int) := by omega
      have m2 : (v : Int).tmod 10 = (d : Int) := by rw [Int.tmod_eq_emod_of_nonneg (by omega)]; omega
      have m3 : (v : Int) / 10 = (q : Int) := by omega
      have m4 : (v : Int).tdiv 10 = (q : Int) := by rw [Int.tdiv_eq_ediv_of_nonneg (by omega)]; omega
      have m5 : IntKind.u8.wrap (d : Int) = (d : Int) := by rw [IntKind.wrap_u8]; omega
      have m6 : (48 : Int) + (d : Int) = c := by omega
      have m7 : IntKind.u8.wrap (48 + (d : Int)) = c := by rw [IntKind.wrap_u8]; omega
      have m8 : IntKind.u8.wrap c = c := by rw [IntKind.wrap_u8]; omega
      have hcv : (convert 43 9 (.slice (some ⟨y.out.heap.size, 0, none⟩) 1 1)).run Tryz.prog (y.out.alloc (.cells #[.int .u8 c] 5)) = .ok (.string ⟨#[b]⟩) (y.out.alloc (.cells #[.int .u8 c] 5)) := by
        have h := run_convert_bytes_back (P := Tryz.prog) (y.out.alloc (.cells #[.int .u8 c] 5)) 43 9 5 ⟨y.out.heap.size, 0, none⟩ 1 [b] Tryz.underlying43 Tryz.underlying5 Tryz.underlying9 (fun j hj => by
          obtain rfl : j = 0 := by simp at hj; omega
          rw [Addr.add_mid]
          have := (Blk.new y.out 5 #[.int .u8 c]).cell 0
          rw [hcn] at this ⊢
          exact this)
        exact h
      have hdec : decide ((0 : Int) < (v : Int)) = decide (0 < v) := by simp
      have hcond : 0 < v ∨ (v = 0 ∧ S.toList.isEmpty = true) := by
        rcases Nat.eq_zero_or_pos v with h | h
        · rcases hc with h' | h'
          · exact .inl h'
          · exact .inr ⟨h, by rw [hE, h']; rfl⟩
        · exact .inl h
      have HM : q + emp (.string ((⟨#[b]⟩ : ByteArray) ++ S)) < v + emp (.string S) := by
        have e0 : emp (.string ((⟨#[b]⟩ : ByteArray) ++ S)) = 0 := by
          unfold emp
          show (if ((⟨#[b]⟩ : ByteArray) ++ S).size = 0 then 1 else 0) = 0
          rw [ByteArray.size_append, if_neg (by show ¬ 1 + S.size = 0; omega)]
        rw [e0]
        rcases hc with h | h
        · omega
        · have : emp (.string S) = 1 := by rw [HSx.out, h]; rfl
          omega
      have HMM := Lib.hid HM
      rw [← hb] at HR2
      have HQ := Lib.hid hq
      have hq9 : q ≤ u := by omega
      clear hR hR2 hE hc hb hbn hcn hd hq HM
      rcases hcond with hp | ⟨hp, hq2⟩
      · have hz : decide ((0 : Int) < (v : Int)) = true := by simp; exact hp
        clear hdec
        go_wp2_with (fail)
        go_roundw
        case rel =>
          refine ⟨q, b :: T, rfl, ?_, hq9, by rw [HQ.out]; exact HR2.out, ⟨y.out.alloc (.cells #[.int .u8 c] 5), y.below.alloc y.below.size _⟩, rfl⟩
          rw [HSx.out]
          show Value.string ((⟨[b].toArray⟩ : ByteArray) ++ (⟨T.toArray⟩ : ByteArray)) = _
          rw [ba_app]; rfl
        case measure => exact HMM.out
      · subst hp
        have hz : decide ((0 : Int) < ((0 : Nat) : Int)) = false := by simp
        clear hdec
        obtain rfl : d = 0 := by omega
        obtain rfl : c = 48 := by omega
        obtain rfl : q = 0 := by omega
        clear m1 m2 m3 m4 m5 m6 m7 m8
        go_wp2_with (fail)
        go_roundw
        case rel =>
          refine ⟨0, b :: T, rfl, ?_, hq9, by rw [HQ.out]; exact HR2.out, ⟨y.out.alloc (.cells #[.int .u8 48] 5), y.below.alloc y.below.size _⟩, rfl⟩
          rw [HSx.out]
          show Value.string ((⟨[b].toArray⟩ : ByteArray) ++ (⟨T.toArray⟩ : ByteArray)) = _
          rw [ba_app]; rfl
        case measure => exact HMM.out
    · have hv0 : v = 0 := Nat.eq_zero_of_not_pos fun h => hc (.inl h)
      have hT : T ≠ [] := fun h => hc (.inr h)
      subst hv0
      have hz : decide ((0 : Int) < ((0 : Nat) : Int)) = false := by simp
      have hE2 : S.toList.isEmpty = false := by
        rw [hE]
        cases T with
        | nil => exact absurd rfl hT
        | cons _ _ => rfl
      have hTu : T = Lib.decDigits u := by
        rcases hR with ⟨h1, _⟩ | ⟨_, h2⟩
        · exact absurd h1 hT
        · have e : decP 0 = [] := rfl
          rw [e] at h2
          exact h2
      have HTu := Lib.hid hTu
      clear hc hE hR hTu
      go_wp2_with (fail)
      exact bodyPost_ret (v := .string S) (by simp [results, Tryz.results43, go_sem, *]) rfl ⟨by rw [HSx.out, HTu.out], y, rfl⟩
set_option maxRecDepth 100000 in
set_option maxHeartbeats 1000000 in
theorem rprint_p0 (u q r : Nat) (H G : List UInt8) (hH : H = (Lib.decDigits q)) (hq : u = q * 256 + r) (r9 : r < 256)  (hu : u ≤ 9223372036854775807) (hr : r = 0) (hG : Lf r G) (hl : G.length ≤ 8) (w : World) :
    Calls Tryz.prog 24 #[.int .i64 (u : Int)] w fun e w' => e = .returned (.string ⟨(H ++ G).toArray⟩) ∧ ∃ x : Later w, w' = x.out := by
  have q9 : q < 18446744073709551616 := by omega
  subst hr
  obtain ⟨A, hA⟩ : ∃ A : ByteArray, A = ⟨(Lib.decDigits q).toArray⟩ := ⟨_, rfl⟩
  have hAs : A.size ≤ 20 := by rw [hA]; exact dec_size q q9
  have hc := fun v => rdigits_c q q9 v
  rw [← hA] at hc
  have HC := Lib.hid hc
  have H0 : ((⟨#[]⟩ : ByteArray) ++ A) = ⟨H.toArray⟩ := by
    rw [hA, hH]
    show ((⟨([] : List UInt8).toArray⟩ : ByteArray) ++ (⟨(Lib.decDigits q).toArray⟩ : ByteArray)) = _
    rw [ba_app]; rfl
  have HH := Lib.hid H0
  have HA := Lib.hid hA
  have HG := Lib.hid hG
  have HHl : H.length ≤ 22 := by
    have : (Lib.decDigits q).length ≤ 20 := by have h := dec_size q q9; rw [ba_size] at h; exact h
    rw [hH]; simp; omega
  clear hc H0 hA hG hH
  have hd1 : (u : Int) / 256 = (q : Int) := by omega
  have hd2 : (u : Int) % 256 = (0 : Int) := by omega
  have hd3 : (u : Int).tdiv 256 = (q : Int) := by rw [Int.tdiv_eq_ediv_of_nonneg (by omega)]; omega
  have hd4 : (u : Int).tmod 256 = (0 : Int) := by rw [Int.tmod_eq_emod_of_nonneg (by omega)]; omega
  have hneg : decide ((u : Int) < 0) = false := by simp
  have hrp : decide ((0 : Int) < (0 : Int)) = false := by simp
  
  have hw1 : IntKind.u64.wrap (u : Int) = (u : Int) := by rw [IntKind.wrap_u64]; omega
  
  
  have HQ := Lib.hid hq
  clear hq
  go_enter Tryz.func24, Tryz.ntmps24
  go_wp2_with (go_at_call 43; (with_reducible refine (HC.out _).mono ?_); rintro e _ ⟨rfl, x, rfl⟩)
  rw [HH.out]
  go_loopw [3, 5] (fun sv lv wr => ∃ (dn rest : List UInt8) (left : Nat), dn ++ rest = G ∧ sv = .string ⟨(H ++ dn).toArray⟩ ∧ lv = .int .u64 left ∧ Lf left rest ∧ ∃ y : Later w, wr = y.out) (fun sv _ _ => 30 - strN sv)
  case atStart => exact ⟨[], G, 0, rfl, by rw [List.append_nil], rfl, HG.out, x, rfl⟩
  case round =>
    obtain ⟨dn, rest, left, hdr, rfl, rfl, hL, y, rfl⟩ := hrel
    obtain ⟨S, hS⟩ : ∃ S : ByteArray, S = ⟨(H ++ dn).toArray⟩ := ⟨_, rfl⟩
    have hSs : S.size ≤ 30 := by
      rw [hS, ba_size, List.length_append]
      have := congrArg List.length hdr
      rw [List.length_append] at this
      omega
    rw [← hS]
    have HSx := Lib.hid hS
    clear hS
    cases rest with
    | nil =>
      have h0 := hL.nil
      subst h0
      have hz : decide ((0 : Int) < ((0 : Nat) : Int)) = false := by simp
      clear hL
      rw [List.append_nil] at hdr
      subst hdr
      go_wp2_with (fail)
      exact bodyPost_ret (v := .string S) (by simp [results, Tryz.results24, go_sem, *]) rfl ⟨by rw [HSx.out], y, rfl⟩
    | cons b rest =>
      obtain ⟨e1, hL2⟩ := hL.step
      have hp := hL.pos
      have hb : IsDg b := hL.2.2.1 b (List.mem_cons_self ..)
      have h256 := hL.1
      have hdb := dig_byte b hb
      obtain ⟨D, hD⟩ : ∃ D, D = b.toNat - 48 := ⟨_, rfl⟩
      rw [← hD] at e1 hdb
      have hD9 : D < 10 := by unfold IsDg at hb; omega
      obtain ⟨L2, hL2e⟩ : ∃ L2, L2 = left * 10 % 256 := ⟨_, rfl⟩
      rw [← hL2e] at hL2
      have HL2 := Lib.hid hL2
      have hc2 := fun v => rdigits_c D (by omega) v
      rw [hdb] at hc2
      have HC2 := Lib.hid hc2
      have hz : decide ((0 : Int) < (left : Int)) = true := by simp; exact hp
      have m1 : IntKind.u64.wrap ((left : Int) * 10) = (left : Int) * 10 := by rw [IntKind.wrap_u64]; omega
      have m2 : (left : Int) * 10 / 256 = (D : Int) := by omega
      have m3 : ((left : Int) * 10).tdiv 256 = (D : Int) := by rw [Int.tdiv_eq_ediv_of_nonneg (by omega)]; omega
      have m4 : (left : Int) * 10 % 256 = (L2 : Int) := by omega
      have m5 : ((left : Int) * 10).tmod 256 = (L2 : Int) := by rw [Int.tmod_eq_emod_of_nonneg (by omega)]; omega
      have HDR := Lib.hid hdr
      clear hL hL2 hc2 hdb hb hL2e hD hdr e1
      go_wp2_with (go_at_call 43; (with_reducible refine (HC2.out _).mono ?_); rintro e _ ⟨rfl, x2, rfl⟩)
      go_roundw
      case rel =>
        refine ⟨dn ++ [b], rest, L2, by rw [List.append_assoc]; exact HDR.out, ?_, rfl, HL2.out, ⟨x2.out, y.below.trans (x2.below.mono y.below.size)⟩, rfl⟩
        rw [HSx.out, ba_app, List.append_assoc]
      case measure =>
        have : S.size < 30 := by
          rw [HSx.out, ba_size, List.length_append]
          have := congrArg List.length HDR.out
          rw [List.length_append, List.length_cons] at this
          omega
        show 30 - (S ++ (⟨[b].toArray⟩ : ByteArray)).size < 30 - S.size
        rw [ByteArray.size_append]
        show 30 - (S.size + 1) < _
        omega

set_option maxRecDepth 100000 in
set_option maxHeartbeats 1000000 in
theorem rprint_p1 (u q r : Nat) (H G : List UInt8) (hH : H = ((Lib.decDigits q) ++ [46])) (hq : u = q * 256 + r) (r9 : r < 256)  (hu : u ≤ 9223372036854775807) (hr : 0 < r) (hG : Lf r G) (hl : G.length ≤ 8) (w : World) :
    Calls Tryz.prog 24 #[.int .i64 (u : Int)] w fun e w' => e = .returned (.string ⟨(H ++ G).toArray⟩) ∧ ∃ x : Later w, w' = x.out := by
  have q9 : q < 18446744073709551616 := by omega
  
  obtain ⟨A, hA⟩ : ∃ A : ByteArray, A = ⟨(Lib.decDigits q).toArray⟩ := ⟨_, rfl⟩
  have hAs : A.size ≤ 20 := by rw [hA]; exact dec_size q q9
  have hc := fun v => rdigits_c q q9 v
  rw [← hA] at hc
  have HC := Lib.hid hc
  have H0 : (((⟨#[]⟩ : ByteArray) ++ A) ++ ⟨#[46]⟩) = ⟨H.toArray⟩ := by
    rw [hA, hH]
    show ((⟨([] : List UInt8).toArray⟩ : ByteArray) ++ (⟨(Lib.decDigits q).toArray⟩ : ByteArray)) ++ (⟨([46] : List UInt8).toArray⟩ : ByteArray) = _
    rw [ba_app, ba_app]; rfl
  have HH := Lib.hid H0
  have HA := Lib.hid hA
  have HG := Lib.hid hG
  have HHl : H.length ≤ 22 := by
    have : (Lib.decDigits q).length ≤ 20 := by have h := dec_size q q9; rw [ba_size] at h; exact h
    rw [hH]; simp; omega
  clear hc H0 hA hG hH
  have hd1 : (u : Int) / 256 = (q : Int) := by omega
  have hd2 : (u : Int) % 256 = (r : Int) := by omega
  have hd3 : (u : Int).tdiv 256 = (q : Int) := by rw [Int.tdiv_eq_ediv_of_nonneg (by omega)]; omega
  have hd4 : (u : Int).tmod 256 = (r : Int) := by rw [Int.tmod_eq_emod_of_nonneg (by omega)]; omega
  have hneg : decide ((u : Int) < 0) = false := by simp
  have hrp : decide ((0 : Int) < (r : Int)) = true := by simp; omega
  
  have hw1 : IntKind.u64.wrap (u : Int) = (u : Int) := by rw [IntKind.wrap_u64]; omega
  
  
  have HQ := Lib.hid hq
  clear hq
  go_enter Tryz.func24, Tryz.ntmps24
  go_wp2_with (go_at_call 43; (with_reducible refine (HC.out _).mono ?_); rintro e _ ⟨rfl, x, rfl⟩)
  rw [HH.out]
  go_loopw [3, 5] (fun sv lv wr => ∃ (dn rest : List UInt8) (left : Nat), dn ++ rest = G ∧ sv = .string ⟨(H ++ dn).toArray⟩ ∧ lv = .int .u64 left ∧ Lf left rest ∧ ∃ y : Later w, wr = y.out) (fun sv _ _ => 30 - strN sv)
  case atStart => exact ⟨[], G, r, rfl, by rw [List.append_nil], rfl, HG.out, x, rfl⟩
  case round =>
    obtain ⟨dn, rest, left, hdr, rfl, rfl, hL, y, rfl⟩ := hrel
    obtain ⟨S, hS⟩ : ∃ S : ByteArray, S = ⟨(H ++ dn).toArray⟩ := ⟨_, rfl⟩
    have hSs : S.size ≤ 30 := by
      rw [hS, ba_size, List.length_append]
      have := congrArg List.length hdr
      rw [List.length_append] at this
      omega
    rw [← hS]
    have HSx := Lib.hid hS
    clear hS
    cases rest with
    | nil =>
      have h0 := hL.nil
      subst h0
      have hz : decide ((0 : Int) < ((0 : Nat) : Int)) = false := by simp
      clear hL
      rw [List.append_nil] at hdr
      subst hdr
      go_wp2_with (fail)
      exact bodyPost_ret (v := .string S) (by simp [results, Tryz.results24, go_sem, *]) rfl ⟨by rw [HSx.out], y, rfl⟩
    | cons b rest =>
      obtain ⟨e1, hL2⟩ := hL.step
      have hp := hL.pos
      have hb : IsDg b := hL.2.2.1 b (List.mem_cons_self ..)
      have h256 := hL.1
      have hdb := dig_byte b hb
      obtain ⟨D, hD⟩ : ∃ D, D = b.toNat - 48 := ⟨_, rfl⟩
      rw [← hD] at e1 hdb
      have hD9 : D < 10 := by unfold IsDg at hb; omega
      obtain ⟨L2, hL2e⟩ : ∃ L2, L2 = left * 10 % 256 := ⟨_, rfl⟩
      rw [← hL2e] at hL2
      have HL2 := Lib.hid hL2
      have hc2 := fun v => rdigits_c D (by omega) v
      rw [hdb] at hc2
      have HC2 := Lib.hid hc2
      have hz : decide ((0 : Int) < (left : Int)) = true := by simp; exact hp
      have m1 : IntKind.u64.wrap ((left : Int) * 10) = (left : Int) * 10 := by rw [IntKind.wrap_u64]; omega
      have m2 : (left : Int) * 10 / 256 = (D : Int) := by omega
      have m3 : ((left : Int) * 10).tdiv 256 = (D : Int) := by rw [Int.tdiv_eq_ediv_of_nonneg (by omega)]; omega
      have m4 : (left : Int) * 10 % 256 = (L2 : Int) := by omega
      have m5 : ((left : Int) * 10).tmod 256 = (L2 : Int) := by rw [Int.tmod_eq_emod_of_nonneg (by omega)]; omega
      have HDR := Lib.hid hdr
      clear hL hL2 hc2 hdb hb hL2e hD hdr e1
      go_wp2_with (go_at_call 43; (with_reducible refine (HC2.out _).mono ?_); rintro e _ ⟨rfl, x2, rfl⟩)
      go_roundw
      case rel =>
        refine ⟨dn ++ [b], rest, L2, by rw [List.append_assoc]; exact HDR.out, ?_, rfl, HL2.out, ⟨x2.out, y.below.trans (x2.below.mono y.below.size)⟩, rfl⟩
        rw [HSx.out, ba_app, List.append_assoc]
      case measure =>
        have : S.size < 30 := by
          rw [HSx.out, ba_size, List.length_append]
          have := congrArg List.length HDR.out
          rw [List.length_append, List.length_cons] at this
          omega
        show 30 - (S ++ (⟨[b].toArray⟩ : ByteArray)).size < 30 - S.size
        rw [ByteArray.size_append]
        show 30 - (S.size + 1) < _
        omega

set_option maxRecDepth 100000 in
set_option maxHeartbeats 1000000 in
theorem rprint_n0 (u q r : Nat) (H G : List UInt8) (hH : H = (45 :: Lib.decDigits q)) (hq : u = q * 256 + r) (r9 : r < 256) (hn : 1 ≤ u) (hu : u ≤ 9223372036854775808) (hr : r = 0) (hG : Lf r G) (hl : G.length ≤ 8) (w : World) :
    Calls Tryz.prog 24 #[.int .i64 (-(u : Int))] w fun e w' => e = .returned (.string ⟨(H ++ G).toArray⟩) ∧ ∃ x : Later w, w' = x.out := by
  have q9 : q < 18446744073709551616 := by omega
  subst hr
  obtain ⟨A, hA⟩ : ∃ A : ByteArray, A = ⟨(Lib.decDigits q).toArray⟩ := ⟨_, rfl⟩
  have hAs : A.size ≤ 20 := by rw [hA]; exact dec_size q q9
  have hc := fun v => rdigits_c q q9 v
  rw [← hA] at hc
  have HC := Lib.hid hc
  have H0 : ((⟨#[45]⟩ : ByteArray) ++ A) = ⟨H.toArray⟩ := by
    rw [hA, hH]
    show ((⟨([45] : List UInt8).toArray⟩ : ByteArray) ++ (⟨(Lib.decDigits q).toArray⟩ : ByteArray)) = _
    rw [ba_app]; rfl
  have HH := Lib.hid H0
  have HA := Lib.hid hA
  have HG := Lib.hid hG
  have HHl : H.length ≤ 22 := by
    have : (Lib.decDigits q).length ≤ 20 := by have h := dec_size q q9; rw [ba_size] at h; exact h
    rw [hH]; simp; omega
  clear hc H0 hA hG hH
  have hd1 : (u : Int) / 256 = (q : Int) := by omega
  have hd2 : (u : Int) % 256 = (0 : Int) := by omega
  have hd3 : (u : Int).tdiv 256 = (q : Int) := by rw [Int.tdiv_eq_ediv_of_nonneg (by omega)]; omega
  have hd4 : (u : Int).tmod 256 = (0 : Int) := by rw [Int.tmod_eq_emod_of_nonneg (by omega)]; omega
  have hneg : decide ((-(u : Int)) < 0) = true := by simp; omega
  have hrp : decide ((0 : Int) < (0 : Int)) = false := by simp
  obtain ⟨U, hU⟩ : ∃ U : Int, U = 18446744073709551616 - (u : Int) := ⟨_, rfl⟩
  have hw1 : IntKind.u64.wrap (-(u : Int)) = U := by rw [IntKind.wrap_u64]; omega
  have hw2 : IntKind.u64.wrap (-U) = (u : Int) := by rw [IntKind.wrap_u64]; omega
  clear hU
  have HQ := Lib.hid hq
  clear hq
  go_enter Tryz.func24, Tryz.ntmps24
  go_wp2_with (go_at_call 43; (with_reducible refine (HC.out _).mono ?_); rintro e _ ⟨rfl, x, rfl⟩)
  rw [HH.out]
  go_loopw [3, 5] (fun sv lv wr => ∃ (dn rest : List UInt8) (left : Nat), dn ++ rest = G ∧ sv = .string ⟨(H ++ dn).toArray⟩ ∧ lv = .int .u64 left ∧ Lf left rest ∧ ∃ y : Later w, wr = y.out) (fun sv _ _ => 30 - strN sv)
  case atStart => exact ⟨[], G, 0, rfl, by rw [List.append_nil], rfl, HG.out, x, rfl⟩
  case round =>
    obtain ⟨dn, rest, left, hdr, rfl, rfl, hL, y, rfl⟩ := hrel
    obtain ⟨S, hS⟩ : ∃ S : ByteArray, S = ⟨(H ++ dn).toArray⟩ := ⟨_, rfl⟩
    have hSs : S.size ≤ 30 := by
      rw [hS, ba_size, List.length_append]
      have := congrArg List.length hdr
      rw [List.length_append] at this
      omega
    rw [← hS]
    have HSx := Lib.hid hS
    clear hS
    cases rest with
    | nil =>
      have h0 := hL.nil
      subst h0
      have hz : decide ((0 : Int) < ((0 : Nat) : Int)) = false := by simp
      clear hL
      rw [List.append_nil] at hdr
      subst hdr
      go_wp2_with (fail)
      exact bodyPost_ret (v := .string S) (by simp [results, Tryz.results24, go_sem, *]) rfl ⟨by rw [HSx.out], y, rfl⟩
    | cons b rest =>
      obtain ⟨e1, hL2⟩ := hL.step
      have hp := hL.pos
      have hb : IsDg b := hL.2.2.1 b (List.mem_cons_self ..)
      have h256 := hL.1
      have hdb := dig_byte b hb
      obtain ⟨D, hD⟩ : ∃ D, D = b.toNat - 48 := ⟨_, rfl⟩
      rw [← hD] at e1 hdb
      have hD9 : D < 10 := by unfold IsDg at hb; omega
      obtain ⟨L2, hL2e⟩ : ∃ L2, L2 = left * 10 % 256 := ⟨_, rfl⟩
      rw [← hL2e] at hL2
      have HL2 := Lib.hid hL2
      have hc2 := fun v => rdigits_c D (by omega) v
      rw [hdb] at hc2
      have HC2 := Lib.hid hc2
      have hz : decide ((0 : Int) < (left : Int)) = true := by simp; exact hp
      have m1 : IntKind.u64.wrap ((left : Int) * 10) = (left : Int) * 10 := by rw [IntKind.wrap_u64]; omega
      have m2 : (left : Int) * 10 / 256 = (D : Int) := by omega
      have m3 : ((left : Int) * 10).tdiv 256 = (D : Int) := by rw [Int.tdiv_eq_ediv_of_nonneg (by omega)]; omega
      have m4 : (left : Int) * 10 % 256 = (L2 : Int) := by omega
      have m5 : ((left : Int) * 10).tmod 256 = (L2 : Int) := by rw [Int.tmod_eq_emod_of_nonneg (by omega)]; omega
      have HDR := Lib.hid hdr
      clear hL hL2 hc2 hdb hb hL2e hD hdr e1
      go_wp2_with (go_at_call 43; (with_reducible refine (HC2.out _).mono ?_); rintro e _ ⟨rfl, x2, rfl⟩)
      go_roundw
      case rel =>
        refine ⟨dn ++ [b], rest, L2, by rw [List.append_assoc]; exact HDR.out, ?_, rfl, HL2.out, ⟨x2.out, y.below.trans (x2.below.mono y.below.size)⟩, rfl⟩
        rw [HSx.out, ba_app, List.append_assoc]
      case measure =>
        have : S.size < 30 := by
          rw [HSx.out, ba_size, List.length_append]
          have := congrArg List.length HDR.out
          rw [List.length_append, List.length_cons] at this
          omega
        show 30 - (S ++ (⟨[b].toArray⟩ : ByteArray)).size < 30 - S.size
        rw [ByteArray.size_append]
        show 30 - (S.size + 1) < _
        omega

set_option maxRecDepth 100000 in
set_option maxHeartbeats 1000000 in
theorem rprint_n1 (u q r : Nat) (H G : List UInt8) (hH : H = ((45 :: Lib.decDigits q) ++ [46])) (hq : u = q * 256 + r) (r9 : r < 256) (hn : 1 ≤ u) (hu : u ≤ 9223372036854775808) (hr : 0 < r) (hG : Lf r G) (hl : G.length ≤ 8) (w : World) :
    Calls Tryz.prog 24 #[.int .i64 (-(u : Int))] w fun e w' => e = .returned (.string ⟨(H ++ G).toArray⟩) ∧ ∃ x : Later w, w' = x.out := by
  have q9 : q < 18446744073709551616 := by omega
  
  obtain ⟨A, hA⟩ : ∃ A : ByteArray, A = ⟨(Lib.decDigits q).toArray⟩ := ⟨_, rfl⟩
  have hAs : A.size ≤ 20 := by rw [hA]; exact dec_size q q9
  have hc := fun v => rdigits_c q q9 v
  rw [← hA] at hc
  have HC := Lib.hid hc
  have H0 : (((⟨#[45]⟩ : ByteArray) ++ A) ++ ⟨#[46]⟩) = ⟨H.toArray⟩ := by
    rw [hA, hH]
    show ((⟨([45] : List UInt8).toArray⟩ : ByteArray) ++ (⟨(Lib.decDigits q).toArray⟩ : ByteArray)) ++ (⟨([46] : List UInt8).toArray⟩ : ByteArray) = _
    rw [ba_app, ba_app]; rfl
  have HH := Lib.hid H0
  have HA := Lib.hid hA
  have HG := Lib.hid hG
  have HHl : H.length ≤ 22 := by
    have : (Lib.decDigits q).length ≤ 20 := by have h := dec_size q q9; rw [ba_size] at h; exact h
    rw [hH]; simp; omega
  clear hc H0 hA hG hH
  have hd1 : (u : Int) / 256 = (q : Int) := by omega
  have hd2 : (u : Int) % 256 = (r : Int) := by omega
  have hd3 : (u : Int).tdiv 256 = (q : Int) := by rw [Int.tdiv_eq_ediv_of_nonneg (by omega)]; omega
  have hd4 : (u : Int).tmod 256 = (r : Int) := by rw [Int.tmod_eq_emod_of_nonneg (by omega)]; omega
  have hneg : decide ((-(u : Int)) < 0) = true := by simp; omega
  have hrp : decide ((0 : Int) < (r : Int)) = true := by simp; omega
  obtain ⟨U, hU⟩ : ∃ U : Int, U = 18446744073709551616 - (u : Int) := ⟨_, rfl⟩
  have hw1 : IntKind.u64.wrap (-(u : Int)) = U := by rw [IntKind.wrap_u64]; omega
  have hw2 : IntKind.u64.wrap (-U) = (u : Int) := by rw [IntKind.wrap_u64]; omega
  clear hU
  have HQ := Lib.hid hq
  clear hq
  go_enter Tryz.func24, Tryz.ntmps24
  go_wp2_with (go_at_call 43; (with_reducible refine (HC.out _).mono ?_); rintro e _ ⟨rfl, x, rfl⟩)
  rw [HH.out]
  go_loopw [3, 5] (fun sv lv wr => ∃ (dn rest : List UInt8) (left : Nat), dn ++ rest = G ∧ sv = .string ⟨(H ++ dn).toArray⟩ ∧ lv = .int .u64 left ∧ Lf left rest ∧ ∃ y : Later w, wr = y.out) (fun sv _ _ => 30 - strN sv)
  case atStart => exact ⟨[], G, r, rfl, by rw [List.append_nil], rfl, HG.out, x, rfl⟩
  case round =>
    obtain ⟨dn, rest, left, hdr, rfl, rfl, hL, y, rfl⟩ := hrel
    obtain ⟨S, hS⟩ : ∃ S : ByteArray, S = ⟨(H ++ dn).toArray⟩ := ⟨_, rfl⟩
    have hSs : S.size ≤ 30 := by
      rw [hS, ba_size, List.length_append]
      have := congrArg List.length hdr
      rw [List.length_append] at this
      omega
    rw [← hS]
    have HSx := Lib.hid hS
    clear hS
    cases rest with
    | nil =>
      have h0 := hL.nil
      subst h0
      have hz : decide ((0 : Int) < ((0 : Nat) : Int)) = false := by simp
      clear hL
      rw [List.append_nil] at hdr
      subst hdr
      go_wp2_with (fail)
      exact bodyPost_ret (v := .string S) (by simp [results, Tryz.results24, go_sem, *]) rfl ⟨by rw [HSx.out], y, rfl⟩
    | cons b rest =>
      obtain ⟨e1, hL2⟩ := hL.step
      have hp := hL.pos
      have hb : IsDg b := hL.2.2.1 b (List.mem_cons_self ..)
      have h256 := hL.1
      have hdb := dig_byte b hb
      obtain ⟨D, hD⟩ : ∃ D, D = b.toNat - 48 := ⟨_, rfl⟩
      rw [← hD] at e1 hdb
      have hD9 : D < 10 := by unfold IsDg at hb; omega
      obtain ⟨L2, hL2e⟩ : ∃ L2, L2 = left * 10 % 256 := ⟨_, rfl⟩
      rw [← hL2e] at hL2
      have HL2 := Lib.hid hL2
      have hc2 := fun v => rdigits_c D (by omega) v
      rw [hdb] at hc2
      have HC2 := Lib.hid hc2
      have hz : decide ((0 : Int) < (left : Int)) = true := by simp; exact hp
      have m1 : IntKind.u64.wrap ((left : Int) * 10) = (left : Int) * 10 := by rw [IntKind.wrap_u64]; omega
      have m2 : (left : Int) * 10 / 256 = (D : Int) := by omega
      have m3 : ((left : Int) * 10).tdiv 256 = (D : Int) := by rw [Int.tdiv_eq_ediv_of_nonneg (by omega)]; omega
      have m4 : (left : Int) * 10 % 256 = (L2 : Int) := by omega
      have m5 : ((left : Int) * 10).tmod 256 = (L2 : Int) := by rw [Int.tmod_eq_emod_of_nonneg (by omega)]; omega
      have HDR := Lib.hid hdr
      clear hL hL2 hc2 hdb hb hL2e hD hdr e1
      go_wp2_with (go_at_call 43; (with_reducible refine (HC2.out _).mono ?_); rintro e _ ⟨rfl, x2, rfl⟩)
      go_roundw
      case rel =>
        refine ⟨dn ++ [b], rest, L2, by rw [List.append_assoc]; exact HDR.out, ?_, rfl, HL2.out, ⟨x2.out, y.below.trans (x2.below.mono y.below.size)⟩, rfl⟩
        rw [HSx.out, ba_app, List.append_assoc]
      case measure =>
        have : S.size < 30 := by
          rw [HSx.out, ba_size, List.length_append]
          have := congrArg List.length HDR.out
          rw [List.length_append, List.length_cons] at this
          omega
        show 30 - (S ++ (⟨[b].toArray⟩ : ByteArray)).size < 30 - S.size
        rw [ByteArray.size_append]
        show 30 - (S.size + 1) < _
        omega

theorem rprint_l (n : Int) (n0 : -9223372036854775808 ≤ n) (n9 : n ≤ 9223372036854775807) (w : World) : Calls Tryz.prog 24 #[.int .i64 n] w fun e w' => e = .returned (.string ⟨(prn n).toArray⟩) ∧ ∃ x : Later w, w' = x.out := by
  by_cases h : n < 0
  · obtain ⟨u, rfl⟩ : ∃ u : Nat, n = -(u : Int) := ⟨n.natAbs, by omega⟩
    have e : prn (-(u : Int)) = 45 :: (Lib.decDigits (u / 256) ++ prF (u % 256)) := by unfold prn prU; rw [if_pos h]; simp
    rw [e]
    by_cases hr : u % 256 = 0
    · have hc := rprint_n0 u (u / 256) (u % 256) _ [] rfl (by omega) (by omega) (by omega) (by omega) hr ⟨by omega, by rw [hr]; rfl, by simp, by simp⟩ (by simp) w
      unfold prF
      rw [if_pos hr, List.append_nil]
      rw [List.append_nil] at hc
      exact hc
    · obtain ⟨G, e1, e2, e3⟩ := prF_Lf (u % 256) (by omega) (by omega)
      have hc := rprint_n1 u (u / 256) (u % 256) _ G rfl (by omega) (by omega) (by omega) (by omega) (by omega) e2 e3 w
      rw [e1]
      have e4 : (45 :: Lib.decDigits (u / 256) ++ [46]) ++ G = 45 :: (Lib.decDigits (u / 256) ++ 46 :: G) := by simp
      rw [e4] at hc
      exact hc
  · obtain ⟨u, rfl⟩ : ∃ u : Nat, n = (u : Int) := ⟨n.natAbs, by omega⟩
    have e : prn (u : Int) = Lib.decDigits (u / 256) ++ prF (u % 256) := by unfold prn prU; rw [if_neg h]; simp
    rw [e]
    by_cases hr : u % 256 = 0
    · have hc := rprint_p0 u (u / 256) (u % 256) _ [] rfl (by omega) (by omega) (by omega) hr ⟨by omega, by rw [hr]; rfl, by simp, by simp⟩ (by simp) w
      unfold prF
      rw [if_pos hr, List.append_nil]
      rw [List.append_nil] at hc
      exact hc
    · obtain ⟨G, e1, e2, e3⟩ := prF_Lf (u % 256) (by omega) (by omega)
      have hc := rprint_p1 u (u / 256) (u % 256) _ G rfl (by omega) (by omega) (by omega) (by omega) e2 e3 w
      rw [e1]
      have e4 : (Lib.decDigits (u / 256) ++ [46]) ++ G = Lib.decDigits (u / 256) ++ 46 :: G := by simp
      rw [e4] at hc
      exact hc
end Go.Proofs.YtjmagehfkcnjjaaGreatDoor
