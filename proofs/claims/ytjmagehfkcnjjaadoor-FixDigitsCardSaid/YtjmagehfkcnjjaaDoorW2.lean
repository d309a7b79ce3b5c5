/-
  The contracts of products and quotients of wide numbers.
-/
import Derived.Test.YtjmagehfkcnjjaaDoorW1
import Derived.Test.YtjmagehfkcnjjaaDoorWideP3
import Derived.Test.YtjmagehfkcnjjaaDoorShelf
import Derived.Deep.DeepCutAuto
import Derived.Deep.CutBlock
namespace Go.Proofs.YtjmagehfkcnjjaaDoor
set_option linter.unusedVariables false
open Go.RowKit


set_option maxHeartbeats 1000000 in
theorem div64_small (lo y : Int) (w : World) (h0 : 0 ≤ lo) (h1 : lo ≤ 18446744073709551615) (y0 : 1 ≤ y) (y1 : y ≤ 18446744073709551615) :
    Calls Tryd.prog 82 #[.int .u64 0, .int .u64 lo, .int .u64 y] w fun e w' => e = .returned (.tuple #[.int .u64 (lo / y), .int .u64 (lo % y)]) ∧ ∃ x : Later w, w' = x.out := by
  go_enter Tryd.func82, Tryd.ntmps82
  go_wp2_with (fail)
  refine wp_region_later (by kernel_rfl) (by kernel_rfl) ?_
  repeat (go_big_quiet_step ((first | fail)))
  refine wpQuiet_nil ?_
  intro x
  go_wp2
  go_ret2
  exact ⟨rfl, (Later.mk_of (by repeat (first | (with_reducible assumption) | (with_reducible exact Below.refl _ _) | (with_reducible refine Later.after ?_ _) | (with_reducible refine Later.newer ?_ _) | (with_reducible refine Below.drew ?_) | (with_reducible refine Below.setCell ?_ (by first | exact Nat.le_refl _ | exact Nat.le_add_right _ _ | omega | (simp [go_sem]; done) | (simp [go_sem]; omega)) _))))⟩



set_option maxHeartbeats 1000000 in
theorem div64_walk (s : Nat) (hi lo y Y U L h l d1 d0 V R : Int) (w : World) (g0 : 1 ≤ hi) (g1 : hi < y) (h0 : 0 ≤ lo) (h1 : lo ≤ 18446744073709551615) (y1 : y ≤ 18446744073709551615)
    (hlz : ∀ w', Calls Tryd.prog 106 #[.int .u64 y] w' fun e w'' => e = .returned (.int .i64 (s : Int)) ∧ w' = w'') (hs : s ≤ 63)
    (e1 : IntKind.u64.wrap (y * 2 ^ s) = Y) (e2 : Y / 4294967296 = h) (e3 : bits .and .u64 Y 4294967295 = l) (hh1 : 2147483648 ≤ h) (hh2 : h ≤ 4294967295) (hl0 : 0 ≤ l) (hl1 : l ≤ 4294967295)
    (e4 : bits .or .u64 (IntKind.u64.wrap (hi * 2 ^ s)) (lo / 2 ^ (64 - s)) = U) (e5 : IntKind.u64.wrap (lo * 2 ^ s) = L) (e6 : L / 4294967296 = d1) (e7 : bits .and .u64 L 4294967295 = d0)
    (hU0 : 0 ≤ U) (hU1 : U ≤ 18446744073709551615) (hq0 : 0 ≤ U / h) (hq1 : U / h ≤ 4294967297) (hqh : 0 ≤ U / h * h ∧ U / h * h ≤ U) (DG : Hid (Digit U d1 h l)) (GF : Hid (Guess U d1 h l (U / h) (U - U / h * h))) (hd0 : 0 ≤ d1) (hd1 : d1 ≤ 4294967295)
    (hY : 0 ≤ Y ∧ Y ≤ 18446744073709551615) (DV : Hid (V = U * 4294967296 + d1 - dig U d1 h l * Y)) (hV0 : 0 ≤ V) (hV1 : V < Y) (DG2 : Hid (Digit V d0 h l)) (GF2 : Hid (Guess V d0 h l (V / h) (V - V / h * h))) (he0 : 0 ≤ d0) (he1 : d0 ≤ 4294967295)
    (hv0 : 0 ≤ V / h) (hv1 : V / h ≤ 4294967297) (hvh : 0 ≤ V / h * h ∧ V / h * h ≤ V) (DR : Hid (R = V * 4294967296 + d0 - dig V d0 h l * Y)) (hR0 : 0 ≤ R) (hR1 : R < Y)
    (HF : Hid ((hi * 18446744073709551616 + lo) / y = dig U d1 h l * 4294967296 + dig V d0 h l)) (HM : Hid ((hi * 18446744073709551616 + lo) % y = R / 2 ^ s)) :
    Calls Tryd.prog 82 #[.int .u64 hi, .int .u64 lo, .int .u64 y] w fun e w' => e = .returned (.tuple #[.int .u64 ((hi * 18446744073709551616 + lo) / y), .int .u64 ((hi * 18446744073709551616 + lo) % y)]) ∧ ∃ x : Later w, w' = x.out := by
  have hm1 : min s 64 = s := by omega
  obtain ⟨hqh1, hqh2⟩ := hqh
  have HLZ := Lib.hid hlz
  clear hlz
  go_enter Tryd.func82, Tryd.ntmps82
  go_upto_block 0 with (go_at_call 106; refine (HLZ.out _).mono ?_; rintro e _ ⟨rfl, rfl⟩)
  go_cut [15] (fun x wx => ∃ a : Int, x = .int .u64 a ∧ a = dig U d1 h l ∧ w = wx)
  case first =>
    go_wp2_with fail
    
    go_loop [15, 16] (fun x y => ∃ a b : Int, x = .int .u64 a ∧ y = .int .u64 b ∧ 0 ≤ a ∧ Guess U d1 h l a b) (fun x _ => (intOf x).toNat)
    case atStart => exact ⟨_, _, rfl, rfl, by omega, GF.out⟩
    case round =>
      obtain ⟨a, b, rfl, rfl, a0, g⟩ := hrel
      have b0 := g.r0
      have b1 := g.rB
      have a1 := g.qB
      have t := dig_lt DG.out
      by_cases hc : 4294967296 ≤ a
      · have ap : 1 ≤ a := by omega
        have hn : 4294967296 ≤ a ∨ 4294967296 * b + d1 < a * l := .inl hc
        have o := over_of DG.out g hn
        by_cases hr : 4294967296 ≤ b + h
        · have e := Lib.hid (guess_break DG.out g hn hr)
          go_wp2
          go_meet
          exact ⟨a - 1, rfl, e.out, rfl⟩
        · have e := guess_next DG.out g hn (by omega)
          go_wp2
          go_round
          case rel => exact ⟨a - 1, b + h, rfl, rfl, by omega, e⟩
          case measure => simp [intOf]; omega
      · have p0 : 0 ≤ a * l := Int.mul_nonneg a0 hl0
        have p1 : a * l ≤ 4294967295 * 4294967295 := Int.mul_le_mul (by omega) hl1 hl0 (by omega)
        by_cases hc2 : 4294967296 * b + d1 < a * l
        · have hn : 4294967296 ≤ a ∨ 4294967296 * b + d1 < a * l := .inr hc2
          have o := over_of DG.out g hn
          have ap : 1 ≤ a := by omega
          by_cases hr : 4294967296 ≤ b + h
          · have e := Lib.hid (guess_break DG.out g hn hr)
            go_wp2
            go_meet
            exact ⟨a - 1, rfl, e.out, rfl⟩
          · have e := guess_next DG.out g hn (by omega)
            go_wp2
            go_round
            case rel => exact ⟨a - 1, b + h, rfl, rfl, by omega, e⟩
            case measure => simp [intOf]; omega
        · have e := Lib.hid (guess_end DG.out g (by omega) (by omega))
          go_wp2
          go_meet
          exact ⟨a, rfl, e.out, rfl⟩
  case rest =>
    obtain ⟨hY0, hY1⟩ := hY
    obtain ⟨hvh1, hvh2⟩ := hvh
    obtain ⟨q1, rfl, hq, rfl⟩ := hcut
    have t1 := dig_lt DG.out
    have b1 : 0 ≤ q1 := by omega
    have b2 : q1 ≤ 4294967295 := by omega
    have e9 : IntKind.u64.wrap (IntKind.u64.wrap (IntKind.u64.wrap (U * 4294967296) + d1) - IntKind.u64.wrap (q1 * Y)) = V := by
      rw [DV.out, ← hq]
      rw [DV.out, ← hq] at hV0 hV1
      clear t1
      simp only [IntKind.wrap_u64]
      generalize q1 * Y = p at *
      omega
    have HQ := Lib.hid hq
    clear hq t1
    go_upto_block 2 with fail
    go_cut [18] (fun x wx => ∃ a : Int, x = .int .u64 a ∧ a = dig V d0 h l ∧ w = wx)
    case first =>
      go_wp2_with fail
  
      go_loop [18, 16] (fun x y => ∃ a b : Int, x = .int .u64 a ∧ y = .int .u64 b ∧ 0 ≤ a ∧ Guess V d0 h l a b) (fun x _ => (intOf x).toNat)
      case atStart => exact ⟨_, _, rfl, rfl, by omega, GF2.out⟩
      case round =>
        obtain ⟨a, b, rfl, rfl, a0, g⟩ := hrel
        have b0 := g.r0
        have b1 := g.rB
        have a1 := g.qB
        have t := dig_lt DG2.out
        by_cases hc : 4294967296 ≤ a
        · have ap : 1 ≤ a := by omega
          have hn : 4294967296 ≤ a ∨ 4294967296 * b + d0 < a * l := .inl hc
          have o := over_of DG2.out g hn
          by_cases hr : 4294967296 ≤ b + h
          · have e := Lib.hid (guess_break DG2.out g hn hr)
            go_wp2
            go_meet
            exact ⟨a - 1, rfl, e.out, rfl⟩
          · have e := guess_next DG2.out g hn (by omega)
            go_wp2
            go_round
            case rel => exact ⟨a - 1, b + h, rfl, rfl, by omega, e⟩
            case measure => simp [intOf]; omega
        · have p0 : 0 ≤ a * l := Int.mul_nonneg a0 hl0
          have p1 : a * l ≤ 4294967295 * 4294967295 := Int.mul_le_mul (by omega) hl1 hl0 (by omega)
          by_cases hc2 : 4294967296 * b + d0 < a * l
          · have hn : 4294967296 ≤ a ∨ 4294967296 * b + d0 < a * l := .inr hc2
            have o := over_of DG2.out g hn
            have ap : 1 ≤ a := by omega
            by_cases hr : 4294967296 ≤ b + h
            · have e := Lib.hid (guess_break DG2.out g hn hr)
              go_wp2
              go_meet
              exact ⟨a - 1, rfl, e.out, rfl⟩
            · have e := guess_next DG2.out g hn (by omega)
              go_wp2
              go_round
              case rel => exact ⟨a - 1, b + h, rfl, rfl, by omega, e⟩
              case measure => simp [intOf]; omega
          · have e := Lib.hid (guess_end DG2.out g (by omega) (by omega))
            go_wp2
            go_meet
            exact ⟨a, rfl, e.out, rfl⟩
    case rest =>
      obtain ⟨q0, rfl, hq, rfl⟩ := hcut
      have t2 := dig_lt DG2.out
      have b3 : 0 ≤ q0 := by omega
      have b4 : q0 ≤ 4294967295 := by omega
      have e10 : IntKind.u64.wrap (IntKind.u64.wrap (IntKind.u64.wrap (V * 4294967296) + d0) - IntKind.u64.wrap (q0 * Y)) = R := by
        rw [DR.out, ← hq]
        rw [DR.out, ← hq] at hR0 hR1
        clear t2 e9
        simp only [IntKind.wrap_u64]
        generalize q0 * Y = p at *
        omega
      have HQ0 := Lib.hid hq
      clear hq t2
      go_wp2
      go_ret2
      refine ⟨?_, (Later.mk_of (by repeat (first | (with_reducible assumption) | (with_reducible exact Below.refl _ _) | (with_reducible refine Later.after ?_ _) | (with_reducible refine Later.newer ?_ _) | (with_reducible refine Below.drew ?_) | (with_reducible refine Below.setCell ?_ (by first | exact Nat.le_refl _ | exact Nat.le_add_right _ _ | omega | (simp [go_sem]; done) | (simp [go_sem]; omega)) _))))⟩
      rw [HF.out, HM.out, ← HQ.out, ← HQ0.out]
      rfl

theorem div64_great (hi lo y : Int) (w : World) (g0 : 1 ≤ hi) (g1 : hi < y) (h0 : 0 ≤ lo) (h1 : lo ≤ 18446744073709551615) (y1 : y ≤ 18446744073709551615) :
    Calls Tryd.prog 82 #[.int .u64 hi, .int .u64 lo, .int .u64 y] w fun e w' => e = .returned (.tuple #[.int .u64 ((hi * 18446744073709551616 + lo) / y), .int .u64 ((hi * 18446744073709551616 + lo) % y)]) ∧ ∃ x : Later w, w' = x.out := by
  obtain ⟨HI, rfl⟩ := Int.eq_ofNat_of_zero_le (show 0 ≤ hi by omega)
  obtain ⟨LO, rfl⟩ := Int.eq_ofNat_of_zero_le h0
  obtain ⟨Y0, rfl⟩ := Int.eq_ofNat_of_zero_le (show 0 ≤ y by omega)
  obtain ⟨s, hs, es, hl, hb0, hb1⟩ := shift_is Y0 (by omega) (by omega)
  have hsh := shifted HI LO s hs
  have hlt : HI * 2 ^ s + 2 ^ s ≤ Y0 * 2 ^ s := by
    have := Nat.mul_le_mul_right (2 ^ s) (show HI + 1 ≤ Y0 by omega)
    rwa [Nat.add_mul, Nat.one_mul] at this
  have e1 : (2 : Nat) ^ (64 - s) * 2 ^ s = 18446744073709551616 := by rw [← Nat.pow_add, show 64 - s + s = 64 by omega]
  have hlo : LO / 2 ^ (64 - s) < 2 ^ s := by
    rw [Nat.div_lt_iff_lt_mul (Nat.two_pow_pos _), Nat.mul_comm, e1]
    omega
  have hor := or_parts HI LO s hs (by omega) (by omega)
  have hp : (0 : Int) < ((2 ^ s : Nat) : Int) := by have := Nat.two_pow_pos s; omega
  have c1 : ((Y0 : Int) * 2 ^ s) = ((Y0 * 2 ^ s : Nat) : Int) := by rw [Int.natCast_mul, Int.natCast_pow]; rfl
  have c2 : ((HI : Int) * 2 ^ s) = ((HI * 2 ^ s : Nat) : Int) := by rw [Int.natCast_mul, Int.natCast_pow]; rfl
  have c3 : ((LO : Int) * 2 ^ s) = ((LO * 2 ^ s : Nat) : Int) := by rw [Int.natCast_mul, Int.natCast_pow]; rfl
  have c4 : ((LO : Int) / 2 ^ (64 - s)) = ((LO / 2 ^ (64 - s) : Nat) : Int) := by rw [Int.natCast_ediv, Int.natCast_pow]; rfl
  have c5 : ((2 : Int) ^ s) = ((2 ^ s : Nat) : Int) := by rw [Int.natCast_pow]; rfl
  have hYc : ((Y0 * 2 ^ s : Nat) : Int) = (Y0 : Int) * ((2 ^ s : Nat) : Int) := Int.natCast_mul _ _
  have hN : ((HI : Int) * 18446744073709551616 + LO) * ((2 ^ s : Nat) : Int) = ((HI * 2 ^ s + LO / 2 ^ (64 - s) : Nat) : Int) * 18446744073709551616 + ((LO * 2 ^ s % 18446744073709551616 : Nat) : Int) := by
    have := congrArg (fun n : Nat => (n : Int)) hsh
    simp only [Int.natCast_add, Int.natCast_mul] at this ⊢
    exact this.symm
  have l0 := Nat.mod_lt (LO * 2 ^ s) (show 0 < 18446744073709551616 by omega)
  have hu : HI * 2 ^ s + LO / 2 ^ (64 - s) < Y0 * 2 ^ s := by omega
  clear hsh hlt e1 hlo
  generalize Y0 * 2 ^ s = Y at *
  generalize HI * 2 ^ s + LO / 2 ^ (64 - s) = U at *
  generalize hLg : LO * 2 ^ s % 18446744073709551616 = L at *
  have e4 : bits .or .u64 (IntKind.u64.wrap ((HI : Int) * 2 ^ s)) ((LO : Int) / 2 ^ (64 - s)) = (U : Int) := by
    have hle : HI * 2 ^ s < 18446744073709551616 := by
      have := Nat.mul_le_mul_right (2 ^ s) (show HI ≤ Y0 by omega)
      omega
    rw [c2, c4, IntWalk.u64_in _ (by omega), hor]
  clear hor
  have D1 : Digit (U : Int) ((L : Int) / 4294967296) ((Y : Int) / 4294967296) ((Y : Int) % 4294967296) := ⟨by omega, by omega, by omega, by omega, by omega, by omega, by omega, by omega⟩
  have hYY : (Y : Int) / 4294967296 * 4294967296 + (Y : Int) % 4294967296 = Y := by omega
  have r1 := digit_rest D1
  rw [hYY] at r1
  generalize hV : (U : Int) * 4294967296 + (L : Int) / 4294967296 - dig (U : Int) ((L : Int) / 4294967296) ((Y : Int) / 4294967296) ((Y : Int) % 4294967296) * Y = V at r1
  have D2 : Digit V ((L : Int) % 4294967296) ((Y : Int) / 4294967296) ((Y : Int) % 4294967296) := ⟨by omega, by omega, by omega, by omega, by omega, by omega, by omega, by omega⟩
  have r2 := digit_rest D2
  rw [hYY] at r2
  generalize hR : V * 4294967296 + (L : Int) % 4294967296 - dig V ((L : Int) % 4294967296) ((Y : Int) / 4294967296) ((Y : Int) % 4294967296) * Y = R at r2
  have G1 := guess_first D1
  have G2 := guess_first D2
  have fin := quo_of _ (Y0 : Int) ((2 ^ s : Nat) : Int) (Y : Int) U L _ _ V R _ _ hp hN hYc (show (L : Int) = (L : Int) / 4294967296 * 4294967296 + (L : Int) % 4294967296 by omega) hV.symm hR.symm r2.1 r2.2
  rw [← c5] at fin
  have hlz : ∀ w', Calls Tryd.prog 106 #[.int .u64 (Y0 : Int)] w' fun e w'' => e = .returned (.int .i64 (s : Int)) ∧ w' = w'' := fun w' =>
    (Tryd.bits_LeadingZeros64 (Y0 : Int) w' (by omega) (by omega)).mono fun e w'' ⟨he, hw⟩ => ⟨by
      rw [he]
      refine congrArg Ending.returned (congrArg (Value.int IntKind.i64) ?_)
      simp only [Int.toNat_natCast]
      omega, hw.symm⟩
  refine div64_walk s _ _ _ Y U L _ _ _ _ V R w g0 g1 (by omega) h1 y1 hlz hs ?_ rfl (mask_is _ (by omega) (by omega)) (by omega) (by omega) (by omega) (by omega) e4 ?_ rfl (mask_is _ (by omega) (by omega)) (by omega) (by omega)
    (Int.ediv_nonneg (by omega) (by omega)) G1.qB ?_ (Lib.hid D1) (Lib.hid G1) (by omega) (by omega) (by omega) (Lib.hid hV.symm) r1.1 r1.2 (Lib.hid D2) (Lib.hid G2) (by omega) (by omega)
    (Int.ediv_nonneg (by omega) (by omega)) G2.qB ?_ (Lib.hid hR.symm) r2.1 r2.2 (Lib.hid fin.1) (Lib.hid fin.2)
  · rw [c1, IntWalk.u64_in _ (by omega)]
  · rw [c3, IntKind.wrap_u64, ← hLg]; omega
  · have := G1.r0; exact ⟨Int.mul_nonneg (Int.ediv_nonneg (by omega) (by omega)) (by omega), by omega⟩
  · have := G2.r0; exact ⟨Int.mul_nonneg (Int.ediv_nonneg (by omega) (by omega)) (by omega), by omega⟩

/-- math/bits.Div64, for a divisor above the upper half -/
theorem div64_c (hi lo y : Int) (w : World) (g0 : 0 ≤ hi) (g1 : hi < y) (h0 : 0 ≤ lo) (h1 : lo ≤ 18446744073709551615) (y1 : y ≤ 18446744073709551615) :
    Calls Tryd.prog 82 #[.int .u64 hi, .int .u64 lo, .int .u64 y] w fun e w' => e = .returned (.tuple #[.int .u64 ((hi * 18446744073709551616 + lo) / y), .int .u64 ((hi * 18446744073709551616 + lo) % y)]) ∧ ∃ x : Later w, w' = x.out := by
  by_cases h : hi = 0
  · subst h
    have := div64_small lo y w h0 h1 (by omega) y1
    rwa [show (0 : Int) * 18446744073709551616 + lo = lo by omega]
  · exact div64_great hi lo y w (by omega) g1 h0 h1 y1
end Go.Proofs.YtjmagehfkcnjjaaDoor
