/- math/bits.Div64: the long division. No condition. -/
import Derived.Test.YtdanjegnhdpnlaaGreatDoorDivQ
import Derived.Test.YtdanjegnhdpnlaaGreatDoorShelf
import Derived.Test.YtdanjegnhdpnlaaGreatDoorTail
namespace Go.Proofs.YtdanjegnhdpnlaaGreatDoor.kit
open Go.RowKit
set_option linter.unusedVariables false

set_option maxRecDepth 100000 in
set_option maxHeartbeats 1600000 in
theorem div64_low (lo y : Nat) (hl : lo < 18446744073709551616) (h0 : 0 < y) (hy : y < 18446744073709551616) (w : World) :
    Calls Tryz.prog 87 #[.int .u64 0, .int .u64 lo, .int .u64 y] w fun e w' => e = .returned (.tuple #[.int .u64 ((lo / y : Nat) : Int), .int .u64 ((lo % y : Nat) : Int)]) ∧ Below w.heap.size w w' := by
  have q0 : ((y : Int) == 0) = false := by simp; omega
  have q1 : ¬ (y : Int) ≤ 0 := by omega
  have hle : lo / y ≤ lo := Nat.div_le_self _ _
  have E1 : Hid (IntKind.u64.wrap ((lo : Int) / (y : Int)) = ((lo / y : Nat) : Int)) := Lib.hid (by
    rw [← Int.natCast_ediv]
    generalize lo / y = z at *
    rw [IntKind.wrap_u64]; omega)
  clear hle
  go_enter Tryz.func87, Tryz.ntmps87
  go_wp2_with fail
  go_quiet (fail)
  rw [E1.out]
  go_wp2_with fail
  go_ret2
  exact ⟨rfl, below_drewN (Below.refl _ _) _⟩

-- a way out of a loop's round: by the break, or round again
set_option maxRecDepth 100000 in
set_option maxHeartbeats 6400000 in
theorem div64_high (hi lo y : Nat) (hh : hi < y) (h0 : 0 < hi) (hl : lo < 18446744073709551616) (hy : y < 18446744073709551616) (w : World) :
    Calls Tryz.prog 87 #[.int .u64 hi, .int .u64 lo, .int .u64 y] w fun e w' => e = .returned (.tuple #[.int .u64 (((hi * 18446744073709551616 + lo) / y : Nat) : Int), .int .u64 (((hi * 18446744073709551616 + lo) % y : Nat) : Int)]) ∧ Below w.heap.size w w' := by
  have q0 : ((y : Int) == 0) = false := by simp; omega
  have q1 : ¬ (y : Int) ≤ (hi : Int) := by omega
  have q2 : ((hi : Int) == 0) = false := by simp; omega
  obtain ⟨s, hs, hs64, hs1, hs2⟩ := lead_zeros y (by omega) hy
  have HS := Lib.hid hs
  clear hs
  obtain ⟨Y, P, R, U, L, D1, D0, e1, e2, e3, e4, e5, e6, e7, hYP, hP0, hPB, hRB, hUY, hD1, hD0, hYs, hN⟩ := div_lay hi lo y s hh hl hs64 hs1 hs2
  have hxy : (hi * 18446744073709551616 + lo) / y < 18446744073709551616 := by
    rw [Nat.div_lt_iff_lt_mul (by omega)]
    have := Nat.mul_le_mul_left 18446744073709551616 hh
    omega
  obtain ⟨x, hx⟩ : ∃ x, hi * 18446744073709551616 + lo = x := ⟨_, rfl⟩
  rw [hx] at hxy hN ⊢
  have hY0 : 0 < Y := by omega
  have hYM : Y < 18446744073709551616 := by rw [hYs]; exact hs2
  obtain ⟨W, hW⟩ : ∃ v, (U * 4294967296 + D1) % Y = v := ⟨_, rfl⟩
  have hWY : W < Y := by rw [← hW]; exact Nat.mod_lt _ hY0
  have HEND : Hid (∀ q1 q0 : Int, q1 = (((U * 4294967296 + D1) / (P * 4294967296 + R) : Nat) : Int) → q0 = (((W * 4294967296 + D0) / (P * 4294967296 + R) : Nat) : Int) →
      IntKind.u64.wrap (IntKind.u64.wrap (q1 * 4294967296) + q0) = ((x / y : Nat) : Int) ∧ IntKind.u64.wrap (IntKind.u64.wrap (IntKind.u64.wrap ((W : Int) * 4294967296) + (D0 : Int)) - IntKind.u64.wrap (q0 * (Y : Int))) / 2 ^ s = ((x % y : Nat) : Int)) :=
    Lib.hid fun q1 q0 h1 h2 => div_end x y s Y (U * 4294967296 + D1) D0 hxy (by omega) hYs hYM hN (by rw [hW]) (by rw [h1, hYP]) (by rw [h2, hW, hYP]) rfl rfl
  have HUN : Hid (∀ qi : Int, qi = (((U * 4294967296 + D1) / (P * 4294967296 + R) : Nat) : Int) → IntKind.u64.wrap (IntKind.u64.wrap (IntKind.u64.wrap ((U : Int) * 4294967296) + (D1 : Int)) - IntKind.u64.wrap (qi * (Y : Int))) = (W : Int)) :=
    Lib.hid fun qi h => (un_next U D1 Y _ rfl hY0 hYM rfl rfl (by rw [h, hYP]) rfl).trans (by rw [hW])
  have HDS := Lib.hid (dg_start (U := U) (d := D1) (P := P) (R := R) hP0 hPB hD1 (by omega) (qi := (U : Int)) (Pi := (P : Int)) rfl rfl)
  have HDT := Lib.hid (dg_start (U := W) (d := D0) (P := P) (R := R) hP0 hPB hD0 (by omega) (qi := (W : Int)) (Pi := (P : Int)) rfl rfl)
  have HU := Lib.hid (show U < P * 4294967296 + R by rw [← hYP]; exact hUY)
  have HW := Lib.hid (show W < P * 4294967296 + R by rw [← hYP]; exact hWY)
  have HB := Lib.hid hD1
  have HB0 := Lib.hid hD0
  have hP0' : ¬ (P : Int) = 0 := by omega
  clear hx hN hs1 hs2 hxy hYM hY0 hYs hUY hYP hD1 hD0 hW hWY
  go_enter Tryz.func87, Tryz.ntmps87
  go_wp2_with fail
  refine (Tryz.bits_LeadingZeros64 y _ (by omega) (by omega)).mono ?_
  simp only [Int.toNat_natCast]
  rw [HS.out]
  rintro e w1 ⟨rfl, rfl⟩
  go_wp2_with fail
  go_loop [15, 16] (fun a b => ∃ qi ri : Int, a = .int .u64 qi ∧ b = .int .u64 ri ∧ Hid (Dg U D1 P R qi ri)) (fun _ b => 4294967296 - (intOf b).toNat)
  case atStart => exact ⟨_, _, rfl, rfl, HDS⟩
  case round =>
    obtain ⟨a, b, rfl, rfl, hd⟩ := hrel
    obtain ⟨hbd, hgo, hstop⟩ := dg_step (U := U) (d := D1) hP0 hPB hRB (HB.out) (HU.out) (Pi := (P : Int)) (Ri := (R : Int)) (di := (D1 : Int)) rfl rfl rfl hd.out
    obtain ⟨X, hX⟩ : ∃ z, IntKind.u64.wrap (a * (R : Int)) = z := ⟨_, rfl⟩
    obtain ⟨Z, hZ⟩ : ∃ z, IntKind.u64.wrap (4294967296 * b) = z := ⟨_, rfl⟩
    obtain ⟨V, hV⟩ : ∃ z, IntKind.u64.wrap (Z + (D1 : Int)) = z := ⟨_, rfl⟩
    obtain ⟨q', hq'⟩ : ∃ z, IntKind.u64.wrap (a - 1) = z := ⟨_, rfl⟩
    obtain ⟨r', hr'⟩ : ∃ z, IntKind.u64.wrap (b + (P : Int)) = z := ⟨_, rfl⟩
    rw [hZ, hV, hX, hq', hr'] at hgo
    rw [hZ, hV, hX] at hstop
    have HGO := Lib.hid hgo; have HST := Lib.hid hstop
    clear hgo hstop
    by_cases c1 : 4294967296 ≤ a
    · have b1 : decide ((4294967296 : Int) ≤ a) = true := decide_eq_true c1
      have HG := Lib.hid (HGO.out (.inl c1))
      clear c1
      by_cases c2 : 4294967296 ≤ r'
      · have b2 : decide ((4294967296 : Int) ≤ r') = true := decide_eq_true c2
        have E := Lib.hid (HG.out.2 c2)
        clear c2
        have eV := HUN.out q' E.out
        have HQ1 := E
        go_wp2_with fail
        go_loop [18, 16] (fun a b => ∃ qi ri : Int, a = .int .u64 qi ∧ b = .int .u64 ri ∧ Hid (Dg W D0 P R qi ri)) (fun _ b => 4294967296 - (intOf b).toNat)
        case atStart => exact ⟨_, _, rfl, rfl, HDT⟩
        case round =>
          obtain ⟨a, b, rfl, rfl, hd⟩ := hrel
          obtain ⟨hbd, hgo, hstop⟩ := dg_step (U := W) (d := D0) hP0 hPB hRB (HB0.out) (HW.out) (Pi := (P : Int)) (Ri := (R : Int)) (di := (D0 : Int)) rfl rfl rfl hd.out
          obtain ⟨X, hX⟩ : ∃ z, IntKind.u64.wrap (a * (R : Int)) = z := ⟨_, rfl⟩
          obtain ⟨Z, hZ⟩ : ∃ z, IntKind.u64.wrap (4294967296 * b) = z := ⟨_, rfl⟩
          obtain ⟨V, hV⟩ : ∃ z, IntKind.u64.wrap (Z + (D0 : Int)) = z := ⟨_, rfl⟩
          obtain ⟨q', hq'⟩ : ∃ z, IntKind.u64.wrap (a - 1) = z := ⟨_, rfl⟩
          obtain ⟨r', hr'⟩ : ∃ z, IntKind.u64.wrap (b + (P : Int)) = z := ⟨_, rfl⟩
          rw [hZ, hV, hX, hq', hr'] at hgo
          rw [hZ, hV, hX] at hstop
          have HGO := Lib.hid hgo; have HST := Lib.hid hstop
          clear hgo hstop
          by_cases c1 : 4294967296 ≤ a
          · have b1 : decide ((4294967296 : Int) ≤ a) = true := decide_eq_true c1
            have HG := Lib.hid (HGO.out (.inl c1))
            clear c1
            by_cases c2 : 4294967296 ≤ r'
            · have b2 : decide ((4294967296 : Int) ≤ r') = true := decide_eq_true c2
              have E := Lib.hid (HG.out.2 c2)
              clear c2
              obtain ⟨g1, g2⟩ := HEND.out _ q' HQ1.out E.out
              go_wp2_with fail
              go_ret2
              exact ⟨rfl, Below.refl _ _⟩
            · have b2 : decide ((4294967296 : Int) ≤ r') = false := decide_eq_false c2
              have E := Lib.hid (HG.out.1 c2)
              have c3 : r' < 4294967296 := by omega
              clear c2
              go_wp2_with fail
              go_round
              case rel => exact ⟨q', r', rfl, rfl, Lib.hid E.out.1⟩
              case measure => have := E.out.2; simp [intOf]; omega
          · have b1 : decide ((4294967296 : Int) ≤ a) = false := decide_eq_false c1
            by_cases c4 : V < X
            · have b4 : decide (V < X) = true := decide_eq_true c4
              have HG := Lib.hid (HGO.out (.inr c4))
              clear c1 c4
              by_cases c2 : 4294967296 ≤ r'
              · have b2 : decide ((4294967296 : Int) ≤ r') = true := decide_eq_true c2
                have E := Lib.hid (HG.out.2 c2)
                clear c2
                obtain ⟨g1, g2⟩ := HEND.out _ q' HQ1.out E.out
                go_wp2_with fail
                go_ret2
                exact ⟨rfl, Below.refl _ _⟩
              · have b2 : decide ((4294967296 : Int) ≤ r') = false := decide_eq_false c2
                have E := Lib.hid (HG.out.1 c2)
                have c3 : r' < 4294967296 := by omega
                clear c2
                go_wp2_with fail
                go_round
                case rel => exact ⟨q', r', rfl, rfl, Lib.hid E.out.1⟩
                case measure => have := E.out.2; simp [intOf]; omega
            · have b4 : decide (V < X) = false := decide_eq_false c4
              have E := Lib.hid (HST.out c1 c4)
              clear c1 c4
              obtain ⟨g1, g2⟩ := HEND.out _ a HQ1.out E.out
              go_wp2_with fail
              go_ret2
              exact ⟨rfl, Below.refl _ _⟩
      · have b2 : decide ((4294967296 : Int) ≤ r') = false := decide_eq_false c2
        have E := Lib.hid (HG.out.1 c2)
        have c3 : r' < 4294967296 := by omega
        clear c2
        go_wp2_with fail
        go_round
        case rel => exact ⟨q', r', rfl, rfl, Lib.hid E.out.1⟩
        case measure => have := E.out.2; simp [intOf]; omega
    · have b1 : decide ((4294967296 : Int) ≤ a) = false := decide_eq_false c1
      by_cases c4 : V < X
      · have b4 : decide (V < X) = true := decide_eq_true c4
        have HG := Lib.hid (HGO.out (.inr c4))
        clear c1 c4
        by_cases c2 : 4294967296 ≤ r'
        · have b2 : decide ((4294967296 : Int) ≤ r') = true := decide_eq_true c2
          have E := Lib.hid (HG.out.2 c2)
          clear c2
          have eV := HUN.out q' E.out
          have HQ1 := E
          go_wp2_with fail
          go_loop [18, 16] (fun a b => ∃ qi ri : Int, a = .int .u64 qi ∧ b = .int .u64 ri ∧ Hid (Dg W D0 P R qi ri)) (fun _ b => 4294967296 - (intOf b).toNat)
          case atStart => exact ⟨_, _, rfl, rfl, HDT⟩
          case round =>
            obtain ⟨a, b, rfl, rfl, hd⟩ := hrel
            obtain ⟨hbd, hgo, hstop⟩ := dg_step (U := W) (d := D0) hP0 hPB hRB (HB0.out) (HW.out) (Pi := (P : Int)) (Ri := (R : Int)) (di := (D0 : Int)) rfl rfl rfl hd.out
            obtain ⟨X, hX⟩ : ∃ z, IntKind.u64.wrap (a * (R : Int)) = z := ⟨_, rfl⟩
            obtain ⟨Z, hZ⟩ : ∃ z, IntKind.u64.wrap (4294967296 * b) = z := ⟨_, rfl⟩
            obtain ⟨V, hV⟩ : ∃ z, IntKind.u64.wrap (Z + (D0 : Int)) = z := ⟨_, rfl⟩
            obtain ⟨q', hq'⟩ : ∃ z, IntKind.u64.wrap (a - 1) = z := ⟨_, rfl⟩
            obtain ⟨r', hr'⟩ : ∃ z, IntKind.u64.wrap (b + (P : Int)) = z := ⟨_, rfl⟩
            rw [hZ, hV, hX, hq', hr'] at hgo
            rw [hZ, hV, hX] at hstop
            have HGO := Lib.hid hgo; have HST := Lib.hid hstop
            clear hgo hstop
            by_cases c1 : 4294967296 ≤ a
            · have b1 : decide ((4294967296 : Int) ≤ a) = true := decide_eq_true c1
              have HG := Lib.hid (HGO.out (.inl c1))
              clear c1
              by_cases c2 : 4294967296 ≤ r'
              · have b2 : decide ((4294967296 : Int) ≤ r') = true := decide_eq_true c2
                have E := Lib.hid (HG.out.2 c2)
                clear c2
                obtain ⟨g1, g2⟩ := HEND.out _ q' HQ1.out E.out
                go_wp2_with fail
                go_ret2
                exact ⟨rfl, Below.refl _ _⟩
              · have b2 : decide ((4294967296 : Int) ≤ r') = false := decide_eq_false c2
                have E := Lib.hid (HG.out.1 c2)
                have c3 : r' < 4294967296 := by omega
                clear c2
                go_wp2_with fail
                go_round
                case rel => exact ⟨q', r', rfl, rfl, Lib.hid E.out.1⟩
                case measure => have := E.out.2; simp [intOf]; omega
            · have b1 : decide ((4294967296 : Int) ≤ a) = false := decide_eq_false c1
              by_cases c4 : V < X
              · have b4 : decide (V < X) = true := decide_eq_true c4
                have HG := Lib.hid (HGO.out (.inr c4))
                clear c1 c4
                by_cases c2 : 4294967296 ≤ r'
                · have b2 : decide ((4294967296 : Int) ≤ r') = true := decide_eq_true c2
                  have E := Lib.hid (HG.out.2 c2)
                  clear c2
                  obtain ⟨g1, g2⟩ := HEND.out _ q' HQ1.out E.out
                  go_wp2_with fail
                  go_ret2
                  exact ⟨rfl, Below.refl _ _⟩
                · have b2 : decide ((4294967296 : Int) ≤ r') = false := decide_eq_false c2
                  have E := Lib.hid (HG.out.1 c2)
                  have c3 : r' < 4294967296 := by omega
                  clear c2
                  go_wp2_with fail
                  go_round
                  case rel => exact ⟨q', r', rfl, rfl, Lib.hid E.out.1⟩
                  case measure => have := E.out.2; simp [intOf]; omega
              · have b4 : decide (V < X) = false := decide_eq_false c4
                have E := Lib.hid (HST.out c1 c4)
                clear c1 c4
                obtain ⟨g1, g2⟩ := HEND.out _ a HQ1.out E.out
                go_wp2_with fail
                go_ret2
                exact ⟨rfl, Below.refl _ _⟩
        · have b2 : decide ((4294967296 : Int) ≤ r') = false := decide_eq_false c2
          have E := Lib.hid (HG.out.1 c2)
          have c3 : r' < 4294967296 := by omega
          clear c2
          go_wp2_with fail
          go_round
          case rel => exact ⟨q', r', rfl, rfl, Lib.hid E.out.1⟩
          case measure => have := E.out.2; simp [intOf]; omega
      · have b4 : decide (V < X) = false := decide_eq_false c4
        have E := Lib.hid (HST.out c1 c4)
        clear c1 c4
        have eV := HUN.out a E.out
        have HQ1 := E
        go_wp2_with fail
        go_loop [18, 16] (fun a b => ∃ qi ri : Int, a = .int .u64 qi ∧ b = .int .u64 ri ∧ Hid (Dg W D0 P R qi ri)) (fun _ b => 4294967296 - (intOf b).toNat)
        case atStart => exact ⟨_, _, rfl, rfl, HDT⟩
        case round =>
          obtain ⟨a, b, rfl, rfl, hd⟩ := hrel
          obtain ⟨hbd, hgo, hstop⟩ := dg_step (U := W) (d := D0) hP0 hPB hRB (HB0.out) (HW.out) (Pi := (P : Int)) (Ri := (R : Int)) (di := (D0 : Int)) rfl rfl rfl hd.out
          obtain ⟨X, hX⟩ : ∃ z, IntKind.u64.wrap (a * (R : Int)) = z := ⟨_, rfl⟩
          obtain ⟨Z, hZ⟩ : ∃ z, IntKind.u64.wrap (4294967296 * b) = z := ⟨_, rfl⟩
          obtain ⟨V, hV⟩ : ∃ z, IntKind.u64.wrap (Z + (D0 : Int)) = z := ⟨_, rfl⟩
          obtain ⟨q', hq'⟩ : ∃ z, IntKind.u64.wrap (a - 1) = z := ⟨_, rfl⟩
          obtain ⟨r', hr'⟩ : ∃ z, IntKind.u64.wrap (b + (P : Int)) = z := ⟨_, rfl⟩
          rw [hZ, hV, hX, hq', hr'] at hgo
          rw [hZ, hV, hX] at hstop
          have HGO := Lib.hid hgo; have HST := Lib.hid hstop
          clear hgo hstop
          by_cases c1 : 4294967296 ≤ a
          · have b1 : decide ((4294967296 : Int) ≤ a) = true := decide_eq_true c1
            have HG := Lib.hid (HGO.out (.inl c1))
            clear c1
            by_cases c2 : 4294967296 ≤ r'
            · have b2 : decide ((4294967296 : Int) ≤ r') = true := decide_eq_true c2
              have E := Lib.hid (HG.out.2 c2)
              clear c2
              obtain ⟨g1, g2⟩ := HEND.out _ q' HQ1.out E.out
              go_wp2_with fail
              go_ret2
              exact ⟨rfl, Below.refl _ _⟩
            · have b2 : decide ((4294967296 : Int) ≤ r') = false := decide_eq_false c2
              have E := Lib.hid (HG.out.1 c2)
              have c3 : r' < 4294967296 := by omega
              clear c2
              go_wp2_with fail
              go_round
              case rel => exact ⟨q', r', rfl, rfl, Lib.hid E.out.1⟩
              case measure => have := E.out.2; simp [intOf]; omega
          · have b1 : decide ((4294967296 : Int) ≤ a) = false := decide_eq_false c1
            by_cases c4 : V < X
            · have b4 : decide (V < X) = true := decide_eq_true c4
              have HG := Lib.hid (HGO.out (.inr c4))
              clear c1 c4
              by_cases c2 : 4294967296 ≤ r'
              · have b2 : decide ((4294967296 : Int) ≤ r') = true := decide_eq_true c2
                have E := Lib.hid (HG.out.2 c2)
                clear c2
                obtain ⟨g1, g2⟩ := HEND.out _ q' HQ1.out E.out
                go_wp2_with fail
                go_ret2
                exact ⟨rfl, Below.refl _ _⟩
              · have b2 : decide ((4294967296 : Int) ≤ r') = false := decide_eq_false c2
                have E := Lib.hid (HG.out.1 c2)
                have c3 : r' < 4294967296 := by omega
                clear c2
                go_wp2_with fail
                go_round
                case rel => exact ⟨q', r', rfl, rfl, Lib.hid E.out.1⟩
                case measure => have := E.out.2; simp [intOf]; omega
            · have b4 : decide (V < X) = false := decide_eq_false c4
              have E := Lib.hid (HST.out c1 c4)
              clear c1 c4
              obtain ⟨g1, g2⟩ := HEND.out _ a HQ1.out E.out
              go_wp2_with fail
              go_ret2
              exact ⟨rfl, Below.refl _ _⟩

theorem div64_any (hi lo y : Nat) (hh : hi < y) (hl : lo < 18446744073709551616) (hy : y < 18446744073709551616) (w : World) :
    Calls Tryz.prog 87 #[.int .u64 hi, .int .u64 lo, .int .u64 y] w fun e w' => e = .returned (.tuple #[.int .u64 (((hi * 18446744073709551616 + lo) / y : Nat) : Int), .int .u64 (((hi * 18446744073709551616 + lo) % y : Nat) : Int)]) ∧ Below w.heap.size w w' := by
  rcases Nat.eq_zero_or_pos hi with h | h
  · subst h
    rw [Nat.zero_mul, Nat.zero_add]
    exact div64_low lo y hl (by omega) hy w
  · exact div64_high hi lo y hh h hl hy w
end Go.Proofs.YtdanjegnhdpnlaaGreatDoor.kit
