/- The document's Mend; the same texts. No condition. -/
import Derived.Test.YtjemmddgeejffaaDoorMeC
namespace Go.Proofs.YtjemmddgeejffaaDoor.kit
open Go.RowKit Go.PlainAid
set_option linter.unusedVariables false

theorem try_one {s : ByteArray} {p : Nat} {c : Int} (hne : bt s p ≠ c) (hr : rightB (oneV s p c) = true) : tryV s p c = [oneV s p c] := by unfold tryV; rw [if_neg hne, if_pos hr]
theorem try_same {s : ByteArray} {p : Nat} {c : Int} (h : bt s p = c) : tryV s p c = [] := by unfold tryV; rw [if_pos h]
theorem try_wrong {s : ByteArray} {p : Nat} {c : Int} (h : rightB (oneV s p c) = false) : tryV s p c = [] := by unfold tryV; split; rfl; rw [h]; rfl
theorem ref_step (s : ByteArray) (p q : Nat) (hq : q < 75) : refN s (p * 75 + (q + 1)) = (tryV s p (48 + (q : Int))).foldl putS (refN s (p * 75 + q)) := by
  show refN s ((p * 75 + q) + 1) = _
  rw [refN, show (p * 75 + q) / 75 = p by omega, show (p * 75 + q) % 75 = q by omega]
/-- The document's list so far. -/
structure RefS (w : World) (s : ByteArray) (W : World) (j : Nat) (v : Value) (n : Nat) : Prop where
  at_ : ∃ A c, v = .slice A n c ∧ n ≤ c ∧ c ≤ maxLen ∧ SliceOf W 1 strC A n (refN s j)
  bel : Below w.heap.size w W
theorem RefS.below {w W W' : World} {s : ByteArray} {j n : Nat} {v : Value} (h : RefS w s W j v n) (hb : Below W.heap.size W W') : RefS w s W' j v n := by
  obtain ⟨A, c, h1, h2, h3, h4⟩ := h.at_
  exact ⟨⟨A, c, h1, h2, h3, h4.below hb⟩, h.bel.trans (hb.mono h.bel.size)⟩
set_option maxRecDepth 100000 in
set_option maxHeartbeats 3200000 in
theorem rmend_any (s : ByteArray) (w : World) (hs : s.size ≤ 200) :
    Calls Tryd.prog 25 #[.string s] w fun e w' => ∃ (A : Option Addr) (n c : Nat), e = .returned (.slice A n c) ∧ SliceOf w' 1 strC A n (mendV s) ∧ n ≤ 900 ∧ Below w.heap.size w w' := by
  by_cases hz : s.size = 12
  rotate_left
  · have h12' : ((s.size : Int) != 12) = true := by simp; omega
    have h12n : (s.size != 12) = true := by simp; omega
    have HE : Hid (mendV s = []) := Lib.hid (by unfold mendV; rw [if_neg hz])
    clear hz
    go_enter Tryd.func25, Tryd.ntmps25
    go_wp2_with fail
    go_ret
    exact ⟨_, 0, 0, rfl, by rw [HE.out]; exact ⟨rfl, .inl rfl⟩, by omega, one_alloc _ _⟩
  have hsz12 : (s.size : Int) = 12 := by omega
  have hI : RefS w s (w.alloc (.cells #[] 9)) (0 * 75) (.slice (some ⟨w.heap.size, 0, none⟩) 0 0) 0 := ⟨⟨_, 0, rfl, Nat.le_refl _, Nat.zero_le _, rfl, .inl rfl⟩, one_alloc _ _⟩
  have HI := Lib.hid hI
  have hb := get_bt s
  have h2 := conv1d
  clear hI
  go_enter Tryd.func25, Tryd.ntmps25
  go_wp2_with fail
  go_loopw [3, 4] (fun v i W => ∃ (p n : Nat), p ≤ 12 ∧ n ≤ p * 75 ∧ i = .int .i64 p ∧ Hid (RefS w s W (p * 75) v n)) (fun _ i _ => 12 - (intOf i).toNat)
  case atStart => exact ⟨0, 0, by omega, by omega, rfl, HI⟩
  case round =>
    obtain ⟨p, n, hp, hn, rfl, hm⟩ := hrel
    clear HI
    by_cases hlt : p < 12
    · have t1 : decide ((p : Int) < 12) = true := decide_eq_true (by omega)
      go_wp2_with fail
      go_loopw [3, 5] (fun v i W => ∃ (q n : Nat), q ≤ 75 ∧ n ≤ p * 75 + q ∧ i = .int .i64 (48 + (q : Int)) ∧ Hid (RefS w s W (p * 75 + q) v n)) (fun _ i _ => 123 - (intOf i).toNat)
      case atStart => exact ⟨0, n, by omega, by omega, rfl, hm⟩
      case round =>
        clear hm
        obtain ⟨q, n1, hq, hn1, rfl, hm1⟩ := hrel
        by_cases hlq : q < 75
        · have t2 : decide (48 + (q : Int) ≤ 122) = true := decide_eq_true (by omega)
          have HST := Lib.hid (ref_step s p q hlq)
          obtain ⟨C, hC⟩ : ∃ C : Int, 48 + (q : Int) = C := ⟨_, rfl⟩
          have hcb : 48 ≤ C ∧ C ≤ 122 := by omega
          have hwc : IntKind.u8.wrap C = C := IntWalk.u8_in _ (by omega)
          rw [hC] at t2 HST ⊢
          have k5 : (p : Int) ≤ 12 := by omega
          have k3 : (0 : Int) ≤ (p : Int) := by omega
          have k4 : (p : Int) + 1 ≤ 12 := by omega
          have e1 : ((p : Int) + 1).toNat = p + 1 := by omega
          obtain ⟨T, hT⟩ : ∃ T, oneV s p C = T := ⟨_, rfl⟩
          have HS : Hid (s.extract 0 p ++ (⟨#[UInt8.ofNat C.toNat]⟩ : ByteArray) ++ s.extract (p + 1) 12 = T) := Lib.hid (by rw [← hT]; unfold oneV; rw [hz])
          have HZT : Hid (T.size = 12) := Lib.hid (by rw [← hT]; exact one_size hz (by omega))
          have HSM : Hid (T = s ↔ bt s p = C) := Lib.hid (by rw [← hT]; exact one_same hz (by omega) ⟨by omega, by omega⟩)
          go_wp2_with fail
          go_region
          rw [HS.out]
          have HM2 := Lib.hid (hm1.out.below (below_drewN (one_alloc wr (.cells #[.int .u8 C] 5)) 1))
          obtain ⟨A2, c2, rfl, r1, r2, r3⟩ := HM2.out.at_
          have HR2 := Lib.hid r2
          have HR3 := Lib.hid r3
          have HB2 := Lib.hid HM2.out.bel
          clear r2 r3 hm1
          have q1 := eq_str T s
          by_cases hTs : T = s
          · have d1 : (T.toList == s.toList) = true := by rw [q1]; exact decide_eq_true hTs
            have d2 : (T.toList != s.toList) = false := by rw [bne, q1, decide_eq_true hTs]; rfl
            have HE : Hid (refN s (p * 75 + (q + 1)) = refN s (p * 75 + q)) := Lib.hid (by rw [HST.out, try_same (HSM.out.1 hTs)]; rfl)
            clear q1 hTs
            go_wp2_with fail
            exact ⟨⟨q + 1, n1, by omega, by omega, by rw [← hC]; go_num, Lib.hid ⟨⟨A2, c2, rfl, r1, HR2.out, by rw [HE.out]; exact HR3.out⟩, HB2.out⟩⟩, by simp [intOf]; omega⟩
          · have d1 : (T.toList == s.toList) = false := by rw [q1]; exact decide_eq_false hTs
            have d2 : (T.toList != s.toList) = true := by rw [bne, q1, decide_eq_false hTs]; rfl
            have HNE : Hid (bt s p ≠ C) := Lib.hid (fun e => hTs (HSM.out.2 e))
            have HRR := Lib.hid (fun w => rright_any T w (by unfold maxLen; have := HZT.out; omega))
            clear q1 hTs
            cases hr : rightB T
            · have HE : Hid (refN s (p * 75 + (q + 1)) = refN s (p * 75 + q)) := Lib.hid (by rw [HST.out, try_wrong (by rw [hT]; exact hr)]; rfl)
              rw [hr] at HRR
              clear hr
              go_wp2_with fail
              refine (HRR.out _).mono ?_
              rintro e w4 ⟨rfl, hb4⟩
              have HR4 := Lib.hid (HR3.out.below hb4)
              have HB4 := Lib.hid (HB2.out.trans (hb4.mono HB2.out.size))
              clear hb4
              go_wp2_with fail
              exact ⟨⟨q + 1, n1, by omega, by omega, by rw [← hC]; go_num, Lib.hid ⟨⟨A2, c2, rfl, r1, HR2.out, by rw [HE.out]; exact HR4.out⟩, HB4.out⟩⟩, by simp [intOf]; omega⟩
            · have HE : Hid (refN s (p * 75 + (q + 1)) = putS (refN s (p * 75 + q)) T) := Lib.hid (by rw [HST.out, try_one HNE.out (by rw [hT]; exact hr), hT]; rfl)
              have HNW : Hid (T ∉ refN s (p * 75 + q)) := Lib.hid (by
                have h := ref_new (s := s) hz (n := p * 75 + q) (by omega)
                rw [show (p * 75 + q) / 75 = p by omega, show (p * 75 + q) % 75 = q by omega, hC, hT] at h
                exact h HNE.out)
              rw [hr] at HRR
              clear hr
              go_wp2_with fail
              refine (HRR.out _).mono ?_
              rintro e w4 ⟨rfl, hb4⟩
              have HR4 := Lib.hid (HR3.out.below hb4)
              have HB4 := Lib.hid (HB2.out.trans (hb4.mono HB2.out.size))
              clear hb4
              go_wp2_with fail
              refine (rput_any A2 n1 c2 (refN s (p * 75 + q)) T w4 HR4.out (by omega) r1 HR2.out HNW.out).mono ?_
              rintro e w5 ⟨v, rfl, A5, c5, rfl, u1, u2, u3, u4⟩
              have HU2 := Lib.hid u2
              have HU3 := Lib.hid u3
              have HU4 := Lib.hid (HB4.out.trans (u4.mono HB4.out.size))
              clear u2 u3 u4
              go_wp2_with fail
              exact ⟨⟨q + 1, n1 + 1, by omega, by omega, by rw [← hC]; go_num, Lib.hid ⟨⟨A5, c5, rfl, u1, HU2.out, by rw [HE.out]; exact HU3.out⟩, HU4.out⟩⟩, by simp [intOf]; omega⟩
        · have hq75 : q = 75 := by omega
          subst hq75
          go_wp2_with fail
          exact ⟨⟨p + 1, n1, by omega, by omega, by go_num, by rw [show (p + 1) * 75 = p * 75 + 75 by omega]; exact hm1⟩, by simp [intOf]; omega⟩
    · have hp12 : p = 12 := by omega
      subst hp12
      obtain ⟨A2, c2, rfl, r1, r2, r3⟩ := hm.out.at_
      have HR3 := Lib.hid r3
      have HM := hm
      clear r2 r3 hm
      go_wp2_with fail
      go_ret
      exact ⟨A2, n, c2, rfl, by rw [mend_of hz]; exact HR3.out, by omega, HM.out.bel⟩
set_option maxHeartbeats 1600000 in
theorem same_any (A : Option Addr) (n c : Nat) (xs : List ByteArray) (A2 : Option Addr) (n2 c2 : Nat) (w : World)
    (h1 : SliceOf w 1 strC A n xs) (h2 : SliceOf w 1 strC A2 n2 xs) (m1 : n ≤ maxLen) (m2 : n2 ≤ maxLen) :
    Calls Tryd.prog 24 #[.slice A n c, .slice A2 n2 c2] w fun e w' => e = .returned (.bool true) ∧ Below w.heap.size w w' := by
  have H1 := Lib.hid h1
  have H2 := Lib.hid h2
  have l1 := h1.len
  have l2 := h2.len
  have hn : n2 = n := by omega
  subst hn
  unfold maxLen at m1 m2
  clear h1 h2
  go_enter Tryd.func24, Tryd.ntmps24
  go_wp2_with fail
  go_loopw [5] (fun i wr => ∃ k q : Nat, k ≤ n2 ∧ i = .int .i64 k ∧ wr = w.drewN q) (fun i _ => n2 - (intOf i).toNat)
  case atStart => exact ⟨0, 0, by omega, rfl, rfl⟩
  case round =>
    obtain ⟨k, q, hk, rfl, rfl⟩ := hrel
    by_cases hlt : k < n2
    · obtain ⟨b, off, x, rfl, hx, c0⟩ := get_str H1.out hlt
      obtain ⟨b', off', y, rfl, hy, c1⟩ := get_str H2.out hlt
      have hxy : x = y := Option.some.inj (hx.symm.trans hy)
      subst hxy
      have d1 : (x.toList == x.toList) = true := by rw [eq_str]; exact decide_eq_true rfl
      have d2 : (x.toList != x.toList) = false := by rw [bne, d1]; rfl
      clear hx hy
      go_wp2_with fail
      go_quiet (fail)
      go_wp2_with fail
      go_round
      case rel => exact ⟨k + 1, q + nq, by omega, by go_num, by simp [World.drewN]⟩
      case measure => simp [intOf]; omega
    · go_wp2_with fail
      go_ret
      exact ⟨rfl, below_drewN (Below.refl _ _) _⟩
end Go.Proofs.YtjemmddgeejffaaDoor.kit
