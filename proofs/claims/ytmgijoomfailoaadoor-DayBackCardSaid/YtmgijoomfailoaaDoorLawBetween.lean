/- DayBetween: the law. Conditions: the tables of powers of ten and of the months. -/
import Derived.Test.YtmgijoomfailoaaDoorDyF
import Derived.Test.YtmgijoomfailoaaDoorDyS
namespace Go.Proofs.YtmgijoomfailoaaDoor
open Go.RowKit Go.Proofs.YtmgijoomfailoaaDoor.kit Go.Proofs.YtmgijoomfailoaaDoor.cal
set_option linter.unusedVariables false

set_option maxRecDepth 100000 in
set_option maxHeartbeats 1600000 in
theorem rbetween_any (c : Cal) (A1 : Option Addr) (n1 c1 : Nat) (A2 : Option Addr) (n2 c2 : Nat) (a b : Int) (ha : -1000 ≤ a ∧ a ≤ 1049576) (hb : -1000 ≤ b ∧ b ≤ 1049576) (w : World) (h1 : SliceOf w 1 intC A1 n1 c.rest) (h2 : SliceOf w 1 intC A2 n2 c.hol) (m1 : n1 ≤ maxLen) (m2 : n2 ≤ maxLen) :
    Calls Tryd.prog 28 #[.agg #[.slice A1 n1 c1, .slice A2 n2 c2], .int .i64 a, .int .i64 b] w fun e w' => e = .returned (.int .i64 (betweenV c a b)) ∧ Below w.heap.size w w' := by
  have HR := Lib.hid (fun d (w : World) (h1 : SliceOf w 1 intC A1 n1 c.rest) (h2 : SliceOf w 1 intC A2 n2 c.hol) (m1 : n1 ≤ maxLen) (m2 : n2 ≤ maxLen) => rrests_any c A1 n1 c1 A2 n2 c2 d w h1 h2 m1 m2)
  have H1 := Lib.hid h1
  have H2 := Lib.hid h2
  have l1 := h1.len
  have l2 := h2.len
  clear h1 h2
  have hB0 : Below w.heap.size w (w.alloc (.cells #[.slice A1 n1 c1, .slice A2 n2 c2] 31)) := (Below.refl _ _).alloc (Nat.le_refl _) _
  have hk0 : Blk (w.alloc (.cells #[.slice A1 n1 c1, .slice A2 n2 c2] 31)) w.heap.size 31 #[.slice A1 n1 c1, .slice A2 n2 c2] := Blk.new _ _ _
  have a0 := hk0.cell 0; have a1 := hk0.cell 1
  simp only [List.getElem?_toArray, List.getElem?_cons_zero, List.getElem?_cons_succ] at a0 a1
  have EV : betweenV c a b = cntF c (max a 0) (min b 1048577 - max a 0).toNat := rfl
  obtain ⟨V, hV⟩ : ∃ V, betweenV c a b = V := ⟨_, rfl⟩
  rw [hV] at EV ⊢
  clear hV
  by_cases ka : a < 0
  · have c1' : decide (a < 0) = true := decide_eq_true ka
    rw [show max a 0 = 0 by omega] at EV
    by_cases kb : 1048577 < b
    · have c2' : decide (1048577 < b) = true := decide_eq_true kb
      rw [show min b 1048577 = 1048577 by omega] at EV
      replace EV := Lib.hid EV.symm
      have HAA : Hid ((0 : Int) ≤ 0 ∧ (0 : Int) ≤ 1049576) := Lib.hid (by omega)
      have HT0 : Hid (∀ T : Int, 1048577 = T → T ≤ 1048577) := Lib.hid (fun T h => by omega)
      go_enter Tryd.func28, Tryd.ntmps28
      go_wp2_with fail
      generalize hT : (1048577 : Int) = T at EV ⊢
      have HTT : Hid (T ≤ 1048577) := Lib.hid (HT0.out T hT)
      clear hT
      clear c1' c2' ka kb ha hb
      go_loopw [7, 8] (fun nn dd wr => ∃ (k : Nat) (d : Int), Hid (k ≤ (T - (0 : Int)).toNat) ∧ Hid (d = (0 : Int) + (k : Int)) ∧ 0 ≤ d ∧ nn = .int .i64 (cntF c (0 : Int) k) ∧ dd = .int .i64 d ∧ Below w.heap.size w wr ∧ Blk wr w.heap.size 31 #[.slice A1 n1 c1, .slice A2 n2 c2]) (fun _ dd _ => (T - intOf dd).toNat)
      case atStart => exact ⟨0, _, Lib.hid (by omega), Lib.hid (by show _ = _ + (((0 : Nat)) : Int); omega), HAA.out.1, rfl, rfl, hB0, hk0⟩
      case round =>
        clear a0 a1 hB0 hk0
        obtain ⟨k, d, hk, hdk, hd0, rfl, rfl, hBw, hkw⟩ := hrel
        have hB1 := hBw
        have hk1 := hkw
        clear hBw hkw
        have a0 := hk1.cell 0; have a1 := hk1.cell 1
        simp only [List.getElem?_toArray, List.getElem?_cons_zero, List.getElem?_cons_succ] at a0 a1
        have cb := cnt_bd c (0 : Int) k
        have kb : (k : Int) ≤ 2000000 := by have h1 := hk.out; have h2 := HTT.out; have h3 := HAA.out; omega
        have fb : 0 ≤ cntF c (0 : Int) k ∧ cntF c (0 : Int) k ≤ 2000000 := by omega
        clear cb kb
        have db : d ≤ 2000000 := by have h1 := hk.out; have h2 := HTT.out; have h3 := HAA.out; have h4 := hdk.out; omega
        by_cases hlt : d < T
        · have HQ := Lib.hid (HR.out d)
          rw [show isDayB d = true from decide_eq_true (by have h2 := HTT.out; omega), Bool.true_and] at HQ
          have HS : Hid (cntF c (0 : Int) (k + 1) = cntF c (0 : Int) k + (if restB c d then 0 else 1)) := Lib.hid (by rw [hdk.out]; rfl)
          have HK2 : Hid (k + 1 ≤ (T - (0 : Int)).toNat) := Lib.hid (by have h4 := hdk.out; omega)
          have HD2 : Hid (d + 1 = (0 : Int) + ((k + 1 : Nat) : Int)) := Lib.hid (by have h4 := hdk.out; omega)
          have HME : Hid ((T - (d + 1)).toNat < (T - d).toNat) := Lib.hid (by omega)
          have t1 : decide (d < T) = true := decide_eq_true hlt
          obtain ⟨F, hF⟩ : ∃ F, cntF c (0 : Int) k = F := ⟨_, rfl⟩
          rw [hF] at HS fb ⊢
          cases hr : restB c d
          all_goals
            rw [hr] at HQ HS
            clear hr hF hlt
            go_wp2_with fail
            refine (HQ.out _ (H1.out.below hB1) (H2.out.below hB1) m1 m2).mono ?_
            rintro e w2 ⟨rfl, hb2⟩
            clear a0 a1
            have hB2 := hB1.trans (hb2.mono hB1.size)
            have hk2 := hk1.below hb2 hk1.lt
            clear hB1 hk1 hb2
            have a0 := hk2.cell 0; have a1 := hk2.cell 1; simp only [List.getElem?_toArray, List.getElem?_cons_zero, List.getElem?_cons_succ] at a0 a1
            go_wp2_with fail
            go_roundw
            case rel => exact ⟨k + 1, _, HK2, HD2, by omega, by rw [HS.out]; simp, rfl, hB2, hk2⟩
            case measure => simp only [intOf]; exact HME.out
        · have HEE : Hid (cntF c (0 : Int) k = V) := Lib.hid (by
            have hkk : k = (T - (0 : Int)).toNat := by have h1 := hk.out; have h4 := hdk.out; omega
            rw [hkk]; exact EV.out)
          have t1 : decide (d < T) = false := decide_eq_false hlt
          clear hlt
          go_wp2_with fail
          go_ret
          exact ⟨ret_int HEE.out, hB1⟩
    · have c2' : decide (1048577 < b) = false := decide_eq_false kb
      rw [show min b 1048577 = b by omega] at EV
      replace EV := Lib.hid EV.symm
      have HAA : Hid ((0 : Int) ≤ 0 ∧ (0 : Int) ≤ 1049576) := Lib.hid (by omega)
      have HTT : Hid (b ≤ 1048577) := Lib.hid (by omega)
      go_enter Tryd.func28, Tryd.ntmps28
      go_wp2_with fail
      skip
      clear c1' c2' ka kb ha hb
      go_loopw [7, 8] (fun nn dd wr => ∃ (k : Nat) (d : Int), Hid (k ≤ (b - (0 : Int)).toNat) ∧ Hid (d = (0 : Int) + (k : Int)) ∧ 0 ≤ d ∧ nn = .int .i64 (cntF c (0 : Int) k) ∧ dd = .int .i64 d ∧ Below w.heap.size w wr ∧ Blk wr w.heap.size 31 #[.slice A1 n1 c1, .slice A2 n2 c2]) (fun _ dd _ => (b - intOf dd).toNat)
      case atStart => exact ⟨0, _, Lib.hid (by omega), Lib.hid (by show _ = _ + (((0 : Nat)) : Int); omega), HAA.out.1, rfl, rfl, hB0, hk0⟩
      case round =>
        clear a0 a1 hB0 hk0
        obtain ⟨k, d, hk, hdk, hd0, rfl, rfl, hBw, hkw⟩ := hrel
        have hB1 := hBw
        have hk1 := hkw
        clear hBw hkw
        have a0 := hk1.cell 0; have a1 := hk1.cell 1
        simp only [List.getElem?_toArray, List.getElem?_cons_zero, List.getElem?_cons_succ] at a0 a1
        have cb := cnt_bd c (0 : Int) k
        have kb : (k : Int) ≤ 2000000 := by have h1 := hk.out; have h2 := HTT.out; have h3 := HAA.out; omega
        have fb : 0 ≤ cntF c (0 : Int) k ∧ cntF c (0 : Int) k ≤ 2000000 := by omega
        clear cb kb
        have db : d ≤ 2000000 := by have h1 := hk.out; have h2 := HTT.out; have h3 := HAA.out; have h4 := hdk.out; omega
        by_cases hlt : d < b
        · have HQ := Lib.hid (HR.out d)
          rw [show isDayB d = true from decide_eq_true (by have h2 := HTT.out; omega), Bool.true_and] at HQ
          have HS : Hid (cntF c (0 : Int) (k + 1) = cntF c (0 : Int) k + (if restB c d then 0 else 1)) := Lib.hid (by rw [hdk.out]; rfl)
          have HK2 : Hid (k + 1 ≤ (b - (0 : Int)).toNat) := Lib.hid (by have h4 := hdk.out; omega)
          have HD2 : Hid (d + 1 = (0 : Int) + ((k + 1 : Nat) : Int)) := Lib.hid (by have h4 := hdk.out; omega)
          have HME : Hid ((b - (d + 1)).toNat < (b - d).toNat) := Lib.hid (by omega)
          have t1 : decide (d < b) = true := decide_eq_true hlt
          obtain ⟨F, hF⟩ : ∃ F, cntF c (0 : Int) k = F := ⟨_, rfl⟩
          rw [hF] at HS fb ⊢
          cases hr : restB c d
          all_goals
            rw [hr] at HQ HS
            clear hr hF hlt
            go_wp2_with fail
            refine (HQ.out _ (H1.out.below hB1) (H2.out.below hB1) m1 m2).mono ?_
            rintro e w2 ⟨rfl, hb2⟩
            clear a0 a1
            have hB2 := hB1.trans (hb2.mono hB1.size)
            have hk2 := hk1.below hb2 hk1.lt
            clear hB1 hk1 hb2
            have a0 := hk2.cell 0; have a1 := hk2.cell 1; simp only [List.getElem?_toArray, List.getElem?_cons_zero, List.getElem?_cons_succ] at a0 a1
            go_wp2_with fail
            go_roundw
            case rel => exact ⟨k + 1, _, HK2, HD2, by omega, by rw [HS.out]; simp, rfl, hB2, hk2⟩
            case measure => simp only [intOf]; exact HME.out
        · have HEE : Hid (cntF c (0 : Int) k = V) := Lib.hid (by
            have hkk : k = (b - (0 : Int)).toNat := by have h1 := hk.out; have h4 := hdk.out; omega
            rw [hkk]; exact EV.out)
          have t1 : decide (d < b) = false := decide_eq_false hlt
          clear hlt
          go_wp2_with fail
          go_ret
          exact ⟨ret_int HEE.out, hB1⟩
  · have c1' : decide (a < 0) = false := decide_eq_false ka
    rw [show max a 0 = a by omega] at EV
    by_cases kb : 1048577 < b
    · have c2' : decide (1048577 < b) = true := decide_eq_true kb
      rw [show min b 1048577 = 1048577 by omega] at EV
      replace EV := Lib.hid EV.symm
      have HAA : Hid (0 ≤ a ∧ a ≤ 1049576) := Lib.hid (by omega)
      have HT0 : Hid (∀ T : Int, 1048577 = T → T ≤ 1048577) := Lib.hid (fun T h => by omega)
      go_enter Tryd.func28, Tryd.ntmps28
      go_wp2_with fail
      generalize hT : (1048577 : Int) = T at EV ⊢
      have HTT : Hid (T ≤ 1048577) := Lib.hid (HT0.out T hT)
      clear hT
      clear c1' c2' ka kb ha hb
      go_loopw [7, 8] (fun nn dd wr => ∃ (k : Nat) (d : Int), Hid (k ≤ (T - a).toNat) ∧ Hid (d = a + (k : Int)) ∧ 0 ≤ d ∧ nn = .int .i64 (cntF c a k) ∧ dd = .int .i64 d ∧ Below w.heap.size w wr ∧ Blk wr w.heap.size 31 #[.slice A1 n1 c1, .slice A2 n2 c2]) (fun _ dd _ => (T - intOf dd).toNat)
      case atStart => exact ⟨0, _, Lib.hid (by omega), Lib.hid (by show _ = _ + (((0 : Nat)) : Int); omega), HAA.out.1, rfl, rfl, hB0, hk0⟩
      case round =>
        clear a0 a1 hB0 hk0
        obtain ⟨k, d, hk, hdk, hd0, rfl, rfl, hBw, hkw⟩ := hrel
        have hB1 := hBw
        have hk1 := hkw
        clear hBw hkw
        have a0 := hk1.cell 0; have a1 := hk1.cell 1
        simp only [List.getElem?_toArray, List.getElem?_cons_zero, List.getElem?_cons_succ] at a0 a1
        have cb := cnt_bd c a k
        have kb : (k : Int) ≤ 2000000 := by have h1 := hk.out; have h2 := HTT.out; have h3 := HAA.out; omega
        have fb : 0 ≤ cntF c a k ∧ cntF c a k ≤ 2000000 := by omega
        clear cb kb
        have db : d ≤ 2000000 := by have h1 := hk.out; have h2 := HTT.out; have h3 := HAA.out; have h4 := hdk.out; omega
        by_cases hlt : d < T
        · have HQ := Lib.hid (HR.out d)
          rw [show isDayB d = true from decide_eq_true (by have h2 := HTT.out; omega), Bool.true_and] at HQ
          have HS : Hid (cntF c a (k + 1) = cntF c a k + (if restB c d then 0 else 1)) := Lib.hid (by rw [hdk.out]; rfl)
          have HK2 : Hid (k + 1 ≤ (T - a).toNat) := Lib.hid (by have h4 := hdk.out; omega)
          have HD2 : Hid (d + 1 = a + ((k + 1 : Nat) : Int)) := Lib.hid (by have h4 := hdk.out; omega)
          have HME : Hid ((T - (d + 1)).toNat < (T - d).toNat) := Lib.hid (by omega)
          have t1 : decide (d < T) = true := decide_eq_true hlt
          obtain ⟨F, hF⟩ : ∃ F, cntF c a k = F := ⟨_, rfl⟩
          rw [hF] at HS fb ⊢
          cases hr : restB c d
          all_goals
            rw [hr] at HQ HS
            clear hr hF hlt
            go_wp2_with fail
            refine (HQ.out _ (H1.out.below hB1) (H2.out.below hB1) m1 m2).mono ?_
            rintro e w2 ⟨rfl, hb2⟩
            clear a0 a1
            have hB2 := hB1.trans (hb2.mono hB1.size)
            have hk2 := hk1.below hb2 hk1.lt
            clear hB1 hk1 hb2
            have a0 := hk2.cell 0; have a1 := hk2.cell 1; simp only [List.getElem?_toArray, List.getElem?_cons_zero, List.getElem?_cons_succ] at a0 a1
            go_wp2_with fail
            go_roundw
            case rel => exact ⟨k + 1, _, HK2, HD2, by omega, by rw [HS.out]; simp, rfl, hB2, hk2⟩
            case measure => simp only [intOf]; exact HME.out
        · have HEE : Hid (cntF c a k = V) := Lib.hid (by
            have hkk : k = (T - a).toNat := by have h1 := hk.out; have h4 := hdk.out; omega
            rw [hkk]; exact EV.out)
          have t1 : decide (d < T) = false := decide_eq_false hlt
          clear hlt
          go_wp2_with fail
          go_ret
          exact ⟨ret_int HEE.out, hB1⟩
    · have c2' : decide (1048577 < b) = false := decide_eq_false kb
      rw [show min b 1048577 = b by omega] at EV
      replace EV := Lib.hid EV.symm
      have HAA : Hid (0 ≤ a ∧ a ≤ 1049576) := Lib.hid (by omega)
      have HTT : Hid (b ≤ 1048577) := Lib.hid (by omega)
      go_enter Tryd.func28, Tryd.ntmps28
      go_wp2_with fail
      skip
      clear c1' c2' ka kb ha hb
      go_loopw [7, 8] (fun nn dd wr => ∃ (k : Nat) (d : Int), Hid (k ≤ (b - a).toNat) ∧ Hid (d = a + (k : Int)) ∧ 0 ≤ d ∧ nn = .int .i64 (cntF c a k) ∧ dd = .int .i64 d ∧ Below w.heap.size w wr ∧ Blk wr w.heap.size 31 #[.slice A1 n1 c1, .slice A2 n2 c2]) (fun _ dd _ => (b - intOf dd).toNat)
      case atStart => exact ⟨0, _, Lib.hid (by omega), Lib.hid (by show _ = _ + (((0 : Nat)) : Int); omega), HAA.out.1, rfl, rfl, hB0, hk0⟩
      case round =>
        clear a0 a1 hB0 hk0
        obtain ⟨k, d, hk, hdk, hd0, rfl, rfl, hBw, hkw⟩ := hrel
        have hB1 := hBw
        have hk1 := hkw
        clear hBw hkw
        have a0 := hk1.cell 0; have a1 := hk1.cell 1
        simp only [List.getElem?_toArray, List.getElem?_cons_zero, List.getElem?_cons_succ] at a0 a1
        have cb := cnt_bd c a k
        have kb : (k : Int) ≤ 2000000 := by have h1 := hk.out; have h2 := HTT.out; have h3 := HAA.out; omega
        have fb : 0 ≤ cntF c a k ∧ cntF c a k ≤ 2000000 := by omega
        clear cb kb
        have db : d ≤ 2000000 := by have h1 := hk.out; have h2 := HTT.out; have h3 := HAA.out; have h4 := hdk.out; omega
        by_cases hlt : d < b
        · have HQ := Lib.hid (HR.out d)
          rw [show isDayB d = true from decide_eq_true (by have h2 := HTT.out; omega), Bool.true_and] at HQ
          have HS : Hid (cntF c a (k + 1) = cntF c a k + (if restB c d then 0 else 1)) := Lib.hid (by rw [hdk.out]; rfl)
          have HK2 : Hid (k + 1 ≤ (b - a).toNat) := Lib.hid (by have h4 := hdk.out; omega)
          have HD2 : Hid (d + 1 = a + ((k + 1 : Nat) : Int)) := Lib.hid (by have h4 := hdk.out; omega)
          have HME : Hid ((b - (d + 1)).toNat < (b - d).toNat) := Lib.hid (by omega)
          have t1 : decide (d < b) = true := decide_eq_true hlt
          obtain ⟨F, hF⟩ : ∃ F, cntF c a k = F := ⟨_, rfl⟩
          rw [hF] at HS fb ⊢
          cases hr : restB c d
          all_goals
            rw [hr] at HQ HS
            clear hr hF hlt
            go_wp2_with fail
            refine (HQ.out _ (H1.out.below hB1) (H2.out.below hB1) m1 m2).mono ?_
            rintro e w2 ⟨rfl, hb2⟩
            clear a0 a1
            have hB2 := hB1.trans (hb2.mono hB1.size)
            have hk2 := hk1.below hb2 hk1.lt
            clear hB1 hk1 hb2
            have a0 := hk2.cell 0; have a1 := hk2.cell 1; simp only [List.getElem?_toArray, List.getElem?_cons_zero, List.getElem?_cons_succ] at a0 a1
            go_wp2_with fail
            go_roundw
            case rel => exact ⟨k + 1, _, HK2, HD2, by omega, by rw [HS.out]; simp, rfl, hB2, hk2⟩
            case measure => simp only [intOf]; exact HME.out
        · have HEE : Hid (cntF c a k = V) := Lib.hid (by
            have hkk : k = (b - a).toNat := by have h1 := hk.out; have h4 := hdk.out; omega
            rw [hkk]; exact EV.out)
          have t1 : decide (d < b) = false := decide_eq_false hlt
          clear hlt
          go_wp2_with fail
          go_ret
          exact ⟨ret_int HEE.out, hB1⟩
theorem between_add (c : Cal) {a b t : Int} (h1 : a ≤ b) (h2 : b ≤ t) : betweenV c a b + betweenV c b t = betweenV c a t := by
  unfold betweenV
  by_cases hb0 : b < 0
  · rw [show (min b 1048577 - max a 0).toNat = 0 by omega, show max b 0 = 0 by omega, show max a 0 = 0 by omega]
    simp [cntF]
  · by_cases hbt : 1048577 < b
    · rw [show (min t 1048577 - max b 0).toNat = 0 by omega, show min b 1048577 = 1048577 by omega, show min t 1048577 = 1048577 by omega]
      simp [cntF]
    · rw [show min b 1048577 = b by omega, show max b 0 = b by omega]
      by_cases hab : max a 0 ≤ b
      · have h := cnt_split c (max a 0) (b - max a 0).toNat (min t 1048577 - b).toNat
        rw [show (b - max a 0).toNat + (min t 1048577 - b).toNat = (min t 1048577 - max a 0).toNat by omega, show max a 0 + ((b - max a 0).toNat : Int) = b by omega] at h
        exact h.symm
      · omega
theorem between_bd (c : Cal) (a b : Int) : 0 ≤ betweenV c a b ∧ betweenV c a b ≤ 1048577 := by
  unfold betweenV
  have h := cnt_bd c (max a 0) (min b 1048577 - max a 0).toNat
  omega
set_option maxRecDepth 100000 in
set_option maxHeartbeats 1600000 in
theorem dayBetween_walk (c : Cal) (A1 : Option Addr) (n1 c1 : Nat) (A2 : Option Addr) (n2 c2 : Nat) (a m b : Int) (ha : I64 a) (hm : I64 m) (hb : I64 b) (w : World) (h1 : SliceOf w 1 intC A1 n1 c.rest) (h2 : SliceOf w 1 intC A2 n2 c.hol) (m1 : n1 ≤ maxLen) (m2 : n2 ≤ maxLen) (ht : MonTab w) (hp : PowTab w) :
    Calls Tryd.prog 6 #[.agg #[.slice A1 n1 c1, .slice A2 n2 c2], .int .i64 a, .int .i64 m, .int .i64 b] w fun e w' => e = .returned (.bool true) ∧ Below w.heap.size w w' := by
  have HT := Lib.hid (Lib.tabBelow_of_tabIs ht)
  have HP := Lib.hid (Lib.tabBelow_of_tabIs hp)
  have HA := Lib.hid (fun w h1 h2 => awake_any w h1 h2)
  have HV := Lib.hid (fun w => heavy_any c A1 n1 c1 A2 n2 c2 w m1 m2)
  have HX := Lib.hid (fun a b (w : World) (h1 : SliceOf w 1 intC A1 n1 c.rest) (h2 : SliceOf w 1 intC A2 n2 c.hol) (m1 : n1 ≤ maxLen) (m2 : n2 ≤ maxLen) => between_any c A1 n1 c1 A2 n2 c2 a b w h1 h2 m1 m2)
  have HXr := Lib.hid (fun a b ha hb (w : World) (h1 : SliceOf w 1 intC A1 n1 c.rest) (h2 : SliceOf w 1 intC A2 n2 c.hol) (m1 : n1 ≤ maxLen) (m2 : n2 ≤ maxLen) => rbetween_any c A1 n1 c1 A2 n2 c2 a b ha hb w h1 h2 m1 m2)
  have H1 := Lib.hid h1
  have H2 := Lib.hid h2
  have l1 := h1.len
  have l2 := h2.len
  clear h1 h2
  have hB0 : Below w.heap.size w (w.alloc (.cells #[.slice A1 n1 c1, .slice A2 n2 c2] 31)) := (Below.refl _ _).alloc (Nat.le_refl _) _
  have hk0 : Blk (w.alloc (.cells #[.slice A1 n1 c1, .slice A2 n2 c2] 31)) w.heap.size 31 #[.slice A1 n1 c1, .slice A2 n2 c2] := Blk.new _ _ _
  have a0 := hk0.cell 0; have a1 := hk0.cell 1
  simp only [List.getElem?_toArray, List.getElem?_cons_zero, List.getElem?_cons_succ] at a0 a1
  clear ht hp
  unfold I64 at ha hm hb
  obtain ⟨hv, ehv⟩ : ∃ b, (decide (20 < n1) || decide (60 < n2)) = b := ⟨_, rfl⟩
  rw [ehv] at HV
  clear ehv
  cases hv
  rotate_left
  · clear HX HXr
    go_enter Tryd.func6, Tryd.ntmps6
    go_wp2_with fail
    refine (HA.out _ (HT.out.on hB0).here (HP.out.on hB0).here).mono ?_
    rintro e w1 ⟨rfl, hb1⟩
    clear a0 a1
    have hB1 := hB0.trans (hb1.mono hB0.size)
    have hk1 := hk0.below hb1 hk0.lt
    clear hB0 hk0 hb1
    have a0 := hk1.cell 0; have a1 := hk1.cell 1; simp only [List.getElem?_toArray, List.getElem?_cons_zero, List.getElem?_cons_succ] at a0 a1
    go_wp2_with fail
    refine (HV.out _).mono ?_
    rintro e w2 ⟨rfl, hb2⟩
    clear a0 a1
    have hB2 := hB1.trans (hb2.mono hB1.size)
    have hk2 := hk1.below hb2 hk1.lt
    clear hB1 hk1 hb2
    have a0 := hk2.cell 0; have a1 := hk2.cell 1; simp only [List.getElem?_toArray, List.getElem?_cons_zero, List.getElem?_cons_succ] at a0 a1
    go_wp2_with fail
    go_ret
    exact ⟨rfl, hB2⟩
  by_cases k1 : a < -1000
  · have t1 : decide (a < -1000) = true := decide_eq_true k1
    clear HX HXr
    go_enter Tryd.func6, Tryd.ntmps6
    go_wp2_with fail
    refine (HA.out _ (HT.out.on hB0).here (HP.out.on hB0).here).mono ?_
    rintro e w1 ⟨rfl, hb1⟩
    clear a0 a1
    have hB1 := hB0.trans (hb1.mono hB0.size)
    have hk1 := hk0.below hb1 hk0.lt
    clear hB0 hk0 hb1
    have a0 := hk1.cell 0; have a1 := hk1.cell 1; simp only [List.getElem?_toArray, List.getElem?_cons_zero, List.getElem?_cons_succ] at a0 a1
    go_wp2_with fail
    refine (HV.out _).mono ?_
    rintro e w2 ⟨rfl, hb2⟩
    clear a0 a1
    have hB2 := hB1.trans (hb2.mono hB1.size)
    have hk2 := hk1.below hb2 hk1.lt
    clear hB1 hk1 hb2
    have a0 := hk2.cell 0; have a1 := hk2.cell 1; simp only [List.getElem?_toArray, List.getElem?_cons_zero, List.getElem?_cons_succ] at a0 a1
    go_wp2_with fail
    go_ret
    exact ⟨rfl, hB2⟩
  have t1 : decide (a < -1000) = false := decide_eq_false k1
  by_cases k2 : 1049576 < a
  · have t2 : decide (1049576 < a) = true := decide_eq_true k2
    clear HX HXr
    go_enter Tryd.func6, Tryd.ntmps6
    go_wp2_with fail
    refine (HA.out _ (HT.out.on hB0).here (HP.out.on hB0).here).mono ?_
    rintro e w1 ⟨rfl, hb1⟩
    clear a0 a1
    have hB1 := hB0.trans (hb1.mono hB0.size)
    have hk1 := hk0.below hb1 hk0.lt
    clear hB0 hk0 hb1
    have a0 := hk1.cell 0; have a1 := hk1.cell 1; simp only [List.getElem?_toArray, List.getElem?_cons_zero, List.getElem?_cons_succ] at a0 a1
    go_wp2_with fail
    refine (HV.out _).mono ?_
    rintro e w2 ⟨rfl, hb2⟩
    clear a0 a1
    have hB2 := hB1.trans (hb2.mono hB1.size)
    have hk2 := hk1.below hb2 hk1.lt
    clear hB1 hk1 hb2
    have a0 := hk2.cell 0; have a1 := hk2.cell 1; simp only [List.getElem?_toArray, List.getElem?_cons_zero, List.getElem?_cons_succ] at a0 a1
    go_wp2_with fail
    go_ret
    exact ⟨rfl, hB2⟩
  have t2 : decide (1049576 < a) = false := decide_eq_false k2
  by_cases k3 : b < -1000
  · have t3 : decide (b < -1000) = true := decide_eq_true k3
    clear HX HXr
    go_enter Tryd.func6, Tryd.ntmps6
    go_wp2_with fail
    refine (HA.out _ (HT.out.on hB0).here (HP.out.on hB0).here).mono ?_
    rintro e w1 ⟨rfl, hb1⟩
    clear a0 a1
    have hB1 := hB0.trans (hb1.mono hB0.size)
    have hk1 := hk0.below hb1 hk0.lt
    clear hB0 hk0 hb1
    have a0 := hk1.cell 0; have a1 := hk1.cell 1; simp only [List.getElem?_toArray, List.getElem?_cons_zero, List.getElem?_cons_succ] at a0 a1
    go_wp2_with fail
    refine (HV.out _).mono ?_
    rintro e w2 ⟨rfl, hb2⟩
    clear a0 a1
    have hB2 := hB1.trans (hb2.mono hB1.size)
    have hk2 := hk1.below hb2 hk1.lt
    clear hB1 hk1 hb2
    have a0 := hk2.cell 0; have a1 := hk2.cell 1; simp only [List.getElem?_toArray, List.getElem?_cons_zero, List.getElem?_cons_succ] at a0 a1
    go_wp2_with fail
    go_ret
    exact ⟨rfl, hB2⟩
  have t3 : decide (b < -1000) = false := decide_eq_false k3
  by_cases k4 : 1049576 < b
  · have t4 : decide (1049576 < b) = true := decide_eq_true k4
    clear HX HXr
    go_enter Tryd.func6, Tryd.ntmps6
    go_wp2_with fail
    refine (HA.out _ (HT.out.on hB0).here (HP.out.on hB0).here).mono ?_
    rintro e w1 ⟨rfl, hb1⟩
    clear a0 a1
    have hB1 := hB0.trans (hb1.mono hB0.size)
    have hk1 := hk0.below hb1 hk0.lt
    clear hB0 hk0 hb1
    have a0 := hk1.cell 0; have a1 := hk1.cell 1; simp only [List.getElem?_toArray, List.getElem?_cons_zero, List.getElem?_cons_succ] at a0 a1
    go_wp2_with fail
    refine (HV.out _).mono ?_
    rintro e w2 ⟨rfl, hb2⟩
    clear a0 a1
    have hB2 := hB1.trans (hb2.mono hB1.size)
    have hk2 := hk1.below hb2 hk1.lt
    clear hB1 hk1 hb2
    have a0 := hk2.cell 0; have a1 := hk2.cell 1; simp only [List.getElem?_toArray, List.getElem?_cons_zero, List.getElem?_cons_succ] at a0 a1
    go_wp2_with fail
    go_ret
    exact ⟨rfl, hB2⟩
  have t4 : decide (1049576 < b) = false := decide_eq_false k4
  by_cases k5 : 2000 < b - a
  · have t5 : decide (2000 < b - a) = true := decide_eq_true k5
    clear HX HXr
    go_enter Tryd.func6, Tryd.ntmps6
    go_wp2_with fail
    refine (HA.out _ (HT.out.on hB0).here (HP.out.on hB0).here).mono ?_
    rintro e w1 ⟨rfl, hb1⟩
    clear a0 a1
    have hB1 := hB0.trans (hb1.mono hB0.size)
    have hk1 := hk0.below hb1 hk0.lt
    clear hB0 hk0 hb1
    have a0 := hk1.cell 0; have a1 := hk1.cell 1; simp only [List.getElem?_toArray, List.getElem?_cons_zero, List.getElem?_cons_succ] at a0 a1
    go_wp2_with fail
    refine (HV.out _).mono ?_
    rintro e w2 ⟨rfl, hb2⟩
    clear a0 a1
    have hB2 := hB1.trans (hb2.mono hB1.size)
    have hk2 := hk1.below hb2 hk1.lt
    clear hB1 hk1 hb2
    have a0 := hk2.cell 0; have a1 := hk2.cell 1; simp only [List.getElem?_toArray, List.getElem?_cons_zero, List.getElem?_cons_succ] at a0 a1
    go_wp2_with fail
    go_ret
    exact ⟨rfl, hB2⟩
  have t5 : decide (2000 < b - a) = false := decide_eq_false k5
  have HX0 := Lib.hid (HX.out a b)
  have HXr0 := Lib.hid (HXr.out a b ⟨by omega, by omega⟩ ⟨by omega, by omega⟩)
  have bd1 := between_bd c a m
  have bd2 := between_bd c m b
  have hadd := fun h1 h2 => between_add c (a := a) (b := m) (t := b) h1 h2
  have HX1 := Lib.hid (HX.out a m)
  have HX2 := Lib.hid (HX.out m b)
  obtain ⟨V, eV⟩ : ∃ V, betweenV c a b = V := ⟨_, rfl⟩
  obtain ⟨V1, eV1⟩ : ∃ V, betweenV c a m = V := ⟨_, rfl⟩
  obtain ⟨V2, eV2⟩ : ∃ V, betweenV c m b = V := ⟨_, rfl⟩
  rw [eV] at HX0 HXr0 hadd
  rw [eV1] at HX1 bd1 hadd
  rw [eV2] at HX2 bd2 hadd
  clear eV eV1 eV2 HX HXr
  by_cases k6 : m < a
  · have t6 : decide (m < a) = true := decide_eq_true k6
    clear hadd
    go_enter Tryd.func6, Tryd.ntmps6
    go_wp2_with fail
    refine (HA.out _ (HT.out.on hB0).here (HP.out.on hB0).here).mono ?_
    rintro e w1 ⟨rfl, hb1⟩
    clear a0 a1
    have hB1 := hB0.trans (hb1.mono hB0.size)
    have hk1 := hk0.below hb1 hk0.lt
    clear hB0 hk0 hb1
    have a0 := hk1.cell 0; have a1 := hk1.cell 1; simp only [List.getElem?_toArray, List.getElem?_cons_zero, List.getElem?_cons_succ] at a0 a1
    go_wp2_with fail
    refine (HV.out _).mono ?_
    rintro e w2 ⟨rfl, hb2⟩
    clear a0 a1
    have hB2 := hB1.trans (hb2.mono hB1.size)
    have hk2 := hk1.below hb2 hk1.lt
    clear hB1 hk1 hb2
    have a0 := hk2.cell 0; have a1 := hk2.cell 1; simp only [List.getElem?_toArray, List.getElem?_cons_zero, List.getElem?_cons_succ] at a0 a1
    go_wp2_with fail
    refine (HX0.out _ (H1.out.below hB2) (H2.out.below hB2) m1 m2).mono ?_
    rintro e w3 ⟨rfl, hb3⟩
    clear a0 a1
    have hB3 := hB2.trans (hb3.mono hB2.size)
    have hk3 := hk2.below hb3 hk2.lt
    clear hB2 hk2 hb3
    have a0 := hk3.cell 0; have a1 := hk3.cell 1; simp only [List.getElem?_toArray, List.getElem?_cons_zero, List.getElem?_cons_succ] at a0 a1
    go_wp2_with fail
    refine (HXr0.out _ (H1.out.below hB3) (H2.out.below hB3) m1 m2).mono ?_
    rintro e w4 ⟨rfl, hb4⟩
    clear a0 a1
    have hB4 := hB3.trans (hb4.mono hB3.size)
    have hk4 := hk3.below hb4 hk3.lt
    clear hB3 hk3 hb4
    have a0 := hk4.cell 0; have a1 := hk4.cell 1; simp only [List.getElem?_toArray, List.getElem?_cons_zero, List.getElem?_cons_succ] at a0 a1
    go_wp2_with fail
    go_ret
    exact ⟨rfl, hB4⟩
  have t6 : decide (m < a) = false := decide_eq_false k6
  by_cases k7 : b < m
  · have t7 : decide (b < m) = true := decide_eq_true k7
    clear hadd
    go_enter Tryd.func6, Tryd.ntmps6
    go_wp2_with fail
    refine (HA.out _ (HT.out.on hB0).here (HP.out.on hB0).here).mono ?_
    rintro e w1 ⟨rfl, hb1⟩
    clear a0 a1
    have hB1 := hB0.trans (hb1.mono hB0.size)
    have hk1 := hk0.below hb1 hk0.lt
    clear hB0 hk0 hb1
    have a0 := hk1.cell 0; have a1 := hk1.cell 1; simp only [List.getElem?_toArray, List.getElem?_cons_zero, List.getElem?_cons_succ] at a0 a1
    go_wp2_with fail
    refine (HV.out _).mono ?_
    rintro e w2 ⟨rfl, hb2⟩
    clear a0 a1
    have hB2 := hB1.trans (hb2.mono hB1.size)
    have hk2 := hk1.below hb2 hk1.lt
    clear hB1 hk1 hb2
    have a0 := hk2.cell 0; have a1 := hk2.cell 1; simp only [List.getElem?_toArray, List.getElem?_cons_zero, List.getElem?_cons_succ] at a0 a1
    go_wp2_with fail
    refine (HX0.out _ (H1.out.below hB2) (H2.out.below hB2) m1 m2).mono ?_
    rintro e w3 ⟨rfl, hb3⟩
    clear a0 a1
    have hB3 := hB2.trans (hb3.mono hB2.size)
    have hk3 := hk2.below hb3 hk2.lt
    clear hB2 hk2 hb3
    have a0 := hk3.cell 0; have a1 := hk3.cell 1; simp only [List.getElem?_toArray, List.getElem?_cons_zero, List.getElem?_cons_succ] at a0 a1
    go_wp2_with fail
    refine (HXr0.out _ (H1.out.below hB3) (H2.out.below hB3) m1 m2).mono ?_
    rintro e w4 ⟨rfl, hb4⟩
    clear a0 a1
    have hB4 := hB3.trans (hb4.mono hB3.size)
    have hk4 := hk3.below hb4 hk3.lt
    clear hB3 hk3 hb4
    have a0 := hk4.cell 0; have a1 := hk4.cell 1; simp only [List.getElem?_toArray, List.getElem?_cons_zero, List.getElem?_cons_succ] at a0 a1
    go_wp2_with fail
    go_ret
    exact ⟨rfl, hB4⟩
  have t7 : decide (b < m) = false := decide_eq_false k7
  have s1 : V1 + V2 = V := hadd (by omega) (by omega)
  clear hadd
  go_enter Tryd.func6, Tryd.ntmps6
  go_wp2_with fail
  refine (HA.out _ (HT.out.on hB0).here (HP.out.on hB0).here).mono ?_
  rintro e w1 ⟨rfl, hb1⟩
  clear a0 a1
  have hB1 := hB0.trans (hb1.mono hB0.size)
  have hk1 := hk0.below hb1 hk0.lt
  clear hB0 hk0 hb1
  have a0 := hk1.cell 0; have a1 := hk1.cell 1; simp only [List.getElem?_toArray, List.getElem?_cons_zero, List.getElem?_cons_succ] at a0 a1
  go_wp2_with fail
  refine (HV.out _).mono ?_
  rintro e w2 ⟨rfl, hb2⟩
  clear a0 a1
  have hB2 := hB1.trans (hb2.mono hB1.size)
  have hk2 := hk1.below hb2 hk1.lt
  clear hB1 hk1 hb2
  have a0 := hk2.cell 0; have a1 := hk2.cell 1; simp only [List.getElem?_toArray, List.getElem?_cons_zero, List.getElem?_cons_succ] at a0 a1
  go_wp2_with fail
  refine (HX0.out _ (H1.out.below hB2) (H2.out.below hB2) m1 m2).mono ?_
  rintro e w3 ⟨rfl, hb3⟩
  clear a0 a1
  have hB3 := hB2.trans (hb3.mono hB2.size)
  have hk3 := hk2.below hb3 hk2.lt
  clear hB2 hk2 hb3
  have a0 := hk3.cell 0; have a1 := hk3.cell 1; simp only [List.getElem?_toArray, List.getElem?_cons_zero, List.getElem?_cons_succ] at a0 a1
  go_wp2_with fail
  refine (HXr0.out _ (H1.out.below hB3) (H2.out.below hB3) m1 m2).mono ?_
  rintro e w4 ⟨rfl, hb4⟩
  clear a0 a1
  have hB4 := hB3.trans (hb4.mono hB3.size)
  have hk4 := hk3.below hb4 hk3.lt
  clear hB3 hk3 hb4
  have a0 := hk4.cell 0; have a1 := hk4.cell 1; simp only [List.getElem?_toArray, List.getElem?_cons_zero, List.getElem?_cons_succ] at a0 a1
  go_wp2_with fail
  have p0 := wof_cell a0; have p1 := wof_cell a1
  have s1' := Lib.hid (H1.out.below hB4)
  have s2' := Lib.hid (H2.out.below hB4)
  have Q1 := Lib.hid (fun (x : BW w4) => HX1.out (wof x) (s1'.out.below (wof_below x)) (s2'.out.below (wof_below x)) m1 m2)
  have Q2 := Lib.hid (fun (x : BW w4) => HX2.out (wof x) (s1'.out.below (wof_below x)) (s2'.out.below (wof_below x)) m1 m2)
  refine wp_region_quiet_below (by kernel_rfl) (by kernel_rfl) ?_
  repeat (go_big_quiet_step ((first | (go_at_call 27; with_reducible exact quiet_below (Q1.out _)) | (go_at_call 27; exact quiet_below (Q2.out _)))))
  refine wpQuiet_nil ?_
  intro w5 hb5
  have hB5 := hB4.trans (hb5.mono hB4.size)
  clear hb5
  go_wp2_with fail
  go_ret
  exact ⟨ret_bool (by simp), hB5⟩
end Go.Proofs.YtmgijoomfailoaaDoor
