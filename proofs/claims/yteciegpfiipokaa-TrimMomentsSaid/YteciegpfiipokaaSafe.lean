/- trim.Safe and trim.Worst. No condition. -/
import Derived.Test.YteciegpfiipokaaMargins
import Derived.Test.YteciegpfiipokaaFits
namespace Go.Proofs.Yteciegpfiipokaa
open Go.RowKit Go.Proofs.Yteciegpfiipokaa.kit
set_option linter.unusedVariables false

def nameAt (k : Nat) : ByteArray := match k with | 0 => ⟨#[116, 114, 105, 109]⟩ | 1 => ⟨#[108, 105, 115, 116]⟩ | 2 => ⟨#[117, 112]⟩ | _ => ⟨#[109, 111, 115, 116]⟩
def leftAt (g : Marg) (k : Nat) : Int := match k with | 0 => g.t | 1 => g.l | 2 => g.u | _ => g.m
theorem idxM (g : Marg) (w : World) : (Instr.index 56 (.agg #[.string ⟨#[116, 114, 105, 109]⟩, .int .i64 g.t, .string ⟨#[108, 105, 115, 116]⟩, .int .i64 g.l, .string ⟨#[117, 112]⟩, .int .i64 g.u, .string ⟨#[109, 111, 115, 116]⟩, .int .i64 g.m]) (.int .i64 0)).run Try.prog w = .ok (.agg #[.string ⟨#[116, 114, 105, 109]⟩, .int .i64 g.t]) w ∧
    (Instr.index 56 (.agg #[.string ⟨#[116, 114, 105, 109]⟩, .int .i64 g.t, .string ⟨#[108, 105, 115, 116]⟩, .int .i64 g.l, .string ⟨#[117, 112]⟩, .int .i64 g.u, .string ⟨#[109, 111, 115, 116]⟩, .int .i64 g.m]) (.int .i64 1)).run Try.prog w = .ok (.agg #[.string ⟨#[108, 105, 115, 116]⟩, .int .i64 g.l]) w ∧
    (Instr.index 56 (.agg #[.string ⟨#[116, 114, 105, 109]⟩, .int .i64 g.t, .string ⟨#[108, 105, 115, 116]⟩, .int .i64 g.l, .string ⟨#[117, 112]⟩, .int .i64 g.u, .string ⟨#[109, 111, 115, 116]⟩, .int .i64 g.m]) (.int .i64 2)).run Try.prog w = .ok (.agg #[.string ⟨#[117, 112]⟩, .int .i64 g.u]) w ∧
    (Instr.index 56 (.agg #[.string ⟨#[116, 114, 105, 109]⟩, .int .i64 g.t, .string ⟨#[108, 105, 115, 116]⟩, .int .i64 g.l, .string ⟨#[117, 112]⟩, .int .i64 g.u, .string ⟨#[109, 111, 115, 116]⟩, .int .i64 g.m]) (.int .i64 3)).run Try.prog w = .ok (.agg #[.string ⟨#[109, 111, 115, 116]⟩, .int .i64 g.m]) w := ⟨by kernel_rfl, by kernel_rfl, by kernel_rfl, by kernel_rfl⟩
/-- The margins of loads that fit. -/
def margF (s : Ship) (xs : List Load) : Marg := margOf s (sumBy (fL s) xs, sumBy (fC s) xs, sumBy fU xs, sumBy Load.we xs)
theorem margins_fit {s : Ship} {xs : List Load} (h : fitB s xs = true) (w : World) : Calls Try.prog 24 #[.agg #[.string s.nm, .int .i64 s.ba, .int .i64 s.ro, .int .i64 s.ti, .int .i64 s.st, .int .i64 s.tr, .int .i64 s.li, .int .i64 s.up, .int .i64 s.mo], .agg #[.int .i64 (sumBy (fL s) xs), .int .i64 (sumBy (fC s) xs), .int .i64 (sumBy fU xs), .int .i64 (sumBy Load.we xs)]] w
      fun e w' => e = .returned (.agg #[.string ⟨#[116, 114, 105, 109]⟩, .int .i64 (margF s xs).t, .string ⟨#[108, 105, 115, 116]⟩, .int .i64 (margF s xs).l, .string ⟨#[117, 112]⟩, .int .i64 (margF s xs).u, .string ⟨#[109, 111, 115, 116]⟩, .int .i64 (margF s xs).m]) ∧ Below w.heap.size w w' := by
  obtain ⟨b0, b1, b2, b3, b4, b5, b6, b7⟩ := mom_bd h
  obtain ⟨hmay, hlen, _⟩ := fit_may h
  exact margins_any s hmay _ _ _ _ ⟨by omega, by omega⟩ ⟨by omega, by omega⟩ ⟨by omega, by omega⟩ ⟨by omega, by omega⟩ w
theorem nn_step {g : Marg} {k : Nat} (h : ∀ j, j < k → 0 ≤ leftAt g j) (hk : 0 ≤ leftAt g k) : ∀ j, j < k + 1 → 0 ≤ leftAt g j := by
  intro j hj
  rcases Nat.lt_or_ge j k with h1 | h1
  · exact h j h1
  · obtain rfl : j = k := by omega
    exact hk
def safeOf (g : Marg) : Int := if g.m < 0 then 7 else if g.t < 0 ∨ g.l < 0 ∨ g.u < 0 then 3 else 0
def safeV (s : Ship) (xs : List Load) : Int := if fitB s xs then safeOf (margF s xs) else 1

set_option maxRecDepth 100000 in
set_option maxHeartbeats 1600000 in
theorem safe_any (s : Ship) (hn : s.nm.size ≤ maxLen) (A : Option Addr) (n c : Nat) (xs : List Load) (w : World) (hx : SliceOf w 7 Load.cells A n xs) (hm : n ≤ maxLen) :
    Calls Try.prog 15 #[.agg #[.string s.nm, .int .i64 s.ba, .int .i64 s.ro, .int .i64 s.ti, .int .i64 s.st, .int .i64 s.tr, .int .i64 s.li, .int .i64 s.up, .int .i64 s.mo], .slice A n c] w fun e w' => e = .returned (.int .i64 (safeV s xs)) ∧ Below w.heap.size w w' := by
  have HX := Lib.hid hx
  have hB0 : Below w.heap.size w (w.alloc (.cells #[.string s.nm, .int .i64 s.ba, .int .i64 s.ro, .int .i64 s.ti, .int .i64 s.st, .int .i64 s.tr, .int .i64 s.li, .int .i64 s.up, .int .i64 s.mo] 23)) := (Below.refl _ _).alloc (Nat.le_refl _) _
  have hk0 : Blk (w.alloc (.cells #[.string s.nm, .int .i64 s.ba, .int .i64 s.ro, .int .i64 s.ti, .int .i64 s.st, .int .i64 s.tr, .int .i64 s.li, .int .i64 s.up, .int .i64 s.mo] 23)) w.heap.size 23 #[.string s.nm, .int .i64 s.ba, .int .i64 s.ro, .int .i64 s.ti, .int .i64 s.st, .int .i64 s.tr, .int .i64 s.li, .int .i64 s.up, .int .i64 s.mo] := Blk.new _ _ _
  clear hx
  cases hf : fitB s xs
  · have e0 : safeV s xs = 1 := by unfold safeV; rw [hf]; rfl
    have e1 := Lib.hid (sum_not hf)
    rw [e0]
    clear e0 hf
    go_enter Try.func15, Try.ntmps15
    go_wp2_with fail
    refine (sum_any s hn _ _ _ xs _ (HX.out.below hB0) hm).mono ?_
    rw [e1.out]
    rintro e w1 ⟨rfl, hb1⟩
    have hB1 := hB0.trans (hb1.mono hB0.size)
    have hk1 := hk0.below hb1 hk0.lt
    clear hB0 hk0 hb1
    go_wp2_with fail
    go_ret
    exact ⟨rfl, hB1.alloc hB1.size _⟩
  have e0 : safeV s xs = safeOf (margF s xs) := by unfold safeV; rw [hf]; rfl
  have E1 := Lib.hid (sum_fit hf)
  have HM := Lib.hid (fun w => margins_fit hf w)
  rw [e0]
  clear e0 hf
  generalize margF s xs = g at *
  go_enter Try.func15, Try.ntmps15
  go_wp2_with fail
  refine (sum_any s hn _ _ _ xs _ (HX.out.below hB0) hm).mono ?_
  rw [E1.out]
  rintro e w1 ⟨rfl, hb1⟩
  have hB1 := hB0.trans (hb1.mono hB0.size)
  have hk1 := hk0.below hb1 hk0.lt
  clear hB0 hk0 hb1
  have a0 := hk1.cell 0; have a1 := hk1.cell 1; have a2 := hk1.cell 2; have a3 := hk1.cell 3; have a4 := hk1.cell 4; have a5 := hk1.cell 5; have a6 := hk1.cell 6; have a7 := hk1.cell 7; have a8 := hk1.cell 8; simp only [List.getElem?_toArray, List.getElem?_cons_zero, List.getElem?_cons_succ] at a0 a1 a2 a3 a4 a5 a6 a7 a8
  have hl1 := hk1.lt
  go_wp2_with fail
  refine (HM.out _).mono ?_
  rintro e w2 ⟨rfl, hb2⟩
  have hB2 := (hB1.alloc hB1.size _).trans (hb2.mono (hB1.alloc hB1.size _).size)
  clear hb2 hB1 hk1 hl1 a0 a1 a2 a3 a4 a5 a6 a7 a8
  have i0 := fun w => (idxM g w).1
  have i1 := fun w => (idxM g w).2.1
  have i2 := fun w => (idxM g w).2.2.1
  have i3 := fun w => (idxM g w).2.2.2
  by_cases hm0 : g.m < 0
  · have e0 := Lib.hid (show safeOf g = 7 by unfold safeOf; rw [if_pos hm0])
    go_wp2_with fail
    go_ret
    exact ⟨ret_int e0.out.symm, hB2.alloc hB2.size _⟩
  have hB3 : Below w.heap.size w (w2.alloc (.cells #[.string ⟨#[116, 114, 105, 109]⟩, .int .i64 g.t, .string ⟨#[108, 105, 115, 116]⟩, .int .i64 g.l, .string ⟨#[117, 112]⟩, .int .i64 g.u, .string ⟨#[109, 111, 115, 116]⟩, .int .i64 g.m] 56)) := hB2.alloc hB2.size _
  go_wp2_with fail
  go_loopw [26] (fun i wr => ∃ (k : Nat), k ≤ 4 ∧ i = .int .i64 k ∧ Below w.heap.size w wr ∧ Hid (∀ j, j < k → 0 ≤ leftAt g j)) (fun i _ => 4 - (intOf i).toNat)
  case atStart => exact ⟨0, by omega, rfl, hB3, Lib.hid (fun _ h => absurd h (by omega))⟩
  case round =>
    obtain ⟨k, hk, rfl, hbel, hd⟩ := hrel
    clear hB2 hB3
    rcases k with _ | _ | _ | _ | k
    · by_cases h : g.t < 0
      · have e0 := Lib.hid (show safeOf g = 3 by unfold safeOf; rw [if_neg (by omega), if_pos (.inl h)])
        go_wp2_with fail
        go_ret
        exact ⟨ret_int e0.out.symm, hbel.alloc hbel.size _⟩
      · go_wp2_with fail
        go_roundw
        case rel => exact ⟨1, by omega, by go_num, hbel.alloc hbel.size _, Lib.hid (nn_step hd.out (by simp only [leftAt]; omega))⟩
        case measure => simp [intOf]
    · by_cases h : g.l < 0
      · have e0 := Lib.hid (show safeOf g = 3 by unfold safeOf; rw [if_neg (by omega), if_pos (.inr (.inl h))])
        go_wp2_with fail
        go_ret
        exact ⟨ret_int e0.out.symm, hbel.alloc hbel.size _⟩
      · go_wp2_with fail
        go_roundw
        case rel => exact ⟨2, by omega, by go_num, hbel.alloc hbel.size _, Lib.hid (nn_step hd.out (by simp only [leftAt]; omega))⟩
        case measure => simp [intOf]
    · by_cases h : g.u < 0
      · have e0 := Lib.hid (show safeOf g = 3 by unfold safeOf; rw [if_neg (by omega), if_pos (.inr (.inr h))])
        go_wp2_with fail
        go_ret
        exact ⟨ret_int e0.out.symm, hbel.alloc hbel.size _⟩
      · go_wp2_with fail
        go_roundw
        case rel => exact ⟨3, by omega, by go_num, hbel.alloc hbel.size _, Lib.hid (nn_step hd.out (by simp only [leftAt]; omega))⟩
        case measure => simp [intOf]
    · go_wp2_with fail
      go_roundw
      case rel => exact ⟨4, by omega, by go_num, hbel.alloc hbel.size _, Lib.hid (nn_step hd.out (by simp only [leftAt]; omega))⟩
      case measure => simp [intOf]
    · obtain rfl : k = 0 := by omega
      have h0 := hd.out 0 (by omega)
      have h1 := hd.out 1 (by omega)
      have h2 := hd.out 2 (by omega)
      simp only [leftAt] at h0 h1 h2
      have e0 := Lib.hid (show safeOf g = 0 by unfold safeOf; rw [if_neg (by omega), if_neg (by omega)])
      clear h0 h1 h2
      go_wp2_with fail
      go_ret
      exact ⟨ret_int e0.out.symm, hbel⟩

theorem ret_sk {k : IntKind} {r : ByteArray × Int} {a : ByteArray} {b : Int} (h : r = (a, b)) : Ending.returned (.tuple #[.string a, .int k b]) = .returned (.tuple #[.string r.1, .int k r.2]) := by rw [h]
/-- The least of the first margins. -/
def bestAt (g : Marg) : Nat → ByteArray × Int
  | 0 => (nameAt 0, g.t)
  | k + 1 => if leftAt g k < (bestAt g k).2 then (nameAt k, leftAt g k) else bestAt g k
def worstV (s : Ship) (xs : List Load) : ByteArray × Int := if fitB s xs then bestAt (margF s xs) 4 else (⟨#[]⟩, 0)
theorem set2 {w : World} {g : Nat} {t : TypeId} {a b : Value} (h : Blk w g t #[a, b]) (a' b' : Value) : Blk ((w.setCell ⟨g, 0, none⟩ a').setCell ⟨g, 1, none⟩ b') g t #[a', b'] := by
  have := (h.set_ 0 a').set_ 1 b'
  simpa using this

set_option maxRecDepth 100000 in
set_option maxHeartbeats 1600000 in
theorem worst_any (s : Ship) (hn : s.nm.size ≤ maxLen) (A : Option Addr) (n c : Nat) (xs : List Load) (w : World) (hx : SliceOf w 7 Load.cells A n xs) (hm : n ≤ maxLen) :
    Calls Try.prog 16 #[.agg #[.string s.nm, .int .i64 s.ba, .int .i64 s.ro, .int .i64 s.ti, .int .i64 s.st, .int .i64 s.tr, .int .i64 s.li, .int .i64 s.up, .int .i64 s.mo], .slice A n c] w fun e w' => e = .returned (.tuple #[.string (worstV s xs).1, .int .i64 (worstV s xs).2]) ∧ Below w.heap.size w w' := by
  have HX := Lib.hid hx
  have hB0 : Below w.heap.size w (w.alloc (.cells #[.string s.nm, .int .i64 s.ba, .int .i64 s.ro, .int .i64 s.ti, .int .i64 s.st, .int .i64 s.tr, .int .i64 s.li, .int .i64 s.up, .int .i64 s.mo] 23)) := (Below.refl _ _).alloc (Nat.le_refl _) _
  have hk0 : Blk (w.alloc (.cells #[.string s.nm, .int .i64 s.ba, .int .i64 s.ro, .int .i64 s.ti, .int .i64 s.st, .int .i64 s.tr, .int .i64 s.li, .int .i64 s.up, .int .i64 s.mo] 23)) w.heap.size 23 #[.string s.nm, .int .i64 s.ba, .int .i64 s.ro, .int .i64 s.ti, .int .i64 s.st, .int .i64 s.tr, .int .i64 s.li, .int .i64 s.up, .int .i64 s.mo] := Blk.new _ _ _
  clear hx
  cases hf : fitB s xs
  · have e0 : worstV s xs = (⟨#[]⟩, 0) := by unfold worstV; rw [hf]; rfl
    have e1 := Lib.hid (sum_not hf)
    rw [e0]
    clear e0 hf
    go_enter Try.func16, Try.ntmps16
    go_wp2_with fail
    refine (sum_any s hn _ _ _ xs _ (HX.out.below hB0) hm).mono ?_
    rw [e1.out]
    rintro e w1 ⟨rfl, hb1⟩
    have hB1 := hB0.trans (hb1.mono hB0.size)
    have hk1 := hk0.below hb1 hk0.lt
    clear hB0 hk0 hb1
    go_wp2_with fail
    go_ret2
    exact ⟨rfl, hB1.alloc hB1.size _⟩
  have e0 : worstV s xs = bestAt (margF s xs) 4 := by unfold worstV; rw [hf]; rfl
  have E1 := Lib.hid (sum_fit hf)
  have HM := Lib.hid (fun w => margins_fit hf w)
  rw [e0]
  clear e0 hf
  generalize margF s xs = g at *
  have E4 := Lib.hid (rfl : bestAt g 4 = bestAt g 4)
  obtain ⟨R, hR⟩ : ∃ R, bestAt g 4 = R := ⟨_, rfl⟩
  rw [hR]
  have HR := Lib.hid hR
  clear hR
  go_enter Try.func16, Try.ntmps16
  go_wp2_with fail
  refine (sum_any s hn _ _ _ xs _ (HX.out.below hB0) hm).mono ?_
  rw [E1.out]
  rintro e w1 ⟨rfl, hb1⟩
  have hB1 := hB0.trans (hb1.mono hB0.size)
  have hk1 := hk0.below hb1 hk0.lt
  clear hB0 hk0 hb1
  have a0 := hk1.cell 0; have a1 := hk1.cell 1; have a2 := hk1.cell 2; have a3 := hk1.cell 3; have a4 := hk1.cell 4; have a5 := hk1.cell 5; have a6 := hk1.cell 6; have a7 := hk1.cell 7; have a8 := hk1.cell 8; simp only [List.getElem?_toArray, List.getElem?_cons_zero, List.getElem?_cons_succ] at a0 a1 a2 a3 a4 a5 a6 a7 a8
  have hl1 := hk1.lt
  go_wp2_with fail
  refine (HM.out _).mono ?_
  rintro e w2 ⟨rfl, hb2⟩
  have hB2 := (hB1.alloc hB1.size _).trans (hb2.mono (hB1.alloc hB1.size _).size)
  clear hb2 hB1 hk1 hl1 a0 a1 a2 a3 a4 a5 a6 a7 a8
  have i0 := fun w => (idxM g w).1
  have i1 := fun w => (idxM g w).2.1
  have i2 := fun w => (idxM g w).2.2.1
  have i3 := fun w => (idxM g w).2.2.2
  have hB3 : Below w.heap.size w ((w2.alloc (.cells #[.string ⟨#[116, 114, 105, 109]⟩, .int .i64 g.t, .string ⟨#[108, 105, 115, 116]⟩, .int .i64 g.l, .string ⟨#[117, 112]⟩, .int .i64 g.u, .string ⟨#[109, 111, 115, 116]⟩, .int .i64 g.m] 56)).alloc (.cells #[.string ⟨#[116, 114, 105, 109]⟩, .int .i64 g.t] 55)) := (hB2.alloc hB2.size _).alloc (hB2.alloc hB2.size _).size _
  have hk3 : Blk ((w2.alloc (.cells #[.string ⟨#[116, 114, 105, 109]⟩, .int .i64 g.t, .string ⟨#[108, 105, 115, 116]⟩, .int .i64 g.l, .string ⟨#[117, 112]⟩, .int .i64 g.u, .string ⟨#[109, 111, 115, 116]⟩, .int .i64 g.m] 56)).alloc (.cells #[.string ⟨#[116, 114, 105, 109]⟩, .int .i64 g.t] 55)) (w2.heap.size + 1) 55 #[.string ⟨#[116, 114, 105, 109]⟩, .int .i64 g.t] := Blk.new_at _ _ _ _ (by simp)
  have hz2 := hB2.size
  go_wp2_with fail
  go_loopw [26] (fun i wr => ∃ (k : Nat) (nm : ByteArray) (lf : Int), k ≤ 4 ∧ i = .int .i64 k ∧ Below w.heap.size w wr ∧ Blk wr (w2.heap.size + 1) 55 #[.string nm, .int .i64 lf] ∧ Hid (bestAt g k = (nm, lf))) (fun i _ => 4 - (intOf i).toNat)
  case atStart => exact ⟨0, _, _, by omega, rfl, hB3, hk3, Lib.hid rfl⟩
  case round =>
    obtain ⟨k, nm, lf, hk, rfl, hbel, hks, hd⟩ := hrel
    clear hB2 hB3 hk3
    have c0 := hks.cell 0; have c1 := hks.cell 1; have f0 := hks.frozen 0; have f1 := hks.frozen 1
    simp only [List.getElem?_toArray, List.getElem?_cons_zero, List.getElem?_cons_succ] at c0 c1
    have hlt := hks.lt
    rcases k with _ | _ | _ | _ | k
    · skip
      by_cases h : g.t < lf
      · have e0 := Lib.hid (show bestAt g 1 = (nameAt (1 - 1), leftAt g (1 - 1)) by rw [bestAt, hd.out]; exact if_pos h)
        go_wp2_with fail
        go_roundw
        case rel => exact ⟨1, _, _, by omega, by go_num, ((hbel.setCell (by simp; omega) _).setCell (by simp; omega) _).alloc ((hbel.setCell (by simp; omega) _).setCell (by simp; omega) _).size _, (set2 hks _ _).alloc _, e0⟩
        case measure => simp [intOf]
      · have e0 := Lib.hid (show bestAt g 1 = (nm, lf) by rw [bestAt, hd.out]; exact if_neg h)
        go_wp2_with fail
        go_roundw
        case rel => exact ⟨1, _, _, by omega, by go_num, hbel.alloc hbel.size _, hks.alloc _, e0⟩
        case measure => simp [intOf]
    · skip
      by_cases h : g.l < lf
      · have e0 := Lib.hid (show bestAt g 2 = (nameAt (2 - 1), leftAt g (2 - 1)) by rw [bestAt, hd.out]; exact if_pos h)
        go_wp2_with fail
        go_roundw
        case rel => exact ⟨2, _, _, by omega, by go_num, ((hbel.setCell (by simp; omega) _).setCell (by simp; omega) _).alloc ((hbel.setCell (by simp; omega) _).setCell (by simp; omega) _).size _, (set2 hks _ _).alloc _, e0⟩
        case measure => simp [intOf]
      · have e0 := Lib.hid (show bestAt g 2 = (nm, lf) by rw [bestAt, hd.out]; exact if_neg h)
        go_wp2_with fail
        go_roundw
        case rel => exact ⟨2, _, _, by omega, by go_num, hbel.alloc hbel.size _, hks.alloc _, e0⟩
        case measure => simp [intOf]
    · skip
      by_cases h : g.u < lf
      · have e0 := Lib.hid (show bestAt g 3 = (nameAt (3 - 1), leftAt g (3 - 1)) by rw [bestAt, hd.out]; exact if_pos h)
        go_wp2_with fail
        go_roundw
        case rel => exact ⟨3, _, _, by omega, by go_num, ((hbel.setCell (by simp; omega) _).setCell (by simp; omega) _).alloc ((hbel.setCell (by simp; omega) _).setCell (by simp; omega) _).size _, (set2 hks _ _).alloc _, e0⟩
        case measure => simp [intOf]
      · have e0 := Lib.hid (show bestAt g 3 = (nm, lf) by rw [bestAt, hd.out]; exact if_neg h)
        go_wp2_with fail
        go_roundw
        case rel => exact ⟨3, _, _, by omega, by go_num, hbel.alloc hbel.size _, hks.alloc _, e0⟩
        case measure => simp [intOf]
    · skip
      by_cases h : g.m < lf
      · have e0 := Lib.hid (show bestAt g 4 = (nameAt (4 - 1), leftAt g (4 - 1)) by rw [bestAt, hd.out]; exact if_pos h)
        go_wp2_with fail
        go_roundw
        case rel => exact ⟨4, _, _, by omega, by go_num, ((hbel.setCell (by simp; omega) _).setCell (by simp; omega) _).alloc ((hbel.setCell (by simp; omega) _).setCell (by simp; omega) _).size _, (set2 hks _ _).alloc _, e0⟩
        case measure => simp [intOf]
      · have e0 := Lib.hid (show bestAt g 4 = (nm, lf) by rw [bestAt, hd.out]; exact if_neg h)
        go_wp2_with fail
        go_roundw
        case rel => exact ⟨4, _, _, by omega, by go_num, hbel.alloc hbel.size _, hks.alloc _, e0⟩
        case measure => simp [intOf]
    · obtain rfl : k = 0 := by omega
      have e0 := Lib.hid (HR.out.symm.trans hd.out)
      go_wp2_with fail
      go_quiet (fail)
      go_wp2_with fail
      go_ret2
      exact ⟨ret_sk e0.out, below_drewN hbel _⟩
end Go.Proofs.Yteciegpfiipokaa
