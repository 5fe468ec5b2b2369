/- mark.Mend whole. No condition. -/
import Derived.Test.YtjemmddgeejffaaDoorMeA
namespace Go.Proofs.YtjemmddgeejffaaDoor.kit
open Go.RowKit Go.PlainAid Go.Sort
set_option linter.unusedVariables false

theorem MeS.drew_ {w W : World} {gs gf : Nat} {s : ByteArray} {xs : List ByteArray} {A : Option Addr} {n cp : Nat} (h : MeS w gs gf s W xs A n cp) : MeS w gs gf s W xs A n cp := h
set_option maxRecDepth 100000 in
set_option maxHeartbeats 3200000 in
theorem mend_any (s : ByteArray) (w : World) (hz : s.size = 12) :
    Calls Tryd.prog 23 #[.string s] w fun e w' => ∃ (A : Option Addr) (n c : Nat), e = .returned (.slice A n c) ∧ SliceOf w' 1 strC A n (mendV s) ∧ n ≤ 432 ∧ Below w.heap.size w w' := by
  have hsz12 : (s.size : Int) = 12 := by omega
  have hcz : (⟨#[97, 98, 99, 100, 101, 102, 103, 104, 105, 106, 107, 108, 109, 110, 111, 112, 113, 114, 115, 116, 117, 118, 119, 120, 121, 122, 48, 49, 50, 51, 52, 53, 54, 55, 56, 57]⟩ : ByteArray).size = 36 := rfl
  have hch := get_bt ⟨#[97, 98, 99, 100, 101, 102, 103, 104, 105, 106, 107, 108, 109, 110, 111, 112, 113, 114, 115, 116, 117, 118, 119, 120, 121, 122, 48, 49, 50, 51, 52, 53, 54, 55, 56, 57]⟩
  have HCH := Lib.hid (show (⟨#[97, 98, 99, 100, 101, 102, 103, 104, 105, 106, 107, 108, 109, 110, 111, 112, 113, 114, 115, 116, 117, 118, 119, 120, 121, 122, 48, 49, 50, 51, 52, 53, 54, 55, 56, 57]⟩ : ByteArray) = chS from rfl)
  have hI : MeS w w.heap.size (w.heap.size + 1) s ((w.alloc (.cells #[.string s] 9)).alloc (.cells #[.slice none 0 0] 35)) (foundN s (0 * 36)) none 0 0 :=
    ⟨(Blk.new _ _ _).alloc _, blk_second _ _ _ _, World.ownsRow_nil _ _ _ _, rfl, two_alloc _ _ _, by rw [size_alloc, size_alloc]; omega, by omega, Nat.le_refl _⟩
  have HI := Lib.hid hI
  clear hI
  go_enter Tryd.func23, Tryd.ntmps23
  go_wp2_with fail
  go_loopw [11] (fun i W => ∃ (p : Nat) (A : Option Addr) (n cp : Nat), p ≤ 12 ∧ i = .int .i64 p ∧ Hid (MeS w w.heap.size (w.heap.size + 1) s W (foundN s (p * 36)) A n cp)) (fun i _ => 12 - (intOf i).toNat)
  case atStart => exact ⟨0, none, 0, 0, by omega, rfl, HI⟩
  case round =>
    obtain ⟨p, A, n, cp, hp, rfl, hm⟩ := hrel
    clear HI
    by_cases hlt : p < 12
    · have t1 : decide ((p : Int) < 12) = true := decide_eq_true (by omega)
      go_wp2_with fail
      go_loopw [14] (fun i W => ∃ (q : Nat) (A : Option Addr) (n cp : Nat), q ≤ 36 ∧ i = .int .i64 q ∧ Hid (MeS w w.heap.size (w.heap.size + 1) s W (foundN s (p * 36 + q)) A n cp)) (fun i _ => 36 - (intOf i).toNat)
      case atStart => exact ⟨0, A, n, cp, by omega, rfl, hm⟩
      case round =>
        clear hm
        obtain ⟨q, A1, n1, cp1, hq, rfl, hm1⟩ := hrel
        by_cases hlq : q < 36
        · have hn1 : n1 ≤ 1000 := by have := hm1.out.len; have := found_len s (p * 36 + q); omega
          have hcb := ch_bd hlq
          have hco : bt ⟨#[97, 98, 99, 100, 101, 102, 103, 104, 105, 106, 107, 108, 109, 110, 111, 112, 113, 114, 115, 116, 117, 118, 119, 120, 121, 122, 48, 49, 50, 51, 52, 53, 54, 55, 56, 57]⟩ q = bt chS q := by rw [HCH.out]
          have HT := Lib.hid (try_any w w.heap.size (w.heap.size + 1) s p (bt chS q) A1 n1 cp1 _ wr hz hlt ⟨by omega, by omega⟩ hn1 hm1.out)
          rw [← hco] at HT
          have HF : Hid (foundN s (p * 36 + q) ++ tryV s p (bt ⟨#[97, 98, 99, 100, 101, 102, 103, 104, 105, 106, 107, 108, 109, 110, 111, 112, 113, 114, 115, 116, 117, 118, 119, 120, 121, 122, 48, 49, 50, 51, 52, 53, 54, 55, 56, 57]⟩ q) = foundN s (p * 36 + (q + 1))) := Lib.hid (by
            rw [hco]
            show _ = foundN s ((p * 36 + q) + 1)
            unfold foundN
            rw [show (p * 36 + q) / 36 = p by omega, show (p * 36 + q) % 36 = q by omega]
            cases p * 36 + q <;> rfl)
          clear hcb hco
          go_wp2_with fail
          refine HT.out.mono ?_
          rintro e w3 ⟨rfl, A2, n2, cp2, hm2⟩
          rw [HF.out] at hm2
          have HM2 := Lib.hid hm2
          clear hm2
          go_wp2_with fail
          go_roundw
          case rel => exact ⟨q + 1, A2, n2, cp2, by omega, by go_num, HM2⟩
          case measure => simp [intOf]; omega
        · have hq36 : q = 36 := by omega
          subst hq36
          go_wp2_with fail
          exact ⟨⟨p + 1, A1, n1, cp1, by omega, by go_num, by rw [show (p + 1) * 36 = p * 36 + 36 by omega]; exact hm1⟩, by simp [intOf]; omega⟩
    · have hp12 : p = 12 := by omega
      subst hp12
      have HM := hm
      have z2 : wr.cell? ⟨w.heap.size + 1, 0, none⟩ = some (.slice A n cp) := hm.out.k2.cell 0
      have hn0 : n ≤ 432 := by have := hm.out.len; have := found_len s (12 * 36); omega
      have HSO := Lib.hid (found_sorted hz)
      have hown := hm.out.own
      clear hm
      rcases hown.2 with ⟨hv, h0⟩ | ⟨g, cap, cur, hv, hbase, hb, h1, h2, h3, h4⟩
      · injection hv with e1 e2 e3
        subst e1 e2 e3
        have HNIL : Hid (mendV s = []) := Lib.hid (by
          have := HM.out.len
          have e : foundN s 432 = [] := List.eq_nil_of_length_eq_zero this
          rw [← HSO.out, e]
          simp)
        clear hown h0
        go_wp2_with fail
        refine (Tryd.slices_Sort_string_none none 0 wr).mono ?_
        rintro e w' ⟨rfl, rfl⟩
        go_wp2_with fail
        go_ret
        exact ⟨none, 0, 0, rfl, by rw [HNIL.out]; exact SliceOf.none_, by omega, HM.out.bel⟩
      · injection hv with e1 e2 e3
        subst e1 e3
        have hfl := HM.out.len
        rw [flat_enc] at h4
        have hlen : ((foundN s 432).map fun x => x.data.toList).length = n := by rw [List.length_map]; exact hfl
        have HS := Lib.hid (Tryd.slices_Sort_string g 0 cp ((foundN s 432).map fun x => x.data.toList) wr (holds_of_block hb (by rw [hlen]; simpa using h4)) (Array.getElem?_eq_some_iff.1 hb).1 (by rw [hlen]; omega))
        have HG := Lib.hid (fun (k : Nat) (os : Array Obj) => ownsRow_sorted (w := wr) (base := w.heap.size + 1 + 1) (g := g) (cap := cp) (n := k) (e := 9) (os := os) (cur := cur) (ss := (foundN s 432).map fun x => x.data.toList) (ts := ((foundN s 432).map fun x => x.data.toList).mergeSort fun x y => decide (x ≤ y)) (by simp) hbase hb (by rw [hlen]; exact h1) h2 h3)
        rw [hlen] at HS HG
        have HLT := Lib.hid (fun k (os : Array Obj) => grownBy_sorted (w := wr) (g := g) (n := k) (os := os) (((foundN s 432).map fun x => x.data.toList).mergeSort fun x y => decide (x ≤ y)).toArray)
        have hgn : w.heap.size + 1 ≠ g := by omega
        clear hown hlen h4 hb h1 h2 h3 hfl
        go_wp2_with fail
        refine HS.out.mono ?_
        rintro e w3 ⟨rfl, k, os, rfl⟩
        have HB3 := Lib.hid (HM.out.bel.grown (HLT.out k os) HM.out.bel.size (fun j hj => by injection hj with hj; omega))
        have HO3 := Lib.hid (HG.out k os)
        have hk3 := HM.out.k2.grown (HLT.out k os) (fun e => hgn (by injection e))
        have z3 := hk3.cell 0
        simp only [List.getElem?_toArray, List.getElem?_cons_zero] at z3
        clear hk3
        obtain ⟨w4, hw4⟩ : ∃ w4, grow (putRow encStr (Sort.ahead wr k) g 0 (((foundN s 432).map fun x => x.data.toList).mergeSort fun x y => decide (x ≤ y)).toArray) os = w4 := ⟨_, rfl⟩
        rw [hw4] at HB3 HO3 z3 ⊢
        clear hw4 HS HG HLT z2
        go_wp2_with fail
        go_ret
        refine ⟨_, n, cp, rfl, ?_, hn0, HB3.out⟩
        refine SliceOf.of_own_s HO3.out (fun _ => rfl) ?_ ?_
        · rw [map_enc, HSO.out]
        · rw [← HSO.out]
          simp
          exact HM.out.len
end Go.Proofs.YtjemmddgeejffaaDoor.kit
