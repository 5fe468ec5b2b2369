/- The document's Put once more, with where its row lies. No condition. -/
import Derived.Test.YteannbphaodadaaDgA
namespace Go.Proofs.Yteannbphaodadaa.kit
open Go.RowKit Go.PlainAid Go.Maps
set_option linter.unusedVariables false

/-- The row that was, or a new one. -/
def PutAt (A A' : Option Addr) (w : World) : Prop := ∀ x off, A' = some ⟨x, off, none⟩ → A = some ⟨x, off, none⟩ ∨ w.heap.size ≤ x
set_option maxRecDepth 100000 in
set_option maxHeartbeats 3200000 in
theorem rput_far (A : Option Addr) (n c : Nat) (xs : List ByteArray) (s : ByteArray) (w : World) (h : SliceOf w 1 strC A n xs) (hm : n ≤ 100000) (hc : n ≤ c) (hcm : c ≤ maxLen) :
    Calls Try.prog 14 #[.slice A n c, .string s] w fun e w' => ∃ (A' : Option Addr) (m c' : Nat), e = .returned (.slice A' m c') ∧ m ≤ c' ∧ c' ≤ maxLen ∧ SliceOf w' 1 strC A' m (putS xs s) ∧ Below w.heap.size w w' ∧ PutAt A A' w := by
  have H := Lib.hid h
  have hl := h.len
  have HCM := Lib.hid hcm
  unfold maxLen at hcm
  clear h
  obtain ⟨i0, hi, hz0, hz1, hz2⟩ := info_parts infoStr
  go_enter Try.func14, Try.ntmps14
  go_wp2_with fail
  go_loop [5] (fun i => ∃ k : Nat, k ≤ n ∧ i = .int .i64 k ∧ Hid (∀ i x, i < k → xs[i]? = some x → ltS x s)) (fun i => n - (intOf i).toNat)
  case atStart => exact ⟨0, by omega, rfl, Lib.hid (fun i x hi => by omega)⟩
  case round =>
    obtain ⟨k, hk, rfl, hd⟩ := hrel
    by_cases hlt : k < n
    · obtain ⟨b, off, x, rfl, hx, c0⟩ := get_str H.out hlt
      have HX := Lib.hid hx
      have HD := Lib.hid (dropS hx)
      clear hx
      have q1 := eq_str x s
      have q2 := lt_str x s
      by_cases hxl : ltS x s
      · have d2 : Op.bytesLess x.toList s.toList = true := by rw [q2]; exact decide_eq_true hxl
        have e0 : Hid (∀ i y, i < k + 1 → xs[i]? = some y → ltS y s) := Lib.hid (fun i y hi hy => by
          rcases Nat.lt_or_ge i k with h1 | h1
          · exact hd.out i y h1 hy
          · have : i = k := by omega
            subst this
            rw [HX.out] at hy
            injection hy with hy
            rw [← hy]; exact hxl)
        clear q1 q2 hxl
        go_wp2_with fail
        go_round
        case rel => exact ⟨k + 1, by omega, by go_num, e0⟩
        case measure => simp [intOf]; omega
      have d2 : Op.bytesLess x.toList s.toList = false := by rw [q2]; exact decide_eq_false hxl
      by_cases hxs : x = s
      · have d1 : (x.toList == s.toList) = true := by rw [q1]; exact decide_eq_true hxs
        have e0 : Hid (putS xs s = xs) := Lib.hid (by
          rw [put_at hd.out (by omega), HD.out, putS, if_neg hxl, if_pos hxs, ← HD.out, List.take_append_drop])
        clear q1 q2 hxs hxl
        go_wp2_with fail
        go_ret
        exact ⟨_, _, _, rfl, hc, HCM.out, by rw [e0.out]; exact H.out, Below.refl _ _, fun x off e => .inl e⟩
      · have d1 : (x.toList == s.toList) = false := by rw [q1]; exact decide_eq_false hxs
        have HR : Hid (putS xs s = xs.take k ++ [s] ++ xs.drop k) := Lib.hid (by
          rw [put_at hd.out (by omega)]
          conv => lhs; rw [HD.out]
          rw [putS, if_neg hxl, if_neg hxs, ← HD.out, List.append_assoc]; rfl)
        have hxd : (xs.drop k).length = n - k := by rw [List.length_drop, hl]
        have hxt : (xs.take k).length = k := by rw [List.length_take, hl]; omega
        have HDR := Lib.hid (H.out.drop_ (k := k) (cap := c) (by omega) hc)
        rw [if_neg (by omega)] at HDR
        have HDX : Hid (SliceOf w 1 strC (some ⟨b, off + k, none⟩) (n - k) (xs.drop k)) := Lib.hid (by have := HDR.out; simpa [addr_add] using this)
        clear HDR
        have HT := Lib.hid (H.out.take_ (k := k) (by omega))
        have HLEN : Hid ((xs.take k ++ [s] ++ xs.drop k).length = k + 1 + (n - k)) := Lib.hid (by rw [List.length_append, List.length_append, hxt, hxd]; rfl)
        clear q1 q2 hxs hxl
        go_wp2_with (first | (at_builtin; refine wpList_append_any_s (w.alloc (.cells #[] 9)) rfl (.tmp 34) (.tmp 37) 26 rfl w.heap.size 9 i0 _ 1 16 Try.underlying26 hi hz0 hz1 hz2 rfl (by omega) (.slice (some ⟨w.heap.size, 0, none⟩) 0 0) 0 [] rfl (own_first0 w) _ (some ⟨b, off, none⟩) k _ ((xs.take k).flatMap strC) rfl ((HT.out.below (one_alloc w _)).reads (fun _ => rfl)) (str_one _) (by unfold maxLen; omega) (by omega) (size_first0 w _) ?_; intro A9 c9 w9 hown1 hg1 hloc1; have hB9 := grown_emp0 (one_alloc w _) hg1 (Nat.le_refl _); simp only [Nat.zero_add, List.nil_append] at hown1; have HB9 := Lib.hid hB9; have HO9 := Lib.hid hown1; clear hown1 hg1 hloc1 hB9) | (at_builtin; refine wpList_append_any_s (w9.alloc (.cells #[.string s] 9)) rfl (.tmp 38) (.tmp 40) 26 rfl w.heap.size 9 i0 _ 1 16 Try.underlying26 hi hz0 hz1 hz2 rfl (by omega) (.slice A9 k c9) k _ rfl (HO9.out.alloc _) _ (some ⟨w9.heap.size, 0, none⟩) 1 1 [.string s] rfl ((SliceOf.blk (en := strC) (Blk.new_at _ 9 #[.string s] _ rfl) [s] rfl (fun _ => rfl) rfl).reads (fun _ => rfl)) (by simp [Value.oneCell']) (by unfold maxLen; omega) (by omega) (HB9.out.alloc HB9.out.size _).size ?_; intro A8 c8 w8 hown2 hg2 hloc2; have hB8 : Below w.heap.size w w8 := (HB9.out.alloc HB9.out.size _).grown hg2 (HB9.out.alloc HB9.out.size _).size (fun j hj => (HO9.out.lt j hj).1); rw [show (xs.take k).flatMap strC ++ [Value.string s] = ((xs.take k) ++ [s]).flatMap strC by rw [List.flatMap_append]; rfl] at hown2; have HB8 := Lib.hid hB8; have HO8 := Lib.hid hown2; clear hown2 hg2 hloc2 hB8) | (at_builtin; (refine wpList_append_any_s w8 rfl (.tmp 42) (.tmp 45) 26 rfl w.heap.size 9 i0 _ 1 16 Try.underlying26 hi hz0 hz1 hz2 rfl (by omega) (.slice A8 (k + 1) c8) (k + 1) _ rfl HO8.out _ (some ⟨b, off + k, none⟩) (n - k) _ ((xs.drop k).flatMap strC) rfl ((HDX.out.below HB8.out).reads (fun _ => rfl)) (str_one _) (by unfold maxLen; omega) (by omega) HB8.out.size ?_); intro A7 c7 w7 hown3 hg3 hloc3; have hB7 : Below w.heap.size w w7 := HB8.out.grown hg3 HB8.out.size (fun j hj => (HO8.out.lt j hj).1); rw [← List.flatMap_append] at hown3; have HB7 := Lib.hid hB7; have HO7 := Lib.hid hown3; clear hown3 hg3 hloc3 hB7))
        go_ret
        obtain ⟨A6, c6, e6, u1, u2, u3, u5, u4⟩ := madeC_of HO7.out (HLEN.out) HB7.out
        rw [HLEN.out] at e6 u1 u3
        injection e6 with e7 e8 e9
        subst e7 e9
        exact ⟨_, _, _, rfl, u1, u2, by rw [HR.out]; exact u3, u4, fun x off e => .inr (u5 x off e)⟩
    · have hkn : k = n := by omega
      subst hkn
      have HR : Hid (putS xs s = xs.take k ++ [s] ++ []) := Lib.hid (by
        rw [put_at hd.out (by omega), List.drop_eq_nil_of_le (by omega), putS, List.append_nil])
      have hxt : (xs.take k).length = k := by rw [List.length_take, hl]; omega
      have HT := Lib.hid (H.out.take_ (k := k) (by omega))
      have HLEN : Hid ((xs.take k ++ [s] ++ []).length = k + 1 + 0) := Lib.hid (by rw [List.append_nil, List.length_append, hxt]; rfl)
      by_cases hcn : c = k
      all_goals
        go_wp2_with (first | (at_builtin; refine wpList_append_any_s (w.alloc (.cells #[] 9)) rfl (.tmp 34) (.tmp 37) 26 rfl w.heap.size 9 i0 _ 1 16 Try.underlying26 hi hz0 hz1 hz2 rfl (by omega) (.slice (some ⟨w.heap.size, 0, none⟩) 0 0) 0 [] rfl (own_first0 w) _ A k _ ((xs.take k).flatMap strC) rfl ((HT.out.below (one_alloc w _)).reads (fun _ => rfl)) (str_one _) (by unfold maxLen; omega) (by omega) (size_first0 w _) ?_; intro A9 c9 w9 hown1 hg1 hloc1; have hB9 := grown_emp0 (one_alloc w _) hg1 (Nat.le_refl _); simp only [Nat.zero_add, List.nil_append] at hown1; have HB9 := Lib.hid hB9; have HO9 := Lib.hid hown1; clear hown1 hg1 hloc1 hB9) | (at_builtin; refine wpList_append_any_s (w9.alloc (.cells #[.string s] 9)) rfl (.tmp 38) (.tmp 40) 26 rfl w.heap.size 9 i0 _ 1 16 Try.underlying26 hi hz0 hz1 hz2 rfl (by omega) (.slice A9 k c9) k _ rfl (HO9.out.alloc _) _ (some ⟨w9.heap.size, 0, none⟩) 1 1 [.string s] rfl ((SliceOf.blk (en := strC) (Blk.new_at _ 9 #[.string s] _ rfl) [s] rfl (fun _ => rfl) rfl).reads (fun _ => rfl)) (by simp [Value.oneCell']) (by unfold maxLen; omega) (by omega) (HB9.out.alloc HB9.out.size _).size ?_; intro A8 c8 w8 hown2 hg2 hloc2; have hB8 : Below w.heap.size w w8 := (HB9.out.alloc HB9.out.size _).grown hg2 (HB9.out.alloc HB9.out.size _).size (fun j hj => (HO9.out.lt j hj).1); rw [show (xs.take k).flatMap strC ++ [Value.string s] = ((xs.take k) ++ [s]).flatMap strC by rw [List.flatMap_append]; rfl] at hown2; have HB8 := Lib.hid hB8; have HO8 := Lib.hid hown2; clear hown2 hg2 hloc2 hB8) | (at_builtin; (refine wpList_append_any_s w8 rfl (.tmp 42) (.tmp 45) 26 rfl w.heap.size 9 i0 _ 1 16 Try.underlying26 hi hz0 hz1 hz2 rfl (by omega) (.slice A8 (k + 1) c8) (k + 1) _ rfl HO8.out _ _ 0 _ (([] : List ByteArray).flatMap strC) rfl (reads_none _ 0 _) (str_one _) (by unfold maxLen; omega) (by omega) HB8.out.size ?_); intro A7 c7 w7 hown3 hg3 hloc3; have hB7 : Below w.heap.size w w7 := HB8.out.grown hg3 HB8.out.size (fun j hj => (HO8.out.lt j hj).1); rw [← List.flatMap_append] at hown3; have HB7 := Lib.hid hB7; have HO7 := Lib.hid hown3; clear hown3 hg3 hloc3 hB7))
        go_ret
        obtain ⟨A6, c6, e6, u1, u2, u3, u5, u4⟩ := madeC_of HO7.out (HLEN.out) HB7.out
        rw [HLEN.out] at e6 u1 u3
        injection e6 with e7 e8 e9
        subst e7 e9
        exact ⟨_, _, _, rfl, u1, u2, by rw [HR.out]; exact u3, u4, fun x off e => .inr (u5 x off e)⟩
end Go.Proofs.Yteannbphaodadaa.kit
