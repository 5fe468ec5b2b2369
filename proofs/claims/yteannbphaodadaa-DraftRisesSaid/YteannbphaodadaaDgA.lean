/- The document's Put and in: a text among rising ones. No condition. -/
import Derived.Test.YteannbphaodadaaDfL
import Derived.Test.YteannbphaodadaaOwn
import Derived.WalkLawsBesides
import Derived.Sort.Walk0
namespace Go.Proofs.Yteannbphaodadaa.kit
open Go.RowKit Go.PlainAid Go.Maps
set_option linter.unusedVariables false

theorem infoStr : (Try.prog.info? 9).map (fun i => (i.zero, i.size, i.bytes)) = some (some (.string ByteArray.empty), 1, 16) := by kernel_rfl
/-- A list of texts made since W. -/
def MadeC (W : World) (xs : List ByteArray) (v : Value) (w' : World) : Prop :=
  ∃ (A : Option Addr) (c : Nat), v = .slice A xs.length c ∧ xs.length ≤ c ∧ c ≤ maxLen ∧ SliceOf w' 1 strC A xs.length xs ∧ (∀ b off, A = some ⟨b, off, none⟩ → W.heap.size ≤ b) ∧ Below W.heap.size W w'
theorem madeC_of {W w' : World} {n : Nat} {xs : List ByteArray} {v : Value} (h : w'.ownsRow W.heap.size 9 1 v n (xs.flatMap strC)) (hn : xs.length = n) (hb : Below W.heap.size W w') : MadeC W xs v w' := by
  subst hn
  have h2 := h.2
  rcases h2 with ⟨hv, h0⟩ | ⟨g, cap, cur, hv, hg, hh, hnc, hcm, hcs, ht⟩
  · refine ⟨none, 0, by rw [hv, h0], by omega, by unfold maxLen; omega, ?_, (fun b off e => by cases e), hb⟩
    have : xs = [] := List.eq_nil_of_length_eq_zero h0
    subst this
    exact SliceOf.none_
  · subst hv
    exact ⟨_, cap, rfl, hnc, hcm, SliceOf.of_own_s h (fun _ => rfl) rfl rfl, (fun b off e => by injection e with e; injection e with e1 e2; omega), hb⟩
theorem get_str {w : World} {A : Option Addr} {n : Nat} {xs : List ByteArray} (h : SliceOf w 1 strC A n xs) {k : Nat} (hk : k < n) : ∃ b off x, A = some ⟨b, off, none⟩ ∧ xs[k]? = some x ∧ w.cell? ⟨b, off + k, none⟩ = some (.string x) := by
  have hl := h.len
  obtain ⟨x, hxk⟩ : ∃ x, xs[k]? = some x := ⟨_, List.getElem?_eq_getElem (by omega)⟩
  obtain ⟨b, off, rfl, hb, hc⟩ := h.at_ (by omega)
  exact ⟨b, off, x, rfl, hxk, by simpa using hc k _ hxk 0 _ rfl⟩
theorem takeS {xs : List ByteArray} {k : Nat} {x : ByteArray} (h : xs[k]? = some x) : xs.take (k + 1) = xs.take k ++ [x] := by rw [List.take_add_one, h]; rfl
theorem dropS {xs : List ByteArray} {k : Nat} {x : ByteArray} (h : xs[k]? = some x) : xs.drop k = x :: xs.drop (k + 1) := by
  obtain ⟨hk, he⟩ := List.getElem?_eq_some_iff.1 h
  rw [List.drop_eq_getElem_cons hk, he]
set_option maxHeartbeats 1600000 in
theorem rin_any (A : Option Addr) (n c : Nat) (xs : List ByteArray) (s : ByteArray) (w : World) (h : SliceOf w 1 strC A n xs) (hm : n ≤ maxLen) :
    Calls Try.prog 46 #[.slice A n c, .string s] w fun e w' => e = .returned (.bool (memS xs s)) ∧ w = w' := by
  unfold maxLen at hm
  have H := Lib.hid h
  have hl := h.len
  clear h
  go_enter Try.func46, Try.ntmps46
  go_wp2_with fail
  go_loop [5] (fun i => ∃ k : Nat, k ≤ n ∧ i = .int .i64 k ∧ Hid (memS xs s = memS (xs.drop k) s)) (fun i => n - (intOf i).toNat)
  case atStart => exact ⟨0, by omega, rfl, Lib.hid rfl⟩
  case round =>
    obtain ⟨k, hk, rfl, hd⟩ := hrel
    by_cases hlt : k < n
    · obtain ⟨b, off, x, rfl, hx, c0⟩ := get_str H.out hlt
      have HX := Lib.hid (dropS hx)
      clear hx
      have q1 := eq_str x s
      by_cases hxs : x = s
      · have d1 : (x.toList == s.toList) = true := by rw [q1]; exact decide_eq_true hxs
        have e0 : Hid (true = memS xs s) := Lib.hid (by rw [hd.out, HX.out]; unfold memS; rw [List.any_cons, decide_eq_true hxs]; rfl)
        clear q1 hxs
        go_wp2_with fail
        go_ret
        exact ⟨ret_bool e0.out, rfl⟩
      · have d1 : (x.toList == s.toList) = false := by rw [q1]; exact decide_eq_false hxs
        have e0 : Hid (memS xs s = memS (xs.drop (k + 1)) s) := Lib.hid (by rw [hd.out, HX.out]; unfold memS; rw [List.any_cons, decide_eq_false hxs]; rfl)
        clear q1 hxs
        go_wp2_with fail
        go_round
        case rel => exact ⟨k + 1, by omega, by go_num, e0⟩
        case measure => simp [intOf]; omega
    · have e0 : Hid (false = memS xs s) := Lib.hid (by rw [hd.out, List.drop_eq_nil_of_le (by omega)]; rfl)
      go_wp2_with fail
      go_ret
      exact ⟨ret_bool e0.out, rfl⟩
theorem put_at {xs : List ByteArray} {s : ByteArray} {k : Nat} : (∀ i x, i < k → xs[i]? = some x → ltS x s) → k ≤ xs.length → putS xs s = xs.take k ++ putS (xs.drop k) s := by
  induction k generalizing xs with
  | zero => intro _ _; simp
  | succ k ih =>
    intro h hk
    cases xs with
    | nil => simp at hk
    | cons x xs =>
      have h0 := h 0 x (by omega) rfl
      rw [putS, if_pos h0, List.take_succ_cons, List.drop_succ_cons, List.cons_append]
      congr 1
      exact ih (fun i y hi hy => h (i + 1) y (by omega) (by simpa using hy)) (by simpa using hk)
theorem lt_str (a b : ByteArray) : Op.bytesLess a.toList b.toList = decide (ltS a b) := by
  rw [ByteArray.toList_eq, ByteArray.toList_eq, bytesLess_eq]
  rfl
theorem str_one (zs : List ByteArray) : ∀ u ∈ zs.flatMap strC, u.oneCell' = true := by
  intro u hu
  obtain ⟨z, _, hz⟩ := List.mem_flatMap.1 hu
  simp [strC] at hz
  subst hz
  rfl
theorem reads_none (w : World) (B : Nat) (A : Option Addr) : Reads w B 1 A 0 (([] : List ByteArray).flatMap strC) := ⟨by simp, fun h => by omega⟩
set_option maxRecDepth 100000 in
set_option maxHeartbeats 3200000 in
theorem rput_any (A : Option Addr) (n c : Nat) (xs : List ByteArray) (s : ByteArray) (w : World) (h : SliceOf w 1 strC A n xs) (hm : n ≤ 100000) (hc : n ≤ c) (hcm : c ≤ maxLen) :
    Calls Try.prog 14 #[.slice A n c, .string s] w fun e w' => ∃ (A' : Option Addr) (m c' : Nat), e = .returned (.slice A' m c') ∧ m ≤ c' ∧ c' ≤ maxLen ∧ SliceOf w' 1 strC A' m (putS xs s) ∧ Below w.heap.size w w' := by
  have H := Lib.hid h
  have hl := h.len
  have HCM := Lib.hid hcm
  unfold maxLen at hcm
  clear h
  obtain ⟨i0, hi, hz0, hz1, hz2⟩ := info_parts infoStr
  go_enter Try.func14, Try.ntmps14
  go_wp2_with fail
  go_loop [5] (fun i => ∃ k : Nat, k ≤ n ∧ i = .int .i64 k ∧ Hid (∀ i x, i < k → xs[i]? = some x → ltS x s)) (fun i => n - (intOf i).toNat)
  case atStart => exact ⟨0, by omega, rfl, Lib.hid (fun i x hi => by omega)⟩
  case round =>
    obtain ⟨k, hk, rfl, hd⟩ := hrel
    by_cases hlt : k < n
    · obtain ⟨b, off, x, rfl, hx, c0⟩ := get_str H.out hlt
      have HX := Lib.hid hx
      have HD := Lib.hid (dropS hx)
      clear hx
      have q1 := eq_str x s
      have q2 := lt_str x s
      by_cases hxl : ltS x s
      · have d2 : Op.bytesLess x.toList s.toList = true := by rw [q2]; exact decide_eq_true hxl
        have e0 : Hid (∀ i y, i < k + 1 → xs[i]? = some y → ltS y s) := Lib.hid (fun i y hi hy => by
          rcases Nat.lt_or_ge i k with h1 | h1
          · exact hd.out i y h1 hy
          · have : i = k := by omega
            subst this
            rw [HX.out] at hy
            injection hy with hy
            rw [← hy]; exact hxl)
        clear q1 q2 hxl
        go_wp2_with fail
        go_round
        case rel => exact ⟨k + 1, by omega, by go_num, e0⟩
        case measure => simp [intOf]; omega
      have d2 : Op.bytesLess x.toList s.toList = false := by rw [q2]; exact decide_eq_false hxl
      by_cases hxs : x = s
      · have d1 : (x.toList == s.toList) = true := by rw [q1]; exact decide_eq_true hxs
        have e0 : Hid (putS xs s = xs) := Lib.hid (by
          rw [put_at hd.out (by omega), HD.out, putS, if_neg hxl, if_pos hxs, ← HD.out, List.take_append_drop])
        clear q1 q2 hxs hxl
        go_wp2_with fail
        go_ret
        exact ⟨_, _, _, rfl, hc, HCM.out, by rw [e0.out]; exact H.out, Below.refl _ _⟩
      · have d1 : (x.toList == s.toList) = false := by rw [q1]; exact decide_eq_false hxs
        have HR : Hid (putS xs s = xs.take k ++ [s] ++ xs.drop k) := Lib.hid (by
          rw [put_at hd.out (by omega)]
          conv => lhs; rw [HD.out]
          rw [putS, if_neg hxl, if_neg hxs, ← HD.out, List.append_assoc]; rfl)
        have hxd : (xs.drop k).length = n - k := by rw [List.length_drop, hl]
        have hxt : (xs.take k).length = k := by rw [List.length_take, hl]; omega
        have HDR := Lib.hid (H.out.drop_ (k := k) (cap := c) (by omega) hc)
        rw [if_neg (by omega)] at HDR
        have HDX : Hid (SliceOf w 1 strC (some ⟨b, off + k, none⟩) (n - k) (xs.drop k)) := Lib.hid (by have := HDR.out; simpa [addr_add] using this)
        clear HDR
        have HT := Lib.hid (H.out.take_ (k := k) (by omega))
        have HLEN : Hid ((xs.take k ++ [s] ++ xs.drop k).length = k + 1 + (n - k)) := Lib.hid (by rw [List.length_append, List.length_append, hxt, hxd]; rfl)
        clear q1 q2 hxs hxl
        go_wp2_with (first | (at_builtin; refine wpList_append_any_s (w.alloc (.cells #[] 9)) rfl (.tmp 34) (.tmp 37) 26 rfl w.heap.size 9 i0 _ 1 16 Try.underlying26 hi hz0 hz1 hz2 rfl (by omega) (.slice (some ⟨w.heap.size, 0, none⟩) 0 0) 0 [] rfl (own_first0 w) _ (some ⟨b, off, none⟩) k _ ((xs.take k).flatMap strC) rfl ((HT.out.below (one_alloc w _)).reads (fun _ => rfl)) (str_one _) (by unfold maxLen; omega) (by omega) (size_first0 w _) ?_; intro A9 c9 w9 hown1 hg1 hloc1; have hB9 := grown_emp0 (one_alloc w _) hg1 (Nat.le_refl _); simp only [Nat.zero_add, List.nil_append] at hown1; have HB9 := Lib.hid hB9; have HO9 := Lib.hid hown1; clear hown1 hg1 hloc1 hB9) | (at_builtin; refine wpList_append_any_s (w9.alloc (.cells #[.string s] 9)) rfl (.tmp 38) (.tmp 40) 26 rfl w.heap.size 9 i0 _ 1 16 Try.underlying26 hi hz0 hz1 hz2 rfl (by omega) (.slice A9 k c9) k _ rfl (HO9.out.alloc _) _ (some ⟨w9.heap.size, 0, none⟩) 1 1 [.string s] rfl ((SliceOf.blk (en := strC) (Blk.new_at _ 9 #[.string s] _ rfl) [s] rfl (fun _ => rfl) rfl).reads (fun _ => rfl)) (by simp [Value.oneCell']) (by unfold maxLen; omega) (by omega) (HB9.out.alloc HB9.out.size _).size ?_; intro A8 c8 w8 hown2 hg2 hloc2; have hB8 : Below w.heap.size w w8 := (HB9.out.alloc HB9.out.size _).grown hg2 (HB9.out.alloc HB9.out.size _).size (fun j hj => (HO9.out.lt j hj).1); rw [show (xs.take k).flatMap strC ++ [Value.string s] = ((xs.take k) ++ [s]).flatMap strC by rw [List.flatMap_append]; rfl] at hown2; have HB8 := Lib.hid hB8; have HO8 := Lib.hid hown2; clear hown2 hg2 hloc2 hB8) | (at_builtin; (refine wpList_append_any_s w8 rfl (.tmp 42) (.tmp 45) 26 rfl w.heap.size 9 i0 _ 1 16 Try.underlying26 hi hz0 hz1 hz2 rfl (by omega) (.slice A8 (k + 1) c8) (k + 1) _ rfl HO8.out _ (some ⟨b, off + k, none⟩) (n - k) _ ((xs.drop k).flatMap strC) rfl ((HDX.out.below HB8.out).reads (fun _ => rfl)) (str_one _) (by unfold maxLen; omega) (by omega) HB8.out.size ?_); intro A7 c7 w7 hown3 hg3 hloc3; have hB7 : Below w.heap.size w w7 := HB8.out.grown hg3 HB8.out.size (fun j hj => (HO8.out.lt j hj).1); rw [← List.flatMap_append] at hown3; have HB7 := Lib.hid hB7; have HO7 := Lib.hid hown3; clear hown3 hg3 hloc3 hB7))
        go_ret
        obtain ⟨A6, c6, e6, u1, u2, u3, _, u4⟩ := madeC_of HO7.out (HLEN.out) HB7.out
        rw [HLEN.out] at e6 u1 u3
        injection e6 with e7 e8 e9
        subst e7 e9
        exact ⟨_, _, _, rfl, u1, u2, by rw [HR.out]; exact u3, u4⟩
    · have hkn : k = n := by omega
      subst hkn
      have HR : Hid (putS xs s = xs.take k ++ [s] ++ []) := Lib.hid (by
        rw [put_at hd.out (by omega), List.drop_eq_nil_of_le (by omega), putS, List.append_nil])
      have hxt : (xs.take k).length = k := by rw [List.length_take, hl]; omega
      have HT := Lib.hid (H.out.take_ (k := k) (by omega))
      have HLEN : Hid ((xs.take k ++ [s] ++ []).length = k + 1 + 0) := Lib.hid (by rw [List.append_nil, List.length_append, hxt]; rfl)
      by_cases hcn : c = k
      all_goals
        go_wp2_with (first | (at_builtin; refine wpList_append_any_s (w.alloc (.cells #[] 9)) rfl (.tmp 34) (.tmp 37) 26 rfl w.heap.size 9 i0 _ 1 16 Try.underlying26 hi hz0 hz1 hz2 rfl (by omega) (.slice (some ⟨w.heap.size, 0, none⟩) 0 0) 0 [] rfl (own_first0 w) _ A k _ ((xs.take k).flatMap strC) rfl ((HT.out.below (one_alloc w _)).reads (fun _ => rfl)) (str_one _) (by unfold maxLen; omega) (by omega) (size_first0 w _) ?_; intro A9 c9 w9 hown1 hg1 hloc1; have hB9 := grown_emp0 (one_alloc w _) hg1 (Nat.le_refl _); simp only [Nat.zero_add, List.nil_append] at hown1; have HB9 := Lib.hid hB9; have HO9 := Lib.hid hown1; clear hown1 hg1 hloc1 hB9) | (at_builtin; refine wpList_append_any_s (w9.alloc (.cells #[.string s] 9)) rfl (.tmp 38) (.tmp 40) 26 rfl w.heap.size 9 i0 _ 1 16 Try.underlying26 hi hz0 hz1 hz2 rfl (by omega) (.slice A9 k c9) k _ rfl (HO9.out.alloc _) _ (some ⟨w9.heap.size, 0, none⟩) 1 1 [.string s] rfl ((SliceOf.blk (en := strC) (Blk.new_at _ 9 #[.string s] _ rfl) [s] rfl (fun _ => rfl) rfl).reads (fun _ => rfl)) (by simp [Value.oneCell']) (by unfold maxLen; omega) (by omega) (HB9.out.alloc HB9.out.size _).size ?_; intro A8 c8 w8 hown2 hg2 hloc2; have hB8 : Below w.heap.size w w8 := (HB9.out.alloc HB9.out.size _).grown hg2 (HB9.out.alloc HB9.out.size _).size (fun j hj => (HO9.out.lt j hj).1); rw [show (xs.take k).flatMap strC ++ [Value.string s] = ((xs.take k) ++ [s]).flatMap strC by rw [List.flatMap_append]; rfl] at hown2; have HB8 := Lib.hid hB8; have HO8 := Lib.hid hown2; clear hown2 hg2 hloc2 hB8) | (at_builtin; (refine wpList_append_any_s w8 rfl (.tmp 42) (.tmp 45) 26 rfl w.heap.size 9 i0 _ 1 16 Try.underlying26 hi hz0 hz1 hz2 rfl (by omega) (.slice A8 (k + 1) c8) (k + 1) _ rfl HO8.out _ _ 0 _ (([] : List ByteArray).flatMap strC) rfl (reads_none _ 0 _) (str_one _) (by unfold maxLen; omega) (by omega) HB8.out.size ?_); intro A7 c7 w7 hown3 hg3 hloc3; have hB7 : Below w.heap.size w w7 := HB8.out.grown hg3 HB8.out.size (fun j hj => (HO8.out.lt j hj).1); rw [← List.flatMap_append] at hown3; have HB7 := Lib.hid hB7; have HO7 := Lib.hid hown3; clear hown3 hg3 hloc3 hB7))
        go_ret
        obtain ⟨A6, c6, e6, u1, u2, u3, _, u4⟩ := madeC_of HO7.out (HLEN.out) HB7.out
        rw [HLEN.out] at e6 u1 u3
        injection e6 with e7 e8 e9
        subst e7 e9
        exact ⟨_, _, _, rfl, u1, u2, by rw [HR.out]; exact u3, u4⟩
end Go.Proofs.Yteannbphaodadaa.kit
