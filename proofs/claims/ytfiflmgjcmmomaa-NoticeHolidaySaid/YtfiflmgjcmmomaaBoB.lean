/- day.joined: both lists, sorted, each number once. No condition. -/
import Derived.Test.YtfiflmgjcmmomaaBoA
import Derived.Lib.OwnBridge
import Derived.Lib.RowBridge
import Derived.Sort.OwnSortedInts
namespace Go.Proofs.Ytfiflmgjcmmomaa.cal
open Go.RowKit Go.Proofs.Ytfiflmgjcmmomaa.kit
set_option linter.unusedVariables false

theorem flat_map (zs : List Int) : zs.flatMap intC = zs.map (Value.int .i64) := by
  induction zs with
  | nil => rfl
  | cons z zs ih => rw [List.flatMap_cons, ih]; rfl
theorem mrg_len {xs ys : List Int} : ∀ (n : Nat) (a b : List Int), a.length + b.length ≤ n → (mrg a b).length ≤ a.length + b.length
  | n, [], b, _ => by rw [mrg_nil]; simp
  | n, x :: a, [], _ => by rw [mrg_nil2]; simp
  | 0, x :: a, y :: b, h => by simp at h
  | n + 1, x :: a, y :: b, h => by
    simp only [List.length_cons] at h
    rcases Int.lt_trichotomy x y with h1 | h1 | h1
    · rw [mrg_lt h1]
      have := mrg_len (xs := xs) (ys := ys) n a (y :: b) (by simp only [List.length_cons]; omega)
      simp only [List.length_cons] at this ⊢
      omega
    · subst h1
      rw [mrg_eq]
      have := mrg_len (xs := xs) (ys := ys) n a b (by omega)
      simp only [List.length_cons] at this ⊢
      omega
    · rw [mrg_gt h1]
      have := mrg_len (xs := xs) (ys := ys) n (x :: a) b (by simp only [List.length_cons]; omega)
      simp only [List.length_cons] at this ⊢
      omega
set_option maxRecDepth 100000 in
set_option maxHeartbeats 1600000 in
theorem joined_any (A : Option Addr) (n c : Nat) (xs : List Int) (A2 : Option Addr) (n2 c2 : Nat) (ys : List Int) (w : World)
    (h1 : SliceOf w 1 intC A n xs) (h2 : SliceOf w 1 intC A2 n2 ys) (m1 : n ≤ 10000) (m2 : n2 ≤ 10000) (hx : xs.Pairwise (· < ·)) (hy : ys.Pairwise (· < ·)) :
    Calls Try.prog 42 #[.slice A n c, .slice A2 n2 c2] w fun e w' => ∃ A' m c', e = .returned (.slice A' m c') ∧ SliceOf w' 1 intC A' m (mrg xs ys) ∧ m ≤ n + n2 ∧ Below w.heap.size w w' := by
  have hB0 : Below w.heap.size w (w.alloc (.cells #[.slice A n c, .slice A2 n2 c2] 22)) := (Below.refl _ _).alloc (Nat.le_refl _) _
  have hg : Blk (w.alloc (.cells #[.slice A n c, .slice A2 n2 c2] 22)) w.heap.size 22 #[.slice A n c, .slice A2 n2 c2] := Blk.new _ _ _
  have HC := Lib.hid (concat_any A n c xs A2 n2 c2 ys w.heap.size _ hg (h1.below hB0) (h2.below hB0) m1 m2)
  have l1 := h1.len
  have l2 := h2.len
  have HM := Lib.hid (sorted_mrg hx hy)
  have HL := Lib.hid (mrg_len (xs := xs) (ys := ys) _ xs ys (Nat.le_refl _))
  have HB0 := Lib.hid hB0
  clear hg hB0 h1 h2 hx hy
  go_enter Try.func42, Try.ntmps42
  go_wp2_with fail
  refine HC.out.mono ?_
  rintro e w2 ⟨A', c', rfl, hown, hb2⟩
  have HB2 := Lib.hid (HB0.out.trans (hb2.mono HB0.out.size))
  rcases hown.2 with ⟨hv, h0⟩ | ⟨g, cap, cur, hv, hbg, hh, hnc, hcm, hcs, htake⟩
  · have e1 : n = 0 := by omega
    have e2 : n2 = 0 := by omega
    subst e1 e2
    have ex : xs = [] := List.eq_nil_of_length_eq_zero l1
    have ey : ys = [] := List.eq_nil_of_length_eq_zero l2
    subst ex ey
    have HS := Lib.hid (fun w => Try.slices_Sort_int_none A' c' w)
    have HK := Lib.hid (fun w => Try.slices_Compact_int_empty A' c' w)
    have HN : Hid (mrg [] [] = []) := Lib.hid (mrg_nil [])
    clear hown hv h0 HC HM hb2
    go_wp2_with fail
    refine (HS.out _).mono ?_
    rintro e w3 ⟨rfl, rfl⟩
    go_wp2_with fail
    refine (HK.out _).mono ?_
    rintro e w4 ⟨rfl, rfl⟩
    go_wp2_with fail
    go_ret
    exact ⟨_, _, _, rfl, by rw [HN.out]; exact SliceOf.none_, by omega, HB2.out⟩
  · cases hv
    have hzl : (xs ++ ys).length = n + n2 := by rw [List.length_append, l1, l2]
    rw [flat_map] at hown htake
    have htk : cur.toList.take (xs ++ ys).length = (xs ++ ys).map (Value.int .i64) := by rw [hzl]; simpa using htake
    have hH : Sort.Holds (Value.int .i64) w2 g 0 (xs ++ ys).toArray := holds_of_blockI hh htk
    have hg2 : g < w2.heap.size := (Array.getElem?_eq_some_iff.1 hh).1
    have hs1 := Try.slices_Sort_int g 0 c' (xs ++ ys) w2 hH hg2 (by rw [hzl]; omega)
    rw [hzl] at hs1
    have HS := Lib.hid hs1
    obtain ⟨zs, hzs⟩ : ∃ zs, (xs ++ ys).mergeSort (fun x y => decide (x ≤ y)) = zs := ⟨_, rfl⟩
    have hzz : zs.length = n + n2 := by rw [← hzs, List.length_mergeSort, hzl]
    rw [hzs] at HS HM
    have hbase : w.heap.size ≤ g := Nat.le_trans HB0.out.size hbg
    have HO3 : Hid (∀ w3 q os, w3 = Sort.grow (Sort.putRow (Value.int .i64) (Sort.ahead w2 q) g 0 zs.toArray) os → w3.ownsRow w.heap.size 3 1 (.slice (some ⟨g, 0, none⟩) (n + n2) c') (n + n2) (zs.map (Value.int .i64)) ∧ Below w.heap.size w w3) := Lib.hid (fun w3 q os h => by
      subst h
      have h1 := ownsRow_sortedI (base := w.heap.size) (n := q) (os := os) (ss := xs ++ ys) (ts := zs) (by rw [hzz, hzl]) hbase hh (by rw [hzl]; exact hnc) hcm hcs
      rw [hzl] at h1
      exact ⟨h1, HB2.out.grown (grownBy_sortedI _) HB2.out.size (fun k hk => by injection hk with hk; omega)⟩)
    clear hown htake htk hH hs1 hh hb2 hcs hzs hg2
    go_wp2_with fail
    refine HS.out.mono ?_
    rintro e w3 ⟨rfl, q, os, hw3⟩
    obtain ⟨hown3, hB3⟩ := HO3.out w3 q os hw3
    clear hw3 HO3
    have hH3 : Sort.Holds (Value.int .i64) w3 g 0 zs.toArray := by
      obtain ⟨g', cap', hv, _, _, _, _, _, hH⟩ := Lib.holds_of_ownsRow hown3 (by intro h; cases h)
      cases hv
      exact hH
    have hs2 := Try.slices_Compact_int g 0 c' zs w3 hH3 (by rw [hzz]; omega) (by rw [hzz]; exact hnc)
    rw [hzz, HM.out] at hs2
    have HK := Lib.hid hs2
    have hml := HL.out
    rw [l1, l2] at hml
    have HR : Hid (∀ w4 q, w4 = Sort.putRow (Value.int .i64) (Sort.ahead w3 q) g 0 (mrg xs ys ++ List.replicate (n + n2 - (mrg xs ys).length) 0).toArray → SliceOf w4 1 intC (some ⟨g, 0, none⟩) (mrg xs ys).length (mrg xs ys) ∧ Below w.heap.size w w4) := Lib.hid (fun w4 q h => by
      subst h
      have h1 := Lib.ownsRow_putRow (q := q) (k := (mrg xs ys).length) (ys := mrg xs ys ++ List.replicate (n + n2 - (mrg xs ys).length) 0) hown3 (by rw [List.length_append, List.length_replicate]; omega) hml
      rw [List.take_left, ← flat_map] at h1
      exact ⟨SliceOf.of_own_s h1 (fun _ => rfl) rfl rfl, Lib.below_putRow hB3 hbase⟩)
    clear hs2 hown3 hH3 hB3 HM HL hzz
    go_wp2_with fail
    refine HK.out.mono ?_
    rintro e w4 ⟨rfl, q4, hw4⟩
    obtain ⟨hs4, hB4⟩ := HR.out w4 q4 hw4
    have HS4 := Lib.hid hs4
    have HB4 := Lib.hid hB4
    clear hw4 HR hs4 hB4
    go_wp2_with fail
    go_ret
    exact ⟨_, _, _, rfl, HS4.out, hml, HB4.out⟩
end Go.Proofs.Ytfiflmgjcmmomaa.cal
