/- The document's put and Mend. No condition. -/
import Derived.Test.YtjemmddgeejffaaDoorLawOne
import Derived.Deep.RegionLaw
import Derived.Deep.RegionHeld3
namespace Go.Proofs.YtjemmddgeejffaaDoor.kit
open Go.RowKit Go.PlainAid
set_option linter.unusedVariables false

theorem own_slice {w : World} {base n : Nat} {e : TypeId} {C : Nat} {v : Value} {ys : List Value} (h : w.ownsRow base e C v n ys) : ∃ A c, v = .slice A n c := by
  rcases h.2 with ⟨hv, h0⟩ | ⟨g, cap, cur, hv, _⟩
  · exact ⟨none, 0, by rw [hv, h0]⟩
  · exact ⟨_, _, hv⟩
theorem takeS {xs : List ByteArray} {k : Nat} {x : ByteArray} (h : xs[k]? = some x) : xs.take (k + 1) = xs.take k ++ [x] := by rw [List.take_add_one, h]; rfl
theorem dropS {xs : List ByteArray} {k : Nat} {x : ByteArray} (h : xs[k]? = some x) : xs.drop k = x :: xs.drop (k + 1) := by
  obtain ⟨hk, he⟩ := List.getElem?_eq_some_iff.1 h
  rw [List.drop_eq_getElem_cons hk, he]
theorem put_at {xs : List ByteArray} {s : ByteArray} {k : Nat} : (∀ i x, i < k → xs[i]? = some x → ltS x s) → k ≤ xs.length → putS xs s = xs.take k ++ putS (xs.drop k) s := by
  induction k generalizing xs with
  | zero => intro _ _; simp
  | succ k ih =>
    intro h hk
    cases xs with
    | nil => simp at hk
    | cons x xs =>
      have h0 := h 0 x (by omega) rfl
      rw [putS, if_pos h0, List.take_succ_cons, List.drop_succ_cons, List.cons_append]
      congr 1
      exact ih (fun i y hi hy => h (i + 1) y (by omega) (by simpa using hy)) (by simpa using hk)
theorem lt_str (a b : ByteArray) : Op.bytesLess a.toList b.toList = decide (ltS a b) := by
  rw [ByteArray.toList_eq, ByteArray.toList_eq, bytesLess_eq]
  rfl
theorem str_one (zs : List ByteArray) : ∀ u ∈ zs.flatMap strC, u.oneCell' = true := by
  intro u hu
  obtain ⟨z, _, hz⟩ := List.mem_flatMap.1 hu
  simp [strC] at hz
  subst hz
  rfl
theorem reads_none (w : World) (B : Nat) (A : Option Addr) : Reads w B 1 A 0 (([] : List ByteArray).flatMap strC) := ⟨by simp, fun h => by omega⟩
/-- A list of texts made since W. -/
def MadeC (W : World) (xs : List ByteArray) (n : Nat) (v : Value) (w' : World) : Prop :=
  ∃ (A : Option Addr) (c : Nat), v = .slice A n c ∧ n ≤ c ∧ c ≤ maxLen ∧ SliceOf w' 1 strC A n xs ∧ Below W.heap.size W w'
theorem madeC_of {W w' : World} {n : Nat} {xs : List ByteArray} {v : Value} (h : w'.ownsRow W.heap.size 9 1 v n (xs.flatMap strC)) (hn : xs.length = n) (hb : Below W.heap.size W w') : MadeC W xs n v w' := by
  have h2 := h.2
  rcases h2 with ⟨hv, h0⟩ | ⟨g, cap, cur, hv, hg, hh, hnc, hcm, hcs, ht⟩
  · refine ⟨none, 0, by rw [hv, h0], by omega, by unfold maxLen; omega, ?_, hb⟩
    have : xs = [] := List.eq_nil_of_length_eq_zero (by omega)
    subst this
    subst h0
    exact SliceOf.none_
  · subst hv
    exact ⟨_, cap, rfl, hnc, hcm, SliceOf.of_own_s h (fun _ => rfl) rfl hn, hb⟩
set_option maxRecDepth 100000 in
set_option maxHeartbeats 3200000 in
theorem rput_any (A : Option Addr) (n c : Nat) (xs : List ByteArray) (s : ByteArray) (w : World) (h : SliceOf w 1 strC A n xs) (hm : n ≤ 100000) (hc : n ≤ c) (hcm : c ≤ maxLen) (hnew : s ∉ xs) :
    Calls Tryd.prog 34 #[.slice A n c, .string s] w fun e w' => ∃ v, e = .returned v ∧ MadeC w (putS xs s) (n + 1) v w' := by
  have HS0 := Lib.hid h
  have hl := h.len
  unfold maxLen at hcm
  clear h
  obtain ⟨i0, hi, hz0, hz1, hz2⟩ := info_parts infoStr
  go_enter Tryd.func34, Tryd.ntmps34
  go_wp2_with fail
  go_loop [5] (fun i => ∃ k : Nat, k ≤ n ∧ i = .int .i64 k ∧ Hid (∀ i x, i < k → xs[i]? = some x → ltS x s)) (fun i => n - (intOf i).toNat)
  case atStart => exact ⟨0, by omega, rfl, Lib.hid (fun i x hi => by omega)⟩
  case round =>
    obtain ⟨k, hk, rfl, hd⟩ := hrel
    by_cases hlt : k < n
    · obtain ⟨b, off, x, rfl, hx, c0⟩ := get_str HS0.out hlt
      have HX := Lib.hid hx
      have HD := Lib.hid (dropS hx)
      have q2 := lt_str x s
      by_cases hxl : ltS x s
      · have d2 : Op.bytesLess x.toList s.toList = true := by rw [q2]; exact decide_eq_true hxl
        have e0 : Hid (∀ i y, i < k + 1 → xs[i]? = some y → ltS y s) := Lib.hid (fun i y hi hy => by
          rcases Nat.lt_or_ge i k with h1 | h1
          · exact hd.out i y h1 hy
          · have : i = k := by omega
            subst this
            rw [HX.out] at hy
            injection hy with hy
            rw [← hy]; exact hxl)
        clear q2 hxl hx
        go_wp2_with fail
        go_round
        case rel => exact ⟨k + 1, by omega, by go_num, e0⟩
        case measure => simp [intOf]; omega
      have d2 : Op.bytesLess x.toList s.toList = false := by rw [q2]; exact decide_eq_false hxl
      have hxs : x ≠ s := fun e => hnew (by rw [← e]; exact List.mem_of_getElem? hx)
      have HR : Hid (putS xs s = xs.take k ++ [s] ++ xs.drop k) := Lib.hid (by
        rw [put_at hd.out (by omega)]
        conv => lhs; rw [HD.out]
        rw [putS, if_neg hxl, if_neg hxs, ← HD.out, List.append_assoc]; rfl)
      have hxd : (xs.drop k).length = n - k := by rw [List.length_drop, hl]
      have hxt : (xs.take k).length = k := by rw [List.length_take, hl]; omega
      have HDR := Lib.hid (HS0.out.drop_ (k := k) (cap := c) (by omega) hc)
      rw [if_neg (by omega)] at HDR
      have HDX : Hid (SliceOf w 1 strC (some ⟨b, off + k, none⟩) (n - k) (xs.drop k)) := Lib.hid (by have := HDR.out; simpa [addr_add] using this)
      clear HDR
      have HS := Lib.hid (HS0.out.take_ (k := k) (by omega))
      have HLEN : Hid ((xs.take k ++ [s] ++ xs.drop k).length = n + 1) := Lib.hid (by rw [List.length_append, List.length_append, hxt, hxd]; show k + 1 + (n - k) = n + 1; omega)
      have hkn : k + 1 + (n - k) = n + 1 := by omega
      clear q2 hxs hxl hx
      go_wp2_with fail
      have kc : (k : Int) ≤ (c : Int) := by omega
      have kc' : k ≤ c := by omega
      have k0 : (0 : Int) ≤ (k : Int) := by omega
      have kn : (k : Int) ≤ (n : Int) := by omega
      have ck : ¬ c = k := by omega
      have ck' : ¬ c ≤ k := by omega
      have hq0 : 0 < 1 := by omega
      have hq1 : 0 + k ≤ maxLen := by unfold maxLen; omega
      have hq2 : (0 + k) * 16 ≤ 140737488355328 := by omega
      have hq3 : 0 + k + 1 ≤ maxLen := by unfold maxLen; omega
      have hq4 : (0 + k + 1) * 16 ≤ 140737488355328 := by omega
      have hq5 : ∀ u ∈ ([.string s] : List Value), u.oneCell' = true := by simp [Value.oneCell']
      have hq6 : k + 1 + (n - k) ≤ maxLen := by unfold maxLen; omega
      have hq7 : (k + 1 + (n - k)) * 16 ≤ 140737488355328 := by omega
      go_region_law (first | (refine step_append_any _ rfl (.tmp 20) (.tmp 23) 35 rfl w.heap.size 9 i0 _ 1 16 Tryd.underlying35 hi hz0 hz1 hz2 rfl hq0 (.slice (some ⟨w.heap.size, 0, none⟩) 0 0) 0 [] ?_ ?_ w.heap.size (some ⟨b, off, none⟩) k c ((xs.take k).flatMap strC) ?_ ?_ (str_one _) hq1 hq2 ?_ ?_; rfl; exact own_first w; rfl; exact reads_drew ((HS.out.reads (fun _ => rfl)).below (one_alloc _ _)); exact size_first _ _; intro v1 w9 hown1 hg1 hloc1; have HB9 : Hid (Below w.heap.size w w9) := grown_emp (one_alloc _ _) hg1 (Nat.le_refl _); have HO1 := Lib.hid hown1; skip; clear hown1 hg1 hloc1) | (refine step_append_any _ rfl (.tmp 20) (.tmp 23) 35 rfl w.heap.size 9 i0 _ 1 16 Tryd.underlying35 hi hz0 hz1 hz2 rfl hq0 (.slice (some ⟨w.heap.size, 0, none⟩) 0 0) 0 [] ?_ ?_ w.heap.size (some ⟨b, off, none⟩) k c ((xs.take k).flatMap strC) ?_ ?_ (str_one _) hq1 hq2 ?_ ?_; rfl; exact own_first' w _; rfl; exact reads_drew ((HS.out.reads (fun _ => rfl)).below (two_alloc w _ _)); exact size_second _ _ _; intro v1 w9 hown1 hg1 hloc1; have HB9 : Hid (Below w.heap.size w w9) := grown_emp (two_alloc w _ _) hg1 (Nat.le_refl _); have HO1 := Lib.hid hown1; skip; have HXB : Hid (Blk w9 (w.heap.size + 1) 9 (List.toArray ([.string s] : List Value))) := blk_emp (blk_second w _ _ _) hg1 (Nat.succ_ne_self _); clear hown1 hg1 hloc1) | (refine step_append_any _ rfl (.tmp 20) (.tmp 23) 35 rfl w.heap.size 9 i0 _ 1 16 Tryd.underlying35 hi hz0 hz1 hz2 rfl hq0 (.slice (some ⟨w.heap.size + 1, 0, none⟩) 0 0) 0 [] ?_ ?_ w.heap.size (some ⟨b, off, none⟩) k c ((xs.take k).flatMap strC) ?_ ?_ (str_one _) hq1 hq2 ?_ ?_; rfl; exact own_second w _; rfl; exact reads_drew ((HS.out.reads (fun _ => rfl)).below (two_alloc w _ _)); exact size_second _ _ _; intro v1 w9 hown1 hg1 hloc1; have HB9 : Hid (Below w.heap.size w w9) := grown_emp (two_alloc w _ _) hg1 (Nat.le_succ _); have HO1 := Lib.hid hown1; skip; have HXC : Hid (Blk w9 w.heap.size 9 (List.toArray ([.string s] : List Value))) := blk_emp ((Blk.new w _ _).alloc _) hg1 (Nat.ne_of_lt (Nat.lt_succ_self _)); clear hown1 hg1 hloc1) | (refine step_append_any _ rfl (.tmp 24) (.tmp 26) 35 rfl w.heap.size 9 i0 _ 1 16 Tryd.underlying35 hi hz0 hz1 hz2 rfl hq0 v1 (0 + k) _ ?_ (HO1.out.alloc _) _ (some ⟨w9.heap.size, 0, none⟩) 1 1 [.string s] ?_ ((SliceOf.blk (en := strC) (Blk.new w9 9 (List.toArray ([.string s] : List Value))) [s] rfl (fun _ => rfl) rfl).reads (fun _ => rfl)) hq5 hq3 hq4 ?_ ?_; rfl; rfl; exact (HB9.out.alloc HB9.out.size _).size; intro v2 w10 hown2 hg2 hloc2; have HB10 : Hid (Below w.heap.size w w10) := Lib.hid ((HB9.out.alloc HB9.out.size _).grown hg2 (HB9.out.alloc HB9.out.size _).size (fun j hj => (HO1.out.lt j hj).1)); rw [show 0 + k + 1 = k + 1 by omega, show [] ++ (xs.take k).flatMap strC ++ [.string s] = (xs.take k ++ [s]).flatMap strC by (rw [List.flatMap_append]; rfl)] at hown2; have HO2 := Lib.hid hown2; clear hown2 hg2 hloc2) | (refine step_append_any _ rfl (.tmp 24) (.tmp 26) 35 rfl w.heap.size 9 i0 _ 1 16 Tryd.underlying35 hi hz0 hz1 hz2 rfl hq0 v1 (0 + k) _ ?_ HO1.out _ (some ⟨w.heap.size + 1, 0, none⟩) 1 1 [.string s] ?_ ((SliceOf.blk (en := strC) HXB.out [s] rfl (fun _ => rfl) rfl).reads (fun _ => rfl)) hq5 hq3 hq4 ?_ ?_; rfl; rfl; exact HB9.out.size; intro v2 w10 hown2 hg2 hloc2; have HB10 : Hid (Below w.heap.size w w10) := Lib.hid (HB9.out.grown hg2 HB9.out.size (fun j hj => (HO1.out.lt j hj).1)); rw [show 0 + k + 1 = k + 1 by omega, show [] ++ (xs.take k).flatMap strC ++ [.string s] = (xs.take k ++ [s]).flatMap strC by (rw [List.flatMap_append]; rfl)] at hown2; have HO2 := Lib.hid hown2; clear hown2 hg2 hloc2) | (refine step_append_any _ rfl (.tmp 24) (.tmp 26) 35 rfl w.heap.size 9 i0 _ 1 16 Tryd.underlying35 hi hz0 hz1 hz2 rfl hq0 v1 (0 + k) _ ?_ HO1.out _ (some ⟨w.heap.size, 0, none⟩) 1 1 [.string s] ?_ ((SliceOf.blk (en := strC) HXC.out [s] rfl (fun _ => rfl) rfl).reads (fun _ => rfl)) hq5 hq3 hq4 ?_ ?_; rfl; rfl; exact HB9.out.size; intro v2 w10 hown2 hg2 hloc2; have HB10 : Hid (Below w.heap.size w w10) := Lib.hid (HB9.out.grown hg2 HB9.out.size (fun j hj => (HO1.out.lt j hj).1)); rw [show 0 + k + 1 = k + 1 by omega, show [] ++ (xs.take k).flatMap strC ++ [.string s] = (xs.take k ++ [s]).flatMap strC by (rw [List.flatMap_append]; rfl)] at hown2; have HO2 := Lib.hid hown2; clear hown2 hg2 hloc2) | (refine step_append_any _ rfl (.tmp 27) (.tmp 30) 35 rfl w.heap.size 9 i0 _ 1 16 Tryd.underlying35 hi hz0 hz1 hz2 rfl hq0 v2 (k + 1) _ ?_ HO2.out _ (some ⟨b, off + k, none⟩) (n - k) (c - k) ((xs.drop k).flatMap strC) ?_ ((HDX.out.below HB10.out).reads (fun _ => rfl)) (str_one _) hq6 hq7 HB10.out.size ?_; rfl; rfl; intro v3 w11 hown3 hg3 hloc3; have HB11 : Hid (Below w.heap.size w w11) := Lib.hid (HB10.out.grown hg3 HB10.out.size (fun j hj => (HO2.out.lt j hj).1)); rw [← List.flatMap_append] at hown3; have HO3 := Lib.hid hown3; clear hown3 hg3 hloc3))
      all_goals rw [hkn] at HO3
      all_goals go_wp2_with fail
      all_goals go_ret
      all_goals exact ⟨v3, rfl, by rw [HR.out]; exact madeC_of HO3.out HLEN.out HB11.out⟩
    · have hkn0 : n = k := by omega
      subst hkn0
      have HR : Hid (putS xs s = xs.take n ++ [s] ++ []) := Lib.hid (by
        rw [put_at hd.out (by omega), List.drop_eq_nil_of_le (by omega), putS, List.append_nil])
      have hxt : (xs.take n).length = n := by rw [List.length_take, hl]; omega
      have HS := Lib.hid (HS0.out.take_ (k := n) (by omega))
      have HLEN : Hid ((xs.take n ++ [s] ++ []).length = n + 1) := Lib.hid (by rw [List.append_nil, List.length_append, hxt]; rfl)
      have k0 : (0 : Int) ≤ (n : Int) := by omega
      have kk : (n : Int) ≤ (n : Int) := by omega
      by_cases hcn : c = n
      · subst hcn
        go_wp2_with fail
        have hq0 : 0 < 1 := by omega
        have hq1 : 0 + c ≤ maxLen := by unfold maxLen; omega
        have hq2 : (0 + c) * 16 ≤ 140737488355328 := by omega
        have hq3 : 0 + c + 1 ≤ maxLen := by unfold maxLen; omega
        have hq4 : (0 + c + 1) * 16 ≤ 140737488355328 := by omega
        have hq5 : ∀ u ∈ ([.string s] : List Value), u.oneCell' = true := by simp [Value.oneCell']
        have hq6 : c + 1 + 0 ≤ maxLen := by unfold maxLen; omega
        have hq7 : (c + 1 + 0) * 16 ≤ 140737488355328 := by omega
        go_region_law (first | (refine step_append_any _ rfl (.tmp 20) (.tmp 23) 35 rfl w.heap.size 9 i0 _ 1 16 Tryd.underlying35 hi hz0 hz1 hz2 rfl hq0 (.slice (some ⟨w.heap.size, 0, none⟩) 0 0) 0 [] ?_ ?_ w.heap.size A c c ((xs.take c).flatMap strC) ?_ ?_ (str_one _) hq1 hq2 ?_ ?_; rfl; exact own_first w; rfl; exact reads_drew ((HS.out.reads (fun _ => rfl)).below (one_alloc _ _)); exact size_first _ _; intro v1 w9 hown1 hg1 hloc1; have HB9 : Hid (Below w.heap.size w w9) := grown_emp (one_alloc _ _) hg1 (Nat.le_refl _); have HO1 := Lib.hid hown1; skip; clear hown1 hg1 hloc1) | (refine step_append_any _ rfl (.tmp 20) (.tmp 23) 35 rfl w.heap.size 9 i0 _ 1 16 Tryd.underlying35 hi hz0 hz1 hz2 rfl hq0 (.slice (some ⟨w.heap.size, 0, none⟩) 0 0) 0 [] ?_ ?_ w.heap.size A c c ((xs.take c).flatMap strC) ?_ ?_ (str_one _) hq1 hq2 ?_ ?_; rfl; exact own_first' w _; rfl; exact reads_drew ((HS.out.reads (fun _ => rfl)).below (two_alloc w _ _)); exact size_second _ _ _; intro v1 w9 hown1 hg1 hloc1; have HB9 : Hid (Below w.heap.size w w9) := grown_emp (two_alloc w _ _) hg1 (Nat.le_refl _); have HO1 := Lib.hid hown1; skip; have HXB : Hid (Blk w9 (w.heap.size + 1) 9 (List.toArray ([.string s] : List Value))) := blk_emp (blk_second w _ _ _) hg1 (Nat.succ_ne_self _); clear hown1 hg1 hloc1) | (refine step_append_any _ rfl (.tmp 20) (.tmp 23) 35 rfl w.heap.size 9 i0 _ 1 16 Tryd.underlying35 hi hz0 hz1 hz2 rfl hq0 (.slice (some ⟨w.heap.size + 1, 0, none⟩) 0 0) 0 [] ?_ ?_ w.heap.size A c c ((xs.take c).flatMap strC) ?_ ?_ (str_one _) hq1 hq2 ?_ ?_; rfl; exact own_second w _; rfl; exact reads_drew ((HS.out.reads (fun _ => rfl)).below (two_alloc w _ _)); exact size_second _ _ _; intro v1 w9 hown1 hg1 hloc1; have HB9 : Hid (Below w.heap.size w w9) := grown_emp (two_alloc w _ _) hg1 (Nat.le_succ _); have HO1 := Lib.hid hown1; skip; have HXC : Hid (Blk w9 w.heap.size 9 (List.toArray ([.string s] : List Value))) := blk_emp ((Blk.new w _ _).alloc _) hg1 (Nat.ne_of_lt (Nat.lt_succ_self _)); clear hown1 hg1 hloc1) | (refine step_append_any _ rfl (.tmp 24) (.tmp 26) 35 rfl w.heap.size 9 i0 _ 1 16 Tryd.underlying35 hi hz0 hz1 hz2 rfl hq0 v1 (0 + c) _ ?_ (HO1.out.alloc _) _ (some ⟨w9.heap.size, 0, none⟩) 1 1 [.string s] ?_ ((SliceOf.blk (en := strC) (Blk.new w9 9 (List.toArray ([.string s] : List Value))) [s] rfl (fun _ => rfl) rfl).reads (fun _ => rfl)) hq5 hq3 hq4 ?_ ?_; rfl; rfl; exact (HB9.out.alloc HB9.out.size _).size; intro v2 w10 hown2 hg2 hloc2; have HB10 : Hid (Below w.heap.size w w10) := Lib.hid ((HB9.out.alloc HB9.out.size _).grown hg2 (HB9.out.alloc HB9.out.size _).size (fun j hj => (HO1.out.lt j hj).1)); rw [show 0 + c + 1 = c + 1 by omega, show [] ++ (xs.take c).flatMap strC ++ [.string s] = (xs.take c ++ [s]).flatMap strC by (rw [List.flatMap_append]; rfl)] at hown2; have HO2 := Lib.hid hown2; clear hown2 hg2 hloc2) | (refine step_append_any _ rfl (.tmp 24) (.tmp 26) 35 rfl w.heap.size 9 i0 _ 1 16 Tryd.underlying35 hi hz0 hz1 hz2 rfl hq0 v1 (0 + c) _ ?_ HO1.out _ (some ⟨w.heap.size + 1, 0, none⟩) 1 1 [.string s] ?_ ((SliceOf.blk (en := strC) HXB.out [s] rfl (fun _ => rfl) rfl).reads (fun _ => rfl)) hq5 hq3 hq4 ?_ ?_; rfl; rfl; exact HB9.out.size; intro v2 w10 hown2 hg2 hloc2; have HB10 : Hid (Below w.heap.size w w10) := Lib.hid (HB9.out.grown hg2 HB9.out.size (fun j hj => (HO1.out.lt j hj).1)); rw [show 0 + c + 1 = c + 1 by omega, show [] ++ (xs.take c).flatMap strC ++ [.string s] = (xs.take c ++ [s]).flatMap strC by (rw [List.flatMap_append]; rfl)] at hown2; have HO2 := Lib.hid hown2; clear hown2 hg2 hloc2) | (refine step_append_any _ rfl (.tmp 24) (.tmp 26) 35 rfl w.heap.size 9 i0 _ 1 16 Tryd.underlying35 hi hz0 hz1 hz2 rfl hq0 v1 (0 + c) _ ?_ HO1.out _ (some ⟨w.heap.size, 0, none⟩) 1 1 [.string s] ?_ ((SliceOf.blk (en := strC) HXC.out [s] rfl (fun _ => rfl) rfl).reads (fun _ => rfl)) hq5 hq3 hq4 ?_ ?_; rfl; rfl; exact HB9.out.size; intro v2 w10 hown2 hg2 hloc2; have HB10 : Hid (Below w.heap.size w w10) := Lib.hid (HB9.out.grown hg2 HB9.out.size (fun j hj => (HO1.out.lt j hj).1)); rw [show 0 + c + 1 = c + 1 by omega, show [] ++ (xs.take c).flatMap strC ++ [.string s] = (xs.take c ++ [s]).flatMap strC by (rw [List.flatMap_append]; rfl)] at hown2; have HO2 := Lib.hid hown2; clear hown2 hg2 hloc2) | (refine step_append_any _ rfl (.tmp 27) (.tmp 30) 35 rfl w.heap.size 9 i0 _ 1 16 Tryd.underlying35 hi hz0 hz1 hz2 rfl hq0 v2 (c + 1) _ ?_ HO2.out _ A 0 0 (([] : List ByteArray).flatMap strC) ?_ (reads_none _ 0 _) (str_one _) hq6 hq7 HB10.out.size ?_; rfl; rfl; intro v3 w11 hown3 hg3 hloc3; have HB11 : Hid (Below w.heap.size w w11) := Lib.hid (HB10.out.grown hg3 HB10.out.size (fun j hj => (HO2.out.lt j hj).1)); rw [← List.flatMap_append] at hown3; have HO3 := Lib.hid hown3; clear hown3 hg3 hloc3))
        all_goals rw [Nat.add_zero] at HO3
        all_goals go_wp2_with fail
        all_goals go_ret
        all_goals exact ⟨v3, rfl, by rw [HR.out]; exact madeC_of HO3.out HLEN.out HB11.out⟩
      · have kc : (n : Int) ≤ (c : Int) := by omega
        have ck' : ¬ c ≤ n := by omega
        go_wp2_with fail
        have hq0 : 0 < 1 := by omega
        have hq1 : 0 + n ≤ maxLen := by unfold maxLen; omega
        have hq2 : (0 + n) * 16 ≤ 140737488355328 := by omega
        have hq3 : 0 + n + 1 ≤ maxLen := by unfold maxLen; omega
        have hq4 : (0 + n + 1) * 16 ≤ 140737488355328 := by omega
        have hq5 : ∀ u ∈ ([.string s] : List Value), u.oneCell' = true := by simp [Value.oneCell']
        have hq6 : n + 1 + 0 ≤ maxLen := by unfold maxLen; omega
        have hq7 : (n + 1 + 0) * 16 ≤ 140737488355328 := by omega
        go_region_law (first | (refine step_append_any _ rfl (.tmp 20) (.tmp 23) 35 rfl w.heap.size 9 i0 _ 1 16 Tryd.underlying35 hi hz0 hz1 hz2 rfl hq0 (.slice (some ⟨w.heap.size, 0, none⟩) 0 0) 0 [] ?_ ?_ w.heap.size A n c ((xs.take n).flatMap strC) ?_ ?_ (str_one _) hq1 hq2 ?_ ?_; rfl; exact own_first w; rfl; exact reads_drew ((HS.out.reads (fun _ => rfl)).below (one_alloc _ _)); exact size_first _ _; intro v1 w9 hown1 hg1 hloc1; have HB9 : Hid (Below w.heap.size w w9) := grown_emp (one_alloc _ _) hg1 (Nat.le_refl _); have HO1 := Lib.hid hown1; skip; clear hown1 hg1 hloc1) | (refine step_append_any _ rfl (.tmp 20) (.tmp 23) 35 rfl w.heap.size 9 i0 _ 1 16 Tryd.underlying35 hi hz0 hz1 hz2 rfl hq0 (.slice (some ⟨w.heap.size, 0, none⟩) 0 0) 0 [] ?_ ?_ w.heap.size A n c ((xs.take n).flatMap strC) ?_ ?_ (str_one _) hq1 hq2 ?_ ?_; rfl; exact own_first' w _; rfl; exact reads_drew ((HS.out.reads (fun _ => rfl)).below (two_alloc w _ _)); exact size_second _ _ _; intro v1 w9 hown1 hg1 hloc1; have HB9 : Hid (Below w.heap.size w w9) := grown_emp (two_alloc w _ _) hg1 (Nat.le_refl _); have HO1 := Lib.hid hown1; skip; have HXB : Hid (Blk w9 (w.heap.size + 1) 9 (List.toArray ([.string s] : List Value))) := blk_emp (blk_second w _ _ _) hg1 (Nat.succ_ne_self _); clear hown1 hg1 hloc1) | (refine step_append_any _ rfl (.tmp 20) (.tmp 23) 35 rfl w.heap.size 9 i0 _ 1 16 Tryd.underlying35 hi hz0 hz1 hz2 rfl hq0 (.slice (some ⟨w.heap.size + 1, 0, none⟩) 0 0) 0 [] ?_ ?_ w.heap.size A n c ((xs.take n).flatMap strC) ?_ ?_ (str_one _) hq1 hq2 ?_ ?_; rfl; exact own_second w _; rfl; exact reads_drew ((HS.out.reads (fun _ => rfl)).below (two_alloc w _ _)); exact size_second _ _ _; intro v1 w9 hown1 hg1 hloc1; have HB9 : Hid (Below w.heap.size w w9) := grown_emp (two_alloc w _ _) hg1 (Nat.le_succ _); have HO1 := Lib.hid hown1; skip; have HXC : Hid (Blk w9 w.heap.size 9 (List.toArray ([.string s] : List Value))) := blk_emp ((Blk.new w _ _).alloc _) hg1 (Nat.ne_of_lt (Nat.lt_succ_self _)); clear hown1 hg1 hloc1) | (refine step_append_any _ rfl (.tmp 24) (.tmp 26) 35 rfl w.heap.size 9 i0 _ 1 16 Tryd.underlying35 hi hz0 hz1 hz2 rfl hq0 v1 (0 + n) _ ?_ (HO1.out.alloc _) _ (some ⟨w9.heap.size, 0, none⟩) 1 1 [.string s] ?_ ((SliceOf.blk (en := strC) (Blk.new w9 9 (List.toArray ([.string s] : List Value))) [s] rfl (fun _ => rfl) rfl).reads (fun _ => rfl)) hq5 hq3 hq4 ?_ ?_; rfl; rfl; exact (HB9.out.alloc HB9.out.size _).size; intro v2 w10 hown2 hg2 hloc2; have HB10 : Hid (Below w.heap.size w w10) := Lib.hid ((HB9.out.alloc HB9.out.size _).grown hg2 (HB9.out.alloc HB9.out.size _).size (fun j hj => (HO1.out.lt j hj).1)); rw [show 0 + n + 1 = n + 1 by omega, show [] ++ (xs.take n).flatMap strC ++ [.string s] = (xs.take n ++ [s]).flatMap strC by (rw [List.flatMap_append]; rfl)] at hown2; have HO2 := Lib.hid hown2; clear hown2 hg2 hloc2) | (refine step_append_any _ rfl (.tmp 24) (.tmp 26) 35 rfl w.heap.size 9 i0 _ 1 16 Tryd.underlying35 hi hz0 hz1 hz2 rfl hq0 v1 (0 + n) _ ?_ HO1.out _ (some ⟨w.heap.size + 1, 0, none⟩) 1 1 [.string s] ?_ ((SliceOf.blk (en := strC) HXB.out [s] rfl (fun _ => rfl) rfl).reads (fun _ => rfl)) hq5 hq3 hq4 ?_ ?_; rfl; rfl; exact HB9.out.size; intro v2 w10 hown2 hg2 hloc2; have HB10 : Hid (Below w.heap.size w w10) := Lib.hid (HB9.out.grown hg2 HB9.out.size (fun j hj => (HO1.out.lt j hj).1)); rw [show 0 + n + 1 = n + 1 by omega, show [] ++ (xs.take n).flatMap strC ++ [.string s] = (xs.take n ++ [s]).flatMap strC by (rw [List.flatMap_append]; rfl)] at hown2; have HO2 := Lib.hid hown2; clear hown2 hg2 hloc2) | (refine step_append_any _ rfl (.tmp 24) (.tmp 26) 35 rfl w.heap.size 9 i0 _ 1 16 Tryd.underlying35 hi hz0 hz1 hz2 rfl hq0 v1 (0 + n) _ ?_ HO1.out _ (some ⟨w.heap.size, 0, none⟩) 1 1 [.string s] ?_ ((SliceOf.blk (en := strC) HXC.out [s] rfl (fun _ => rfl) rfl).reads (fun _ => rfl)) hq5 hq3 hq4 ?_ ?_; rfl; rfl; exact HB9.out.size; intro v2 w10 hown2 hg2 hloc2; have HB10 : Hid (Below w.heap.size w w10) := Lib.hid (HB9.out.grown hg2 HB9.out.size (fun j hj => (HO1.out.lt j hj).1)); rw [show 0 + n + 1 = n + 1 by omega, show [] ++ (xs.take n).flatMap strC ++ [.string s] = (xs.take n ++ [s]).flatMap strC by (rw [List.flatMap_append]; rfl)] at hown2; have HO2 := Lib.hid hown2; clear hown2 hg2 hloc2) | (refine step_append_any _ rfl (.tmp 27) (.tmp 30) 35 rfl w.heap.size 9 i0 _ 1 16 Tryd.underlying35 hi hz0 hz1 hz2 rfl hq0 v2 (n + 1) _ ?_ HO2.out _ (Option.map (fun x => x.add n) A) 0 (c - n) (([] : List ByteArray).flatMap strC) ?_ (reads_none _ 0 _) (str_one _) hq6 hq7 HB10.out.size ?_; rfl; rfl; intro v3 w11 hown3 hg3 hloc3; have HB11 : Hid (Below w.heap.size w w11) := Lib.hid (HB10.out.grown hg3 HB10.out.size (fun j hj => (HO2.out.lt j hj).1)); rw [← List.flatMap_append] at hown3; have HO3 := Lib.hid hown3; clear hown3 hg3 hloc3))
        all_goals rw [Nat.add_zero] at HO3
        all_goals go_wp2_with fail
        all_goals go_ret
        all_goals exact ⟨v3, rfl, by rw [HR.out]; exact madeC_of HO3.out HLEN.out HB11.out⟩
end Go.Proofs.YtjemmddgeejffaaDoor.kit
