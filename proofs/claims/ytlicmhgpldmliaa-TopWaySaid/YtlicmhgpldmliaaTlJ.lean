/- An end of a link: its parts, a new one. No condition. -/
import Derived.Test.YtlicmhgpldmliaaTlI
import Derived.Test.YtlicmhgpldmliaaNameA
import Derived.Test.YtlicmhgpldmliaaSoft
namespace Go.Proofs.Ytlicmhgpldmliaa.kit
open Go.RowKit
set_option linter.unusedVariables false
set_option linter.unusedSimpArgs false

theorem map_nil (w : World) : (Instr.makeMap 88 none).run Try.prog w = .ok (.map (some w.heap.size)) (w.alloc (.map #[] 0)) := by kernel_rfl
theorem areParties_any (s o : ByteArray) (w : World) (hs : s.size ≤ 60) (ho : o.size ≤ 60) (n1 : nameB s.data.toList = true) (n2 : nameB o.data.toList = true) (hne : (s.toList == o.toList) = false) :
    Calls Try.prog 29 #[.string s, .string o] w fun e w' => e = .returned (.bool true) ∧ w = w' := by
  have H1 : Hid (∀ w, Calls Try.prog 54 #[.string s] w _) := Lib.hid (fun w => name_any s w (by unfold maxLen; omega))
  have H2 : Hid (∀ w, Calls Try.prog 54 #[.string o] w _) := Lib.hid (fun w => name_any o w (by unfold maxLen; omega))
  go_enter Try.func29, Try.ntmps29
  go_wp2_with fail
  refine (H1.out _).mono ?_
  rintro e w1 ⟨rfl, rfl⟩
  rw [n1]
  go_wp2_with fail
  refine (H2.out _).mono ?_
  rintro e w1 ⟨rfl, rfl⟩
  rw [n2]
  go_wp2_with fail
  go_ret
  exact ⟨rfl, rfl⟩
/-- A new end: nothing out, nothing taken. -/
def NewE (s o : ByteArray) (w : World) (e : Ending) (w' : World) : Prop :=
  ∃ g gm, e = .returned (.pointer (some ⟨g, 0, none⟩)) ∧ w.heap.size ≤ g ∧ w.heap.size ≤ gm ∧ g ≠ gm ∧ Blk w' g 90 #[.string s, .string o, .slice none 0 0, .int .i64 0, .int .i64 0, .int .i64 0, .map (some gm), .bool false] ∧ LMap w' gm 0 (fun _ => none) ∧ Below w.heap.size w w'
theorem new_any (s o : ByteArray) (w : World) (hs : s.size ≤ 60) (ho : o.size ≤ 60) (n1 : nameB s.data.toList = true) (n2 : nameB o.data.toList = true) (hne : (s.toList == o.toList) = false) :
    Calls Try.prog 7 #[.string s, .string o] w (NewE s o w) := by
  have HA := Lib.hid (areParties_any s o w hs ho n1 n2 hne)
  have HP : Hid (NewE s o w (.returned (.pointer (some ⟨(w.heap.size + 1), 0, none⟩))) ((w.alloc (.map #[] 0)).alloc (.cells #[.string s, .string o, .slice none 0 0, .int .i64 0, .int .i64 0, .int .i64 0, .map (some w.heap.size), .bool false] 90))) := Lib.hid ⟨w.heap.size + 1, w.heap.size, rfl, by omega, by omega, by omega, blk_second _ _ _ _, (TMap.made w _ _ _).alloc _, two_alloc w _ _⟩
  have hmm := map_nil w
  clear n1 n2 hne
  go_enter Try.func7, Try.ntmps7
  go_wp2_with fail
  refine HA.out.mono ?_
  rintro e w1 ⟨rfl, rfl⟩
  go_wp2_with fail
  go_ret
  exact HP.out
set_option maxRecDepth 100000 in
set_option maxHeartbeats 3200000 in
theorem parts_any (s o : ByteArray) (A : Option Addr) (n c : Nat) (xs : List Lr) (sent got sure : Int) (gm g : Nat) (ow : Bool) (w : World) (hk : Blk w g 90 #[.string s, .string o, .slice A n c, .int .i64 sent, .int .i64 got, .int .i64 sure, .map (some gm), .bool ow]) (hx : SliceOf w 14 ltC A n xs) (h1 : 0 ≤ sent ∧ sent ≤ 1048576) (hm : n ≤ 4096) :
    Calls Try.prog 14 #[(.pointer (some ⟨g, 0, none⟩))] w fun e w' => ∃ A' c', e = .returned (.tuple #[.slice A' n c', .int .i64 (sent - n), .int .i64 got]) ∧ Below w.heap.size w w' := by
  have HK := Lib.hid hk
  have HX := Lib.hid hx
  have HM := Lib.hid hm
  have H1 := Lib.hid h1
  clear hk hx hm h1
  go_enter Try.func14, Try.ntmps14
  go_wp2_with fail
  refine wp_region_soft [Is (.pointer (some ⟨g, 0, none⟩)), Is (.pointer (some ⟨g, 0, none⟩)), Is (.pointer (some ⟨g, 2, none⟩)), Is (.slice A n c), Sl n, Is (.pointer (some ⟨g, 0, none⟩)), Is (.int .i64 (sent - n)), Is (.pointer (some ⟨g, 0, none⟩)), Is (.pointer (some ⟨g, 0, none⟩)), Is (.pointer (some ⟨g, 4, none⟩)), Is (.int .i64 got), Sl n, Is (.int .i64 (sent - n)), Is (.int .i64 got)] ⟨stab_is _, stab_is _, stab_is _, stab_is _, stab_sl _, stab_is _, stab_is _, stab_is _, stab_is _, stab_is _, stab_is _, stab_sl _, stab_is _, stab_is _, trivial⟩ (by kernel_rfl) (by kernel_rfl) ?_ ?_
  · refine ⟨?_, ?_, ?_, ?_, ?_, ?_, ?_, ?_, ?_, ?_, ?_, ?_, ?_, ?_, trivial⟩
    all_goals intro done vs ac W1 hdep hB hR hE
    all_goals have ec : ∀ v : Value, ac.eval (.const v) = v := fun _ => rfl
    all_goals try simp [Region.binds] at hdep
    · have e0 : ac.eval (.tmp 0) = .pointer (some ⟨g, 0, none⟩) := (hE 0 (by simp)).trans (by simp [evF, Act.eval])
      exact soft_value (.pointer (some ⟨g, 0, none⟩)) (by unfold execOp; simp only [e0, ec]; rfl) rfl
    · have d0 : vs 0 = .pointer (some ⟨g, 0, none⟩) := hR 0 (by simp [hdep])
      have e5 : ac.eval (.tmp 5) = .pointer (some ⟨g, 0, none⟩) := (hE 5 (by simp)).trans (by simp [evF, hdep, d0])
      exact soft_value (.pointer (some ⟨g, 0, none⟩)) (by unfold execOp; simp only [e5]; go_simp) rfl
    · have d1 : vs 1 = .pointer (some ⟨g, 0, none⟩) := hR 1 (by simp [hdep])
      have e6 : ac.eval (.tmp 6) = .pointer (some ⟨g, 0, none⟩) := (hE 6 (by simp)).trans (by simp [evF, hdep, d1])
      exact soft_value (.pointer (some ⟨g, 2, none⟩)) (by unfold execOp; simp only [e6]; kernel_rfl) rfl
    · have d2 : vs 2 = .pointer (some ⟨g, 2, none⟩) := hR 2 (by simp [hdep])
      have e7 : ac.eval (.tmp 7) = .pointer (some ⟨g, 2, none⟩) := (hE 7 (by simp)).trans (by simp [evF, hdep, d2])
      have hc2 : W1.cell? ⟨g, 2, none⟩ = some (.slice A n c) := (HK.out.below hB HK.out.lt).cell 2
      exact soft_value (.slice A n c) (by unfold execOp; simp only [e7]; go_simp) rfl
    · have d3 : vs 3 = .slice A n c := hR 3 (by simp [hdep])
      have e8 : ac.eval (.tmp 8) = .slice A n c := (hE 8 (by simp)).trans (by simp [evF, hdep, d3])
      refine soft_call 33 _ _ rfl (enters_fn Try.func33 (by kernel_rfl) rfl) #[.slice A n c] (by simp [e8, ec]) ?_
      refine (owns_any A n c xs W1 (HX.out.below hB) HM.out).mono ?_
      rintro e9 w9 ⟨v9, rfl, ho9, hb9⟩
      exact ⟨_, rfl, hb9, own_slice ho9⟩
    · have e0 : ac.eval (.tmp 0) = .pointer (some ⟨g, 0, none⟩) := (hE 0 (by simp)).trans (by simp [evF, Act.eval])
      exact soft_value (.pointer (some ⟨g, 0, none⟩)) (by unfold execOp; simp only [e0, ec]; rfl) rfl
    · have d5 : vs 5 = .pointer (some ⟨g, 0, none⟩) := hR 5 (by simp [hdep])
      have e10 : ac.eval (.tmp 10) = .pointer (some ⟨g, 0, none⟩) := (hE 10 (by simp)).trans (by simp [evF, hdep, d5])
      refine soft_call 34 _ _ rfl (enters_fn Try.func34 (by kernel_rfl) rfl) #[.pointer (some ⟨g, 0, none⟩)] (by simp [e10, ec]) ?_
      refine (acked_any s o A n c sent got sure gm g ow W1 (HK.out.below hB HK.out.lt) H1.out HM.out).mono ?_
      rintro e9 w9 ⟨rfl, hb9⟩
      exact ⟨_, rfl, hb9, rfl⟩
    · have e0 : ac.eval (.tmp 0) = .pointer (some ⟨g, 0, none⟩) := (hE 0 (by simp)).trans (by simp [evF, Act.eval])
      exact soft_value (.pointer (some ⟨g, 0, none⟩)) (by unfold execOp; simp only [e0, ec]; rfl) rfl
    · have d7 : vs 7 = .pointer (some ⟨g, 0, none⟩) := hR 7 (by simp [hdep])
      have e12 : ac.eval (.tmp 12) = .pointer (some ⟨g, 0, none⟩) := (hE 12 (by simp)).trans (by simp [evF, hdep, d7])
      exact soft_value (.pointer (some ⟨g, 0, none⟩)) (by unfold execOp; simp only [e12]; go_simp) rfl
    · have d8 : vs 8 = .pointer (some ⟨g, 0, none⟩) := hR 8 (by simp [hdep])
      have e13 : ac.eval (.tmp 13) = .pointer (some ⟨g, 0, none⟩) := (hE 13 (by simp)).trans (by simp [evF, hdep, d8])
      exact soft_value (.pointer (some ⟨g, 4, none⟩)) (by unfold execOp; simp only [e13]; kernel_rfl) rfl
    · have d9 : vs 9 = .pointer (some ⟨g, 4, none⟩) := hR 9 (by simp [hdep])
      have e14 : ac.eval (.tmp 14) = .pointer (some ⟨g, 4, none⟩) := (hE 14 (by simp)).trans (by simp [evF, hdep, d9])
      have hc4 : W1.cell? ⟨g, 4, none⟩ = some (.int .i64 got) := (HK.out.below hB HK.out.lt).cell 4
      exact soft_value (.int .i64 got) (by unfold execOp; simp only [e14]; go_simp) rfl
    · obtain ⟨A9, c9, d4⟩ := (show (Sl n) (vs 4) W1 from hR 4 (by simp [hdep]))
      have e9 : ac.eval (.tmp 9) = .slice A9 n c9 := (hE 9 (by simp)).trans (by simp [evF, hdep, d4])
      exact soft_value (.slice A9 n c9) (by unfold execOp; simp only [e9]; rfl) ⟨A9, c9, rfl⟩
    · have d6 : vs 6 = .int .i64 (sent - n) := hR 6 (by simp [hdep])
      have e11 : ac.eval (.tmp 11) = .int .i64 (sent - n) := (hE 11 (by simp)).trans (by simp [evF, hdep, d6])
      exact soft_value (.int .i64 (sent - n)) (by unfold execOp; simp only [e11, ec]; rfl) rfl
    · have d10 : vs 10 = .int .i64 got := hR 10 (by simp [hdep])
      have e15 : ac.eval (.tmp 15) = .int .i64 got := (hE 15 (by simp)).trans (by simp [evF, hdep, d10])
      exact soft_value (.int .i64 got) (by unfold execOp; simp only [e15, ec]; rfl) rfl
  · intro vs W hB hR
    obtain ⟨A11, c11, r11⟩ := (show (Sl n) (vs 11) W from hR 11 (by simp))
    have r12 : vs 12 = .int .i64 (sent - n) := hR 12 (by simp)
    have r13 : vs 13 = .int .i64 got := hR 13 (by simp)
    have HB2 := Lib.hid hB
    clear hR hB
    simp only [fillA, Act.put, List.setIfInBounds_toArray, List.set_cons_zero, List.set_cons_succ, if_true, r11, r12, r13]
    go_wp2_with fail
    refine bodyPost_ret (v := .tuple #[.slice A11 n c11, .int .i64 (sent - n), .int .i64 got]) (by first | kernel_rfl | simp [results, Try.results14, go_sem]) rfl ?_
    exact ⟨A11, c11, rfl, HB2.out⟩
end Go.Proofs.Ytlicmhgpldmliaa.kit
