/- Two rows of letters that say the same are one: the document's All. No condition. -/
import Derived.Test.YtdanjegnhdpnlaaDoorOfV
namespace Go.Proofs.YtdanjegnhdpnlaaDoor.kit
open Go.RowKit Go.PlainAid
set_option linter.unusedVariables false
set_option linter.unusedSimpArgs false
theorem OlAt.get {W : World} {B : Nat} {v : Value} {dl : ByteArray} {dy : Int} {xs : List Ol} (h : OlAt W B v dl dy xs) : ∃ A n, v = .slice A n n ∧ n = xs.length ∧ n ≤ 2 ∧ ∀ i, i < n → ∃ b x D H, A = some ⟨b, 0, none⟩ ∧ xs[i]? = some x ∧ (∀ j u, (olC dl dy x D)[j]? = some u → W.cell? ⟨b, i * 14 + j, none⟩ = some u) ∧ DocsAt W B H D x.doc := by
  rcases h with ⟨rfl, rfl⟩ | ⟨g, x, D, rfl, rfl, h3, h4, h5⟩ | ⟨g, x, y, rfl, rfl, h3, h4, h5, h6⟩
  · exact ⟨none, 0, rfl, rfl, by omega, fun i hi => absurd hi (by omega)⟩
  · refine ⟨_, 1, rfl, rfl, by omega, fun i hi => ?_⟩
    obtain rfl : i = 0 := by omega
    exact ⟨g, x, D, g, rfl, rfl, fun j u hu => by rw [h4.cell, Nat.zero_mul, Nat.zero_add]; simpa using hu, h5⟩
  · refine ⟨_, 2, rfl, rfl, by omega, fun i hi => ?_⟩
    rcases (show i = 0 ∨ i = 1 by omega) with rfl | rfl
    · refine ⟨g, x, .slice none 0 0, 0, rfl, rfl, fun j u hu => ?_, by rw [h5]; rfl⟩
      rw [h4.cell, Nat.zero_mul, Nat.zero_add]
      have hj : j < 14 := (List.getElem?_eq_some_iff.1 hu).1
      simp only [List.getElem?_toArray]
      rw [List.getElem?_append_left (by rw [ol_len]; exact hj)]
      exact hu
    · refine ⟨g, y, .slice none 0 0, 0, rfl, rfl, fun j u hu => ?_, by rw [h6]; rfl⟩
      rw [h4.cell]
      simp only [List.getElem?_toArray]
      rw [List.getElem?_append_right (by rw [ol_len]; omega), ol_len, show 1 * 14 + j - 14 = j by omega]
      exact hu
set_option maxRecDepth 100000 in
set_option maxHeartbeats 6400000 in
theorem all_any (dl : ByteArray) (dy : Int) (xs : List Ol) (v v' : Value) (B B' : Nat) (w : World) (h1 : OlAt w B v dl dy xs) (h2 : OlAt w B' v' dl dy xs) (hm : ∀ x ∈ xs, ∀ p, x.doc = some p → p.fs.length ≤ 100) : Calls Tryd.prog 9 #[v, v'] w fun e w' => e = .returned (.bool true) ∧ Below w.heap.size w w' := by
  obtain ⟨A, n, rfl, hn, hn2, -⟩ := h1.get
  obtain ⟨A', n', rfl, hn', -, -⟩ := h2.get
  obtain rfl : n' = n := by omega
  have H1 := Lib.hid h1
  have H2 := Lib.hid h2
  have HM := Lib.hid hm
  have t3 : ((n' : Int) != (n' : Int)) = false := by simp
  clear h1 h2 hm hn hn'
  go_enter Tryd.func9, Tryd.ntmps9
  go_wp2_with fail
  go_loopw [5] (fun i wr => ∃ j : Nat, j ≤ n' ∧ i = .int .i64 j ∧ Hid (Below w.heap.size w wr)) (fun i _ => n' - (intOf i).toNat)
  case atStart => exact ⟨0, by omega, rfl, Lib.hid (Below.refl _ _)⟩
  case round =>
    obtain ⟨j, hj, rfl, hb⟩ := hrel
    by_cases hlt : j < n'
    · obtain ⟨A1, n1, e1, _, _, g1⟩ := (H1.out.below hb.out).get
      obtain ⟨A2, n2, e2, _, _, g2⟩ := (H2.out.below hb.out).get
      injection e1 with e1a e1b e1c
      injection e2 with e2a e2b e2c
      subst e1a e1b e2a e2b
      obtain ⟨ba, x, D, Ha, rfl, hx, hc, hd⟩ := g1 j hlt
      obtain ⟨bb, y, E, Hb, rfl, hy, hc', hd'⟩ := g2 j hlt
      have hxy : x = y := Option.some.inj (hx.symm.trans hy)
      subst hxy
      have HMX := Lib.hid (HM.out x (List.mem_of_getElem? hx))
      have HD := Lib.hid hd; have HD' := Lib.hid hd'; have HC := Lib.hid hc; have HC' := Lib.hid hc'
      have HLT := Lib.hid hlt
      have HLA : Hid (∀ W, Below wr.heap.size wr W → ∀ k u, (olC dl dy x D)[k]? = some u → W.cell? ⟨ba, j * 14 + k, none⟩ = some u) := Lib.hid (fun W hW k u hu => (hW.cell (World.block_lt_of_cell? wr _ (hc k u hu))).trans (hc k u hu))
      have HLB : Hid (∀ W, Below wr.heap.size wr W → ∀ k u, (olC dl dy x E)[k]? = some u → W.cell? ⟨bb, j * 14 + k, none⟩ = some u) := Lib.hid (fun W hW k u hu => (hW.cell (World.block_lt_of_cell? wr _ (hc' k u hu))).trans (hc' k u hu))
      have i0 : (j : Int) < (n' : Int) := by omega
      clear hx hy hc hc' hd hd' g1 g2 e1c e2c
      go_upto_region 6 with (fail)
      try simp only [Act.put, List.setIfInBounds_toArray, List.set_cons_zero, List.set_cons_succ]
      refine wp_region_soft [Is (.slice (some ⟨ba, 0, none⟩) n' n'), Is (.int .i64 (j : Int)), Is (.pointer (some ⟨ba, j * 14, none⟩)), Is (.agg #[.string ⟨#[]⟩, .string x.dst, .int .i64 0, .int .i64 x.kind, .int .i64 0, .string dl, .string ⟨#[]⟩, .string ⟨#[]⟩, .int .i64 0, .int .i64 dy, .string x.cur, .int .i64 x.amt, D, .slice none 0 0]), Is (.slice (some ⟨bb, 0, none⟩) n' n'), Is (.int .i64 (j : Int)), Is (.pointer (some ⟨bb, j * 14, none⟩)), Is (.agg #[.string ⟨#[]⟩, .string x.dst, .int .i64 0, .int .i64 x.kind, .int .i64 0, .string dl, .string ⟨#[]⟩, .string ⟨#[]⟩, .int .i64 0, .int .i64 dy, .string x.cur, .int .i64 x.amt, E, .slice none 0 0]), Is (.bool true), Is (.bool false)] ⟨stab_is _, stab_is _, stab_is _, stab_is _, stab_is _, stab_is _, stab_is _, stab_is _, stab_is _, stab_is _, trivial⟩ (by kernel_rfl) (by kernel_rfl) ?_ ?_
      · refine ⟨?_, ?_, ?_, ?_, ?_, ?_, ?_, ?_, ?_, ?_, trivial⟩
        all_goals intro done vs ac W1 hdep hB hR hE
        all_goals have ec : ∀ v : Value, ac.eval (.const v) = v := fun _ => rfl
        all_goals try simp [Region.binds] at hdep
        · have e0 : ac.eval (.tmp 0) = .slice (some ⟨ba, 0, none⟩) n' n' := (hE 0 (by simp)).trans (by simp [evF, Act.eval])
          exact soft_value (.slice (some ⟨ba, 0, none⟩) n' n') (by unfold execOp; simp only [e0, ec]; rfl) rfl
        · have e5 : ac.eval (.tmp 5) = .int .i64 (j : Int) := (hE 5 (by simp)).trans (by simp [evF, Act.eval])
          exact soft_value (.int .i64 (j : Int)) (by unfold execOp; simp only [e5, ec]; rfl) rfl
        · have d0 : vs 0 = .slice (some ⟨ba, 0, none⟩) n' n' := hR 0 (by simp [hdep])
          have e17 : ac.eval (.tmp 17) = .slice (some ⟨ba, 0, none⟩) n' n' := (hE 17 (by simp)).trans (by simp [evF, hdep, d0])
          have d1 : vs 1 = .int .i64 (j : Int) := hR 1 (by simp [hdep])
          have e18 : ac.eval (.tmp 18) = .int .i64 (j : Int) := (hE 18 (by simp)).trans (by simp [evF, hdep, d1])
          exact soft_value (.pointer (some ⟨ba, j * 14, none⟩)) (by simp [execOp, e17, e18, ixk 30 _ 14 Tryd.underlying30 (by kernel_rfl) ba 0 j n' n' HLT.out, Result.andThen]) rfl
        · have d2 : vs 2 = .pointer (some ⟨ba, j * 14, none⟩) := hR 2 (by simp [hdep])
          have e19 : ac.eval (.tmp 19) = .pointer (some ⟨ba, j * 14, none⟩) := (hE 19 (by simp)).trans (by simp [evF, hdep, d2])
          exact wp_load_at 41 (.tmp 19) rfl ba (j * 14) e19 (olC dl dy x D) _ (HLA.out W1 hB) Tryd.underlying41 rfl (by kernel_rfl) ⟨_, rfl, Below.refl _ _, rfl⟩
        · have e1 : ac.eval (.tmp 1) = .slice (some ⟨bb, 0, none⟩) n' n' := (hE 1 (by simp)).trans (by simp [evF, Act.eval])
          exact soft_value (.slice (some ⟨bb, 0, none⟩) n' n') (by unfold execOp; simp only [e1, ec]; rfl) rfl
        · have e5 : ac.eval (.tmp 5) = .int .i64 (j : Int) := (hE 5 (by simp)).trans (by simp [evF, Act.eval])
          exact soft_value (.int .i64 (j : Int)) (by unfold execOp; simp only [e5, ec]; rfl) rfl
        · have d4 : vs 4 = .slice (some ⟨bb, 0, none⟩) n' n' := hR 4 (by simp [hdep])
          have e21 : ac.eval (.tmp 21) = .slice (some ⟨bb, 0, none⟩) n' n' := (hE 21 (by simp)).trans (by simp [evF, hdep, d4])
          have d5 : vs 5 = .int .i64 (j : Int) := hR 5 (by simp [hdep])
          have e22 : ac.eval (.tmp 22) = .int .i64 (j : Int) := (hE 22 (by simp)).trans (by simp [evF, hdep, d5])
          exact soft_value (.pointer (some ⟨bb, j * 14, none⟩)) (by simp [execOp, e21, e22, ixk 30 _ 14 Tryd.underlying30 (by kernel_rfl) bb 0 j n' n' HLT.out, Result.andThen]) rfl
        · have d6 : vs 6 = .pointer (some ⟨bb, j * 14, none⟩) := hR 6 (by simp [hdep])
          have e23 : ac.eval (.tmp 23) = .pointer (some ⟨bb, j * 14, none⟩) := (hE 23 (by simp)).trans (by simp [evF, hdep, d6])
          exact wp_load_at 41 (.tmp 23) rfl bb (j * 14) e23 (olC dl dy x E) _ (HLB.out W1 hB) Tryd.underlying41 rfl (by kernel_rfl) ⟨_, rfl, Below.refl _ _, rfl⟩
        · have d3 : vs 3 = .agg #[.string ⟨#[]⟩, .string x.dst, .int .i64 0, .int .i64 x.kind, .int .i64 0, .string dl, .string ⟨#[]⟩, .string ⟨#[]⟩, .int .i64 0, .int .i64 dy, .string x.cur, .int .i64 x.amt, D, .slice none 0 0] := hR 3 (by simp [hdep])
          have e20 : ac.eval (.tmp 20) = .agg #[.string ⟨#[]⟩, .string x.dst, .int .i64 0, .int .i64 x.kind, .int .i64 0, .string dl, .string ⟨#[]⟩, .string ⟨#[]⟩, .int .i64 0, .int .i64 dy, .string x.cur, .int .i64 x.amt, D, .slice none 0 0] := (hE 20 (by simp)).trans (by simp [evF, hdep, d3])
          have d7 : vs 7 = .agg #[.string ⟨#[]⟩, .string x.dst, .int .i64 0, .int .i64 x.kind, .int .i64 0, .string dl, .string ⟨#[]⟩, .string ⟨#[]⟩, .int .i64 0, .int .i64 dy, .string x.cur, .int .i64 x.amt, E, .slice none 0 0] := hR 7 (by simp [hdep])
          have e24 : ac.eval (.tmp 24) = .agg #[.string ⟨#[]⟩, .string x.dst, .int .i64 0, .int .i64 x.kind, .int .i64 0, .string dl, .string ⟨#[]⟩, .string ⟨#[]⟩, .int .i64 0, .int .i64 dy, .string x.cur, .int .i64 x.amt, E, .slice none 0 0] := (hE 24 (by simp)).trans (by simp [evF, hdep, d7])
          refine soft_call 15 _ _ rfl (enters_fn Tryd.func15 (by kernel_rfl) rfl) #[.agg #[.string ⟨#[]⟩, .string x.dst, .int .i64 0, .int .i64 x.kind, .int .i64 0, .string dl, .string ⟨#[]⟩, .string ⟨#[]⟩, .int .i64 0, .int .i64 dy, .string x.cur, .int .i64 x.amt, D, .slice none 0 0], .agg #[.string ⟨#[]⟩, .string x.dst, .int .i64 0, .int .i64 x.kind, .int .i64 0, .string dl, .string ⟨#[]⟩, .string ⟨#[]⟩, .int .i64 0, .int .i64 dy, .string x.cur, .int .i64 x.amt, E, .slice none 0 0]] (by simp [e20, e24, ec]) ?_
          refine (lsame_any dl dy x D E B Ha B' Hb W1 (HD.out.below hB) (HD'.out.below hB) HMX.out).mono ?_
          rintro e9 w9 ⟨rfl, hb9⟩
          exact ⟨_, rfl, hb9, rfl⟩
        · have d8 : vs 8 = .bool true := hR 8 (by simp [hdep])
          have e25 : ac.eval (.tmp 25) = .bool true := (hE 25 (by simp)).trans (by simp [evF, hdep, d8])
          exact soft_value (.bool false) (by unfold execOp; simp only [e25]; first | rfl | go_simp) rfl
      · intro vs W hB hR
        have r9 : vs 9 = .bool false := hR 9 (by simp)
        have HB9 := Lib.hid (hb.out.trans (hB.mono hb.out.size))
        clear hR hB
        simp only [fillA, Act.put, List.setIfInBounds_toArray, List.set_cons_zero, List.set_cons_succ, if_true, r9]
        have i2 := HLT.out
        go_wp2_with fail
        go_roundw
        case rel => exact ⟨j + 1, by omega, by go_num, HB9⟩
        case measure => simp [intOf]; omega
    · have i0 : ¬ (j : Int) < (n' : Int) := by omega
      go_wp2_with fail
      go_ret
      exact ⟨rfl, hb.out⟩
end Go.Proofs.YtdanjegnhdpnlaaDoor.kit
