/- TopLay: the step from its walk to the given row. No condition. -/
import Derived.Test.YtlicmhgpldmliaaLawLay
import Derived.Test.YtlicmhgpldmliaaArgs
namespace Go.Proofs.Ytlicmhgpldmliaa
open Go.RowKit Go.Proofs.Ytlicmhgpldmliaa.kit
open Go.ChangeShapes Go.WideShapes Go.ChangeAt
set_option linter.unusedVariables false
set_option maxRecDepth 100000 in
theorem topLay_lifted (os : Os) (started : os.Started) (H : Type) (enc : TypeId × Value → H) :
    ReturnsInHanded {} Try.checked os 5 .any (Rows.topLaySpec.pre6 enc Try.prog Try.f5 Rows.topLayRow.domain false) (Rows.topLaySpec.post enc Try.prog Try.f5 false true false false) := by
  refine returnsInHanded_of_change (C := Try.checked) own started (by kernel_rfl) Try.func5
    (ChangeSpec.witness6 (enc := enc) (C := Try.checked) false ⟨#[], #[.int .u8 0, .int .u8 0, .int .u8 0, .slice none 0 0, .int .u8 0], []⟩ 8 (by kernel_rfl) (by kernel_rfl) (by kernel_rfl) (by kernel_rfl)) ?_
  intro W base args ds gs before hval0 hW hcnd _
  have hval : ∀ (j : Nat) t v, Try.f5.params[j]? = some t → args[j]? = some v → Value.okWide Try.prog W .any base t v := hval0
  have hW' : DataW.Whole enc Try.prog Try.f5.params.toList Rows.topLaySpec.vars false W args.toList ds gs before := hW
  obtain ⟨p, q, hA0, hV, rfl, hfz, hnd⟩ := hW
  have hA : DataW.TrodAll enc Try.prog W 0 (fun _ => true) true Try.f5.params.toList args.toList ds p := hA0
  rw [Try.params5] at hA hval
  obtain ⟨v0, vs0, d0, ds0, p0, q0, hargs, rfl, rfl, h0, r0⟩ := trodAll_cons hA
  obtain ⟨v1, vs1, d1, ds1, p1, q1, rfl, rfl, rfl, h1, r1⟩ := trodAll_cons r0
  obtain ⟨v2, vs2, d2, ds2, p2, q2, rfl, rfl, rfl, h2, r2⟩ := trodAll_cons r1
  obtain ⟨v3, vs3, d3, ds3, p3, q3, rfl, rfl, rfl, h3, r3⟩ := trodAll_cons r2
  obtain ⟨v4, vs4, d4, ds4, p4, q4, rfl, rfl, rfl, h4, r4⟩ := trodAll_cons r3
  obtain ⟨rfl, rfl, rfl⟩ := trodAll_nil r4
  obtain rfl : args = #[v0, v1, v2, v3, v4] := by cases args; simp_all
  obtain ⟨rfl, rfl⟩ := trodVars_none hV
  obtain ⟨fr, rfl, rfl, rfl, w_fr⟩ := open_int Try.underlying5 (hval 0 5 v0 rfl rfl) h0
  obtain ⟨lt, rfl, rfl, rfl, w_lt⟩ := open_int Try.underlying5 (hval 1 5 v1 rfl rfl) h1
  obtain ⟨sn, rfl, rfl, rfl, w_sn⟩ := open_int Try.underlying5 (hval 2 5 v2 rfl rfl) h2
  obtain ⟨A, n, c, xs, rfl, hnc, hcm, hx, hxu⟩ := open_u8ss_arg (hval 3 71 v3 rfl rfl) h3
  obtain ⟨at_, rfl, rfl, rfl, w_at_⟩ := open_int Try.underlying5 (hval 4 5 v4 rfl rfl) h4
  exact closed laidOut (by kernel_rfl) rfl Try.underlying4 rfl rfl hW' (topLay_walk fr lt sn A n c xs at_ W (u8_of_wf w_fr) (u8_of_wf w_lt) (u8_of_wf w_sn) (u8_of_wf w_at_) hx hxu (Nat.le_trans hnc hcm))

theorem topLay_holds : Rows.TopLaySaid :=
  OpenClaim.holds_of_wide 5 Try.f5 rfl rfl rfl rfl rfl rfl rfl ⟨rfl, rfl, rfl, rfl, rfl⟩ rfl rfl rfl rfl rfl (by kernel_rfl) Try.func5 (by kernel_rfl)
    (of_decide_eq_true (by kernel_rfl)) (by unfold Func.isWrapper; first | (rw [if_pos (by decide +kernel)]; kernel_rfl) | (rw [if_neg (by decide +kernel)]; exact ⟨rfl, rfl⟩))
    (fun os started H enc _ => topLay_lifted os started H enc)
end Go.Proofs.Ytlicmhgpldmliaa
