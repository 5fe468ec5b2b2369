/- PolicyPapers: the step from its walk to the given row, and the tied card. Conditions: the tables that the row lists. -/
import Derived.Test.YtldjohmdlggmeaaDoorLawPapers
import Derived.Test.YtldjohmdlggmeaaDoorArgsT
import Derived.Test.YtldjohmdlggmeaaDoorTie
import Derived.Test.YtldjohmdlggmeaaDoorCards
import Derived.LaidMore
import Derived.Lay
import Derived.SevenTiedAt
import Derived.Stop.LaidErr
import Derived.Lib.LaidTab
import Derived.ChangeMaps5
import Derived.PlainAid
namespace Go.Proofs.YtldjohmdlggmeaaDoor
open Go.RowKit Go.Proofs.YtldjohmdlggmeaaDoor.kit
open Go.ChangeShapes Go.WideShapes Go.ChangeAt Go.PlainAid Go.ChangeMaps
set_option linter.unusedVariables false
set_option maxRecDepth 100000 in
theorem policyPapers_lifted (os : Os) (started : os.Started) (H : Type) (enc : TypeId × Value → H) :
    ReturnsInHanded {} Tryd.checked os 3 .any (fun w args => (Rows.policyPapersSpec.pre enc Tryd.prog Tryd.f3 Rows.policyPapersRow.domain false w args ∧ laidMetH Tryd.prog Rows.policyPapersRow.laid w) ∧ sizedMet enc Tryd.prog Tryd.f3 (OpenSpec.ofChange Rows.policyPapersSpec) false w args)
      (Rows.policyPapersSpec.post enc Tryd.prog Tryd.f3 false true false false) := by
  refine returnsInHanded_of_change_and (C := Tryd.checked) (X := fun w _ => laidMetH Tryd.prog Rows.policyPapersRow.laid w) (fun _ _ _ hh h => h.of_heap hh) own started (by kernel_rfl) Tryd.func3
    (ChangeSpec.witness_shaped (enc := enc) (C := Tryd.checked) (os := os) (X := fun w _ => laidMetH Tryd.prog Rows.policyPapersRow.laid w) false (World.laidAll Tryd.prog os Rows.policyPapersRow.laid) #[.agg #[.string ByteArray.empty, .string ByteArray.empty, .string ByteArray.empty, .int .i64 0, .int .i64 0, .slice none 0 0, .int .i64 0, .int .i64 0, .int .i64 0], .agg #[.string ByteArray.empty, .string ByteArray.empty, .string ByteArray.empty, .int .i64 0, .int .i64 0, .slice none 0 0, .int .i64 0, .int .i64 0, .int .i64 0], .string ByteArray.empty] 8 (World.laidAll_os _ _ _)
      (World.shaped_of_ZipB (by kernel_rfl) (by kernel_rfl)) (by kernel_rfl) (by kernel_rfl) (by kernel_rfl)
      (by rw [MakeChecks.laidMetH_plain _ _ _ (by kernel_rfl)]; exact laidMet_laidAll _ (by kernel_rfl) (by kernel_rfl))) ?_
  intro W base args ds gs before hval0 hW hcnd _ hLH _
  rw [MakeChecks.laidMetH_plain _ _ _ (by kernel_rfl)] at hLH
  have hL1 := laidMet.tail hLH
  have hL2 := laidMet.tail hL1
  have hT2 : Lib.TabIs Tryd.prog W "internal/strconv.uint64pow10" .u64 Lib.pow10Tab := tab2 hL2
  have hval : ∀ (j : Nat) t v, Tryd.f3.params[j]? = some t → args[j]? = some v → Value.okWide Tryd.prog W .any base t v := hval0
  have hW' : DataW.Whole enc Tryd.prog Tryd.f3.params.toList Rows.policyPapersSpec.vars false W args.toList ds gs before := hW
  obtain ⟨p, q, hA0, hV, rfl, hfz, hnd⟩ := hW'
  have hA : DataW.TrodAll enc Tryd.prog W 0 (fun _ => true) true Tryd.f3.params.toList args.toList ds p := hA0
  rw [Tryd.params3] at hA hval
  obtain ⟨v0, vs0, d0, ds0, p0, q0, hargs, rfl, rfl, h0, r0⟩ := trodAll_cons hA
  obtain ⟨v1, vs1, d1, ds1, p1, q1, rfl, rfl, rfl, h1, r1⟩ := trodAll_cons r0
  obtain ⟨v2, vs2, d2, ds2, p2, q2, rfl, rfl, rfl, h2, r2⟩ := trodAll_cons r1
  obtain ⟨rfl, rfl, rfl⟩ := trodAll_nil r2
  obtain rfl : args = #[v0, v1, v2] := by cases args; simp_all
  obtain ⟨rfl, rfl⟩ := trodVars_none hV
  obtain ⟨p, rfl, hp, ip⟩ := open_pol_arg (hval 0 24 v0 rfl rfl) h0
  obtain ⟨q, rfl, hq, iq⟩ := open_pol_arg (hval 1 24 v1 rfl rfl) h1
  obtain ⟨s, rfl, rfl, rfl, w_s⟩ := open_string Tryd.underlying9 (hval 2 9 v2 rfl rfl) h2
  exact closed laidOut (by kernel_rfl) rfl Tryd.underlying4 rfl rfl hW (policyPapers_walk p q s W hp hq w_s hT2)

theorem policyPapers_holds : Rows.PolicyPapersSaid :=
  OpenClaim.holds_of_wide 3 Tryd.f3 rfl rfl rfl rfl rfl rfl rfl ⟨rfl, rfl, rfl, rfl, rfl⟩ rfl rfl rfl rfl rfl (by kernel_rfl) Tryd.func3 (by kernel_rfl)
    (of_decide_eq_true (by kernel_rfl)) (by unfold Func.isWrapper; first | (rw [if_pos (by decide +kernel)]; kernel_rfl) | (rw [if_neg (by decide +kernel)]; exact ⟨rfl, rfl⟩))
    (fun os started H enc _ => policyPapers_lifted os started H enc)

theorem policyPapers_card_holds : Rows.PolicyPapersCardSaid :=
  Claim7.holds_tied_plain_at .later [] [.data, .data, .data] true (true, "28dd4837989fd271ceb1f0c391a88e8c8b8036ce367339ca993659bbc83a761d") false
    policyPapers_holds (fun _ h => by cases h) (by kernel_rfl) (fun _ h => by cases h) policyPapers_row_tie rfl ⟨rfl, rfl⟩ (by kernel_rfl) rfl
    (fun f fn hf hfn => by
      obtain rfl : f = 3 := Option.some.inj ((show Tryd.prog.funcNamed "supercargo/supercargolaw42.PolicyPapers" = some 3 by kernel_rfl).symm.trans hf) |>.symm
      obtain rfl : fn = Tryd.f3 := (Option.some.inj (Tryd.func3.symm.trans hfn)).symm
      exact ⟨by kernel_rfl, fun j t ht => by
        rw [Tryd.params3] at ht
        have hm : t ∈ [24, 24, 9] := by first | simpa using Array.mem_of_getElem? ht | (have := Array.mem_of_getElem? ht; simp at this ⊢; omega)
        have hall : ([24, 24, 9].all fun u => !Tryd.prog.wantsStandIn u) = true := by kernel_rfl
        exact (show Tryd.prog.wantsStandIn t = false by simpa using List.all_eq_true.1 hall t hm)⟩)
    (by kernel_rfl)
end Go.Proofs.YtldjohmdlggmeaaDoor
