/- DraftDue: the step from its walk to the given row, and the tied card. Conditions: the tables that the row lists. -/
import Derived.Test.YtlaclkiedjhphaaGreatDoorLawDue
import Derived.Test.YtlaclkiedjhphaaGreatDoorArgs
import Derived.Test.YtlaclkiedjhphaaGreatDoorTie
import Derived.Test.YtlaclkiedjhphaaGreatDoorCards
import Derived.LaidMore
import Derived.Lay
import Derived.SevenTiedAt
import Derived.Stop.LaidErr
import Derived.Lib.LaidTab
import Derived.ChangeMaps5
import Derived.PlainAid
namespace Go.Proofs.YtlaclkiedjhphaaGreatDoor
open Go.RowKit Go.Proofs.YtlaclkiedjhphaaGreatDoor.kit
open Go.ChangeShapes Go.WideShapes Go.ChangeAt Go.PlainAid Go.ChangeMaps
set_option linter.unusedVariables false
set_option maxRecDepth 100000 in
theorem draftDue_lifted (os : Os) (started : os.Started) (H : Type) (enc : TypeId × Value → H) :
    ReturnsInHanded {} Tryz.checked os 3 .any (fun w args => (Rows.draftDueSpec.pre enc Tryz.prog Tryz.f3 Rows.draftDueRow.domain false w args ∧ laidMetH Tryz.prog Rows.draftDueRow.laid w) ∧ sizedMet enc Tryz.prog Tryz.f3 (OpenSpec.ofChange Rows.draftDueSpec) false w args)
      (Rows.draftDueSpec.post enc Tryz.prog Tryz.f3 false true false false) := by
  refine returnsInHanded_of_change_and (C := Tryz.checked) (X := fun w _ => laidMetH Tryz.prog Rows.draftDueRow.laid w) (fun _ _ _ hh h => h.of_heap hh) own started (by kernel_rfl) Tryz.func3
    (ChangeSpec.witness_shaped (enc := enc) (C := Tryz.checked) (os := os) (X := fun w _ => laidMetH Tryz.prog Rows.draftDueRow.laid w) false (World.laidAll Tryz.prog os Rows.draftDueRow.laid) #[.agg #[.slice none 0 0, .slice none 0 0], .agg #[.string ByteArray.empty, .string ByteArray.empty, .string ByteArray.empty, .string ByteArray.empty, .string ByteArray.empty, .int .i64 0, .int .i64 0, .int .i64 0, .int .i64 0]] 8 (World.laidAll_os _ _ _)
      (World.shaped_of_ZipB (by kernel_rfl) (by kernel_rfl)) (by kernel_rfl) (by kernel_rfl) (by kernel_rfl)
      (by rw [MakeChecks.laidMetH_plain _ _ _ (by kernel_rfl)]; exact laidMet_laidAll _ (by kernel_rfl) (by kernel_rfl))) ?_
  intro W base args ds gs before hval0 hW hcnd _ hLH _
  rw [MakeChecks.laidMetH_plain _ _ _ (by kernel_rfl)] at hLH
  have hL1 := laidMet.tail hLH
  have hL2 := laidMet.tail hL1
  have hT2 : Lib.TabIs Tryz.prog W "internal/strconv.uint64pow10" .u64 Lib.pow10Tab := tab2 hL2
  have hval : ∀ (j : Nat) t v, Tryz.f3.params[j]? = some t → args[j]? = some v → Value.okWide Tryz.prog W .any base t v := hval0
  have hW' : DataW.Whole enc Tryz.prog Tryz.f3.params.toList Rows.draftDueSpec.vars false W args.toList ds gs before := hW
  obtain ⟨p, q, hA0, hV, rfl, hfz, hnd⟩ := hW'
  have hA : DataW.TrodAll enc Tryz.prog W 0 (fun _ => true) true Tryz.f3.params.toList args.toList ds p := hA0
  rw [Tryz.params3] at hA hval
  obtain ⟨v0, vs0, d0, ds0, p0, q0, hargs, rfl, rfl, h0, r0⟩ := trodAll_cons hA
  obtain ⟨v1, vs1, d1, ds1, p1, q1, rfl, rfl, rfl, h1, r1⟩ := trodAll_cons r0
  obtain ⟨rfl, rfl, rfl⟩ := trodAll_nil r1
  obtain rfl : args = #[v0, v1] := by cases args; simp_all
  obtain ⟨rfl, rfl⟩ := trodVars_none hV
  obtain ⟨c, A1, n1, c1, A2, n2, c2, rfl, s1, s2, m1, m2⟩ := cal.open_cal_arg (hval 0 24 v0 rfl rfl) h0
  obtain ⟨d, rfl, wd⟩ := open_dr_arg (hval 1 28 v1 rfl rfl) h1
  exact closed laidOut (by kernel_rfl) rfl Tryz.underlying4 rfl rfl hW (draftDue_walk c A1 n1 c1 A2 n2 c2 d W s1 s2 m1 m2 (Dr.wf_ok wd) hT2)

theorem draftDue_holds : Rows.DraftDueSaid :=
  OpenClaim.holds_of_wide 3 Tryz.f3 rfl rfl rfl rfl rfl rfl rfl ⟨rfl, rfl, rfl, rfl, rfl⟩ rfl rfl rfl rfl rfl (by kernel_rfl) Tryz.func3 (by kernel_rfl)
    (of_decide_eq_true (by kernel_rfl)) (by unfold Func.isWrapper; first | (rw [if_pos (by decide +kernel)]; kernel_rfl) | (rw [if_neg (by decide +kernel)]; exact ⟨rfl, rfl⟩))
    (fun os started H enc _ => draftDue_lifted os started H enc)

theorem draftDue_card_holds : Rows.DraftDueCardSaid :=
  Claim7.holds_tied_plain_at .later [] [.data, .data, .data] true (true, "7baaf7584a30085cfd9827b82ea98cdc6158f149f3956ed64bd7f67af86c93dc") true
    draftDue_holds (fun _ h => by cases h) (by kernel_rfl) (fun _ h => by cases h) draftDue_row_tie rfl ⟨rfl, rfl⟩ (by kernel_rfl) rfl
    (fun f fn hf hfn => by
      obtain rfl : f = 3 := Option.some.inj ((show Tryz.prog.funcNamed "supercargo/supercargolaw38.DraftDue" = some 3 by kernel_rfl).symm.trans hf) |>.symm
      obtain rfl : fn = Tryz.f3 := (Option.some.inj (Tryz.func3.symm.trans hfn)).symm
      exact ⟨by kernel_rfl, fun j t ht => by
        rw [Tryz.params3] at ht
        have hm : t ∈ [24, 28] := by first | simpa using Array.mem_of_getElem? ht | (have := Array.mem_of_getElem? ht; simp at this ⊢; omega)
        have hall : ([24, 28].all fun u => !Tryz.prog.wantsStandIn u) = true := by kernel_rfl
        exact (show Tryz.prog.wantsStandIn t = false by simpa using List.all_eq_true.1 hall t hm)⟩)
    (by kernel_rfl)
end Go.Proofs.YtlaclkiedjhphaaGreatDoor
