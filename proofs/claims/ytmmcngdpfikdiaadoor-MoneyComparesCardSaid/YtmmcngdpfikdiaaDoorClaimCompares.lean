/- MoneyCompares: the step from its walk to the given row, and the tied card. Conditions: the tables that the row lists. -/
import Derived.Test.YtmmcngdpfikdiaaDoorLawCompares
import Derived.Test.YtmmcngdpfikdiaaDoorMyArgs
import Derived.Test.YtmmcngdpfikdiaaDoorTie
import Derived.Test.YtmmcngdpfikdiaaDoorCards
import Derived.LaidMore
import Derived.Lay
import Derived.SevenTiedAt
import Derived.Stop.LaidErr
import Derived.Lib.LaidTab
import Derived.ChangeMaps5
import Derived.PlainAid
namespace Go.Proofs.YtmmcngdpfikdiaaDoor
open Go.RowKit Go.Proofs.YtmmcngdpfikdiaaDoor.kit
open Go.ChangeShapes Go.WideShapes Go.ChangeAt Go.PlainAid Go.ChangeMaps
set_option linter.unusedVariables false
set_option maxRecDepth 100000 in
theorem moneyCompares_lifted (os : Os) (started : os.Started) (H : Type) (enc : TypeId × Value → H) :
    ReturnsInHanded {} Tryd.checked os 10 .any (fun w args => (Rows.moneyComparesSpec.pre enc Tryd.prog Tryd.f10 Rows.moneyComparesRow.domain false w args ∧ laidMetH Tryd.prog Rows.moneyComparesRow.laid w) ∧ sizedMet enc Tryd.prog Tryd.f10 (OpenSpec.ofChange Rows.moneyComparesSpec) false w args)
      (Rows.moneyComparesSpec.post enc Tryd.prog Tryd.f10 false true false false) := by
  refine returnsInHanded_of_change_and (C := Tryd.checked) (X := fun w _ => laidMetH Tryd.prog Rows.moneyComparesRow.laid w) (fun _ _ _ hh h => h.of_heap hh) own started (by kernel_rfl) Tryd.func10
    (ChangeSpec.witness_shaped (enc := enc) (C := Tryd.checked) (os := os) (X := fun w _ => laidMetH Tryd.prog Rows.moneyComparesRow.laid w) false (World.laidAll Tryd.prog os Rows.moneyComparesRow.laid) #[.agg #[.int .i64 0, .int .i64 0], .agg #[.int .i64 0, .int .i64 0]] 8 (World.laidAll_os _ _ _)
      (World.shaped_of_ZipB (by kernel_rfl) (by kernel_rfl)) (by kernel_rfl) (by kernel_rfl) (by kernel_rfl)
      (by rw [MakeChecks.laidMetH_plain _ _ _ (by kernel_rfl)]; exact laidMet_laidAll _ (by kernel_rfl) (by kernel_rfl))) ?_
  intro W base args ds gs before hval0 hW hcnd _ hLH _
  rw [MakeChecks.laidMetH_plain _ _ _ (by kernel_rfl)] at hLH
  have hL1 := laidMet.tail hLH
  have hL2 := laidMet.tail hL1
  have hT2 : Lib.TabIs Tryd.prog W "internal/strconv.uint64pow10" .u64 Lib.pow10Tab := tab2 hL2
  have hval : ∀ (j : Nat) t v, Tryd.f10.params[j]? = some t → args[j]? = some v → Value.okWide Tryd.prog W .any base t v := hval0
  have hW' : DataW.Whole enc Tryd.prog Tryd.f10.params.toList Rows.moneyComparesSpec.vars false W args.toList ds gs before := hW
  obtain ⟨p, q, hA0, hV, rfl, hfz, hnd⟩ := hW'
  have hA : DataW.TrodAll enc Tryd.prog W 0 (fun _ => true) true Tryd.f10.params.toList args.toList ds p := hA0
  rw [Tryd.params10] at hA hval
  obtain ⟨v0, vs0, d0, ds0, p0, q0, hargs, rfl, rfl, h0, r0⟩ := trodAll_cons hA
  obtain ⟨v1, vs1, d1, ds1, p1, q1, rfl, rfl, rfl, h1, r1⟩ := trodAll_cons r0
  obtain ⟨rfl, rfl, rfl⟩ := trodAll_nil r1
  obtain rfl : args = #[v0, v1] := by cases args; simp_all
  obtain ⟨rfl, rfl⟩ := trodVars_none hV
  obtain ⟨a, rfl, w_a⟩ := open_rat_arg (hval 0 25 v0 rfl rfl) h0
  obtain ⟨b, rfl, w_b⟩ := open_rat_arg (hval 1 25 v1 rfl rfl) h1
  exact closed laidOut (by kernel_rfl) rfl Tryd.underlying4 rfl rfl hW (moneyCompares_walk a.n a.d b.n b.d W w_a.1 w_a.2 w_b.1 w_b.2 hT2)

theorem moneyCompares_holds : Rows.MoneyComparesSaid :=
  OpenClaim.holds_of_wide 10 Tryd.f10 rfl rfl rfl rfl rfl rfl rfl ⟨rfl, rfl, rfl, rfl, rfl⟩ rfl rfl rfl rfl rfl (by kernel_rfl) Tryd.func10 (by kernel_rfl)
    (of_decide_eq_true (by kernel_rfl)) (by unfold Func.isWrapper; first | (rw [if_pos (by decide +kernel)]; kernel_rfl) | (rw [if_neg (by decide +kernel)]; exact ⟨rfl, rfl⟩))
    (fun os started H enc _ => moneyCompares_lifted os started H enc)

theorem moneyCompares_card_holds : Rows.MoneyComparesCardSaid :=
  Claim7.holds_tied_plain_at .later [] [.data, .data, .data] true (true, "54ac33948091d4c194ff88725d1fa59263d725a5c3042eebdc3aa3738a8bbf4a") false
    moneyCompares_holds (fun _ h => by cases h) (by kernel_rfl) (fun _ h => by cases h) moneyCompares_row_tie rfl ⟨rfl, rfl⟩ (by kernel_rfl) rfl
    (fun f fn hf hfn => by
      obtain rfl : f = 10 := Option.some.inj ((show Tryd.prog.funcNamed "supercargo/supercargolaw01.MoneyCompares" = some 10 by kernel_rfl).symm.trans hf) |>.symm
      obtain rfl : fn = Tryd.f10 := (Option.some.inj (Tryd.func10.symm.trans hfn)).symm
      exact ⟨by kernel_rfl, fun j t ht => by
        rw [Tryd.params10] at ht
        have hm : t ∈ [25, 25] := by first | simpa using Array.mem_of_getElem? ht | (have := Array.mem_of_getElem? ht; simp at this ⊢; omega)
        have hall : ([25, 25].all fun u => !Tryd.prog.wantsStandIn u) = true := by kernel_rfl
        exact (show Tryd.prog.wantsStandIn t = false by simpa using List.all_eq_true.1 hall t hm)⟩)
    (by kernel_rfl)
end Go.Proofs.YtmmcngdpfikdiaaDoor
