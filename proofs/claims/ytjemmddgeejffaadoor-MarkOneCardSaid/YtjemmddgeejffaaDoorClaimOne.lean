/- MarkOne: the step from its walk to the given row, and the tied card. Conditions: the tables that the row lists. -/
import Derived.Test.YtjemmddgeejffaaDoorLawOne
import Derived.Test.YtjemmddgeejffaaDoorArgs
import Derived.Test.YtjemmddgeejffaaDoorTie
import Derived.Test.YtjemmddgeejffaaDoorCards
import Derived.LaidMore
import Derived.Lay
import Derived.SevenTiedAt
import Derived.Stop.LaidErr
import Derived.Lib.LaidTab
import Derived.ChangeMaps5
import Derived.PlainAid
namespace Go.Proofs.YtjemmddgeejffaaDoor
open Go.RowKit Go.Proofs.YtjemmddgeejffaaDoor.kit
open Go.ChangeShapes Go.WideShapes Go.ChangeAt Go.PlainAid Go.ChangeMaps
set_option linter.unusedVariables false
set_option maxRecDepth 100000 in
theorem markOne_lifted (os : Os) (started : os.Started) (H : Type) (enc : TypeId × Value → H) :
    ReturnsInHanded {} Tryd.checked os 10 .any (fun w args => (Rows.markOneSpec.pre enc Tryd.prog Tryd.f10 Rows.markOneRow.domain false w args ∧ laidMetH Tryd.prog Rows.markOneRow.laid w) ∧ sizedMet enc Tryd.prog Tryd.f10 (OpenSpec.ofChange Rows.markOneSpec) false w args)
      (Rows.markOneSpec.post enc Tryd.prog Tryd.f10 false true false false) := by
  refine returnsInHanded_of_change_and (C := Tryd.checked) (X := fun w _ => laidMetH Tryd.prog Rows.markOneRow.laid w) (fun _ _ _ hh h => h.of_heap hh) own started (by kernel_rfl) Tryd.func10
    (ChangeSpec.witness_shaped (enc := enc) (C := Tryd.checked) (os := os) (X := fun w _ => laidMetH Tryd.prog Rows.markOneRow.laid w) false (World.laidAll Tryd.prog os Rows.markOneRow.laid) #[.string ByteArray.empty, .int .i64 0, .int .i64 0, .int .u8 0] 8 (World.laidAll_os _ _ _)
      (World.shaped_of_ZipB (by kernel_rfl) (by kernel_rfl)) (by kernel_rfl) (by kernel_rfl) (by kernel_rfl)
      (by rw [MakeChecks.laidMetH_plain _ _ _ (by kernel_rfl)]; exact laidMet_laidAll _ (by kernel_rfl) (by kernel_rfl))) ?_
  intro W base args ds gs before hval0 hW hcnd _ hLH _
  rw [MakeChecks.laidMetH_plain _ _ _ (by kernel_rfl)] at hLH
  have hL1 := laidMet.tail hLH
  have hL2 := laidMet.tail hL1
  have hT2 : Lib.TabIs Tryd.prog W "internal/strconv.uint64pow10" .u64 Lib.pow10Tab := tab2 hL2
  have hval : ∀ (j : Nat) t v, Tryd.f10.params[j]? = some t → args[j]? = some v → Value.okWide Tryd.prog W .any base t v := hval0
  have hW' : DataW.Whole enc Tryd.prog Tryd.f10.params.toList Rows.markOneSpec.vars false W args.toList ds gs before := hW
  obtain ⟨p, q, hA0, hV, rfl, hfz, hnd⟩ := hW'
  have hA : DataW.TrodAll enc Tryd.prog W 0 (fun _ => true) true Tryd.f10.params.toList args.toList ds p := hA0
  rw [Tryd.params10] at hA hval
  obtain ⟨v0, vs0, d0, ds0, p0, q0, hargs, rfl, rfl, h0, r0⟩ := trodAll_cons hA
  obtain ⟨v1, vs1, d1, ds1, p1, q1, rfl, rfl, rfl, h1, r1⟩ := trodAll_cons r0
  obtain ⟨v2, vs2, d2, ds2, p2, q2, rfl, rfl, rfl, h2, r2⟩ := trodAll_cons r1
  obtain ⟨v3, vs3, d3, ds3, p3, q3, rfl, rfl, rfl, h3, r3⟩ := trodAll_cons r2
  obtain ⟨rfl, rfl, rfl⟩ := trodAll_nil r3
  obtain rfl : args = #[v0, v1, v2, v3] := by cases args; simp_all
  obtain ⟨rfl, rfl⟩ := trodVars_none hV
  obtain ⟨o, rfl, rfl, rfl, w_o⟩ := open_string Tryd.underlying9 (hval 0 9 v0 rfl rfl) h0
  obtain ⟨n, rfl, rfl, rfl, w_n⟩ := open_int Tryd.underlying3 (hval 1 3 v1 rfl rfl) h1
  obtain ⟨c, rfl, rfl, rfl, w_c⟩ := open_int Tryd.underlying3 (hval 2 3 v2 rfl rfl) h2
  obtain ⟨b, rfl, rfl, rfl, w_b⟩ := open_int Tryd.underlying5 (hval 3 5 v3 rfl rfl) h3
  exact closed laidOut (by kernel_rfl) rfl Tryd.underlying4 rfl rfl hW (markOne_walk o n c b W w_o (u8_of_wf w_b) hT2)

theorem markOne_holds : Rows.MarkOneSaid :=
  OpenClaim.holds_of_wide 10 Tryd.f10 rfl rfl rfl rfl rfl rfl rfl ⟨rfl, rfl, rfl, rfl, rfl⟩ rfl rfl rfl rfl rfl (by kernel_rfl) Tryd.func10 (by kernel_rfl)
    (of_decide_eq_true (by kernel_rfl)) (by unfold Func.isWrapper; first | (rw [if_pos (by decide +kernel)]; kernel_rfl) | (rw [if_neg (by decide +kernel)]; exact ⟨rfl, rfl⟩))
    (fun os started H enc _ => markOne_lifted os started H enc)

theorem markOne_card_holds : Rows.MarkOneCardSaid :=
  Claim7.holds_tied_plain_at .later [] [.data, .data, .data] true (true, "2049d7291e5bd7759bb12b8203857ca758f08003738ab197039e36379d49fd5f") false
    markOne_holds (fun _ h => by cases h) (by kernel_rfl) (fun _ h => by cases h) markOne_row_tie rfl ⟨rfl, rfl⟩ (by kernel_rfl) rfl
    (fun f fn hf hfn => by
      obtain rfl : f = 10 := Option.some.inj ((show Tryd.prog.funcNamed "supercargo/supercargolaw03.MarkOne" = some 10 by kernel_rfl).symm.trans hf) |>.symm
      obtain rfl : fn = Tryd.f10 := (Option.some.inj (Tryd.func10.symm.trans hfn)).symm
      exact ⟨by kernel_rfl, fun j t ht => by
        rw [Tryd.params10] at ht
        have hm : t ∈ [9, 3, 3, 5] := by first | simpa using Array.mem_of_getElem? ht | (have := Array.mem_of_getElem? ht; simp at this ⊢; omega)
        have hall : ([9, 3, 3, 5].all fun u => !Tryd.prog.wantsStandIn u) = true := by kernel_rfl
        exact (show Tryd.prog.wantsStandIn t = false by simpa using List.all_eq_true.1 hall t hm)⟩)
    (by kernel_rfl)
end Go.Proofs.YtjemmddgeejffaaDoor
