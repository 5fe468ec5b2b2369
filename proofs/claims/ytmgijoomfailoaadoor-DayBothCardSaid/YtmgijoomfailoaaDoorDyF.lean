/- The chapter's examples. Conditions: the tables of powers of ten and of the months. -/
import Derived.Test.YtmgijoomfailoaaDoorDyE
import Derived.Test.YtmgijoomfailoaaDoorCalI
namespace Go.Proofs.YtmgijoomfailoaaDoor.cal
open Go.RowKit Go.Proofs.YtmgijoomfailoaaDoor.kit Go.PlainAid
set_option linter.unusedVariables false

abbrev calA : Cal := ⟨[5, 6], []⟩
theorem next_A : nextV calA 5 = (7, true) := by
  unfold nextV
  rw [if_pos (by decide), up_in calA 5 1 (by decide), show restB calA 5 = true by decide +kernel]
  rw [if_pos rfl, if_pos (by decide), up_in calA (5 + 1) 1 (by decide), show restB calA (5 + 1) = true by decide +kernel]
  rw [if_pos rfl, if_pos (by decide), up_in calA (5 + 1 + 1) 1 (by decide), show restB calA (5 + 1 + 1) = false by decide +kernel]
  rw [if_neg (by decide)]
  rfl
theorem add_A : addV calA 4 1 = (7, true) := by
  unfold addV
  rw [if_pos (by decide), show (1048576 - 4 : Int).toNat = (1048577 - 5 : Int).toNat by decide, up_in calA 5 1 (by decide), show restB calA 5 = true by decide +kernel]
  rw [if_pos rfl, if_pos (by decide), up_in calA (5 + 1) 1 (by decide), show restB calA (5 + 1) = true by decide +kernel]
  rw [if_pos rfl, if_pos (by decide), up_in calA (5 + 1 + 1) 1 (by decide), show restB calA (5 + 1 + 1) = false by decide +kernel]
  rw [if_neg (by decide)]
  rfl
theorem mon_A : IsMon 30 2000 1 31 := ⟨by decide, by decide, by decide, by decide, by decide +kernel, by decide +kernel⟩
theorem mon_B : IsMon 59 2000 2 29 := ⟨by decide, by decide, by decide, by decide, by decide +kernel, by decide +kernel⟩
theorem ten_A : tenV 2000 1 31 1 = (59, true) := by
  unfold tenV
  have h : tenAt 2000 1 1 = 1 := by decide
  rw [h, if_neg (by decide), show tenD 31 (1 : Int).toNat = 59 by decide +kernel, if_pos (by decide)]
  rfl
theorem text_A : bstr (textL 2000 2 29) = ⟨#[50, 48, 48, 48, 45, 48, 50, 45, 50, 57]⟩ := by decide +kernel
set_option maxRecDepth 100000 in
set_option maxHeartbeats 1600000 in
theorem awake_any (w : World) (ht : MonTab w) (hp : PowTab w) : Calls Tryd.prog 11 #[] w fun e w' => e = .returned (.bool true) ∧ Below w.heap.size w w' := by
  have HT := Lib.hid (Lib.tabBelow_of_tabIs ht)
  have HP := Lib.hid (Lib.tabBelow_of_tabIs hp)
  have hB0 : Below w.heap.size w ((w.alloc (.cells #[.int .i64 5, .int .i64 6] 3)).alloc (.cells #[.slice (some ⟨w.heap.size, 0, none⟩) 2 2, .slice none 0 0] 31)) := ((Below.refl _ _).alloc (Nat.le_refl _) _).alloc (by simp) _
  have hk0 : Blk ((w.alloc (.cells #[.int .i64 5, .int .i64 6] 3)).alloc (.cells #[.slice (some ⟨w.heap.size, 0, none⟩) 2 2, .slice none 0 0] 31)) (w.heap.size + 1) 31 #[.slice (some ⟨w.heap.size, 0, none⟩) 2 2, .slice none 0 0] := Blk.new_at _ _ _ _ (by simp)
  have hS0 : SliceOf ((w.alloc (.cells #[.int .i64 5, .int .i64 6] 3)).alloc (.cells #[.slice (some ⟨w.heap.size, 0, none⟩) 2 2, .slice none 0 0] 31)) 1 intC (some ⟨w.heap.size, 0, none⟩) 2 calA.rest := SliceOf.blk ((Blk.new w 3 #[.int .i64 5, .int .i64 6]).alloc _) [5, 6] rfl (fun _ => rfl) rfl
  have HX := Lib.hid (fun (W : World) (h : SliceOf W 1 intC (some ⟨w.heap.size, 0, none⟩) 2 calA.rest) => next_any calA (some ⟨w.heap.size, 0, none⟩) 2 2 none 0 0 5 W h .none_ (by decide) (by decide))
  have HY := Lib.hid (fun (W : World) (h : SliceOf W 1 intC (some ⟨w.heap.size, 0, none⟩) 2 calA.rest) => add_up calA (some ⟨w.heap.size, 0, none⟩) 2 2 none 0 0 4 1 (by decide) W h .none_ (by decide) (by decide))
  have HV := Lib.hid (fun (W : World) (h : MonTab W) => tenor_any 30 2000 1 31 1 mon_A (by decide) (by decide) W h)
  have HW := Lib.hid (fun (W : World) (h : MonTab W) (h2 : PowTab W) => text_any 59 2000 2 29 mon_B (by decide) W h h2)
  rw [next_A] at HX
  rw [add_A] at HY
  rw [ten_A] at HV
  rw [text_A] at HW
  simp only [] at HX HY HV
  have a0 := hk0.cell 0; have a1 := hk0.cell 1
  simp only [List.getElem?_toArray, List.getElem?_cons_zero, List.getElem?_cons_succ] at a0 a1
  clear ht hp
  go_enter Tryd.func11, Tryd.ntmps11
  go_wp2_with fail
  refine (HX.out _ hS0).mono ?_
  rintro e w1 ⟨rfl, hb1⟩
  have hB1 := hB0.trans (hb1.mono hB0.size)
  have hk1 := hk0.below hb1 hk0.lt
  have hS1 := hS0.below hb1
  clear a0 a1 hB0 hk0 hS0 hb1
  have a0 := hk1.cell 0; have a1 := hk1.cell 1
  simp only [List.getElem?_toArray, List.getElem?_cons_zero, List.getElem?_cons_succ] at a0 a1
  go_wp2_with fail
  refine (HY.out _ hS1).mono ?_
  rintro e w2 ⟨rfl, hb2⟩
  have hB2 := hB1.trans (hb2.mono hB1.size)
  clear a0 a1 hB1 hk1 hS1 hb2
  go_wp2_with fail
  refine (HV.out _ (HT.out.on hB2).here).mono ?_
  rintro e w' ⟨rfl, rfl⟩
  go_wp2_with fail
  refine (HW.out _ (HT.out.on hB2).here (HP.out.on hB2).here).mono ?_
  rintro e w3 ⟨rfl, hb3⟩
  have hB3 := hB2.trans (hb3.mono hB2.size)
  clear hb3
  go_wp2_with fail
  go_ret
  exact ⟨ret_bool (by simp), hB3⟩
end Go.Proofs.YtmgijoomfailoaaDoor.cal
