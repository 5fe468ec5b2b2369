/- Papers of a deal without boxes: its marks, its content, its list. No condition. -/
import Derived.Test.YtlicmhgpldmliaaDoorPpB
import Derived.Test.YtlicmhgpldmliaaDoorRaw
namespace Go.Proofs.YtlicmhgpldmliaaDoor.kit
open Go.RowKit Go.PlainAid
set_option linter.unusedVariables false

theorem mks0 (w : World) : ∃ cs : Array Value, (Instr.makeSlice 73 (.int .i64 0) (.int .i64 0)).run Tryd.prog w = .ok (.slice (some ⟨w.heap.size, 0, none⟩) 0 0) (w.alloc (.cells cs 9)) := by
  obtain ⟨i0, hi, hz0, hz1, hz2⟩ := info_parts (show (Tryd.prog.info? 9).map (fun i => (i.zero, i.size, i.bytes)) = some (some (.string ByteArray.empty), 1, 16) by kernel_rfl)
  have h := run_make (P := Tryd.prog) w 73 9 i0 _ Tryd.underlying73 hi hz0 .i64 .i64 0 0 (by omega) (Int.le_refl _) (by rw [hz2]; omega) (by omega)
  simp only [Int.toNat_zero] at h
  exact ⟨_, h⟩
set_option maxRecDepth 100000 in
theorem marks_none (w : World) : Calls Tryd.prog 27 #[.slice none 0 0] w fun e w' => e = .returned (.string ⟨#[]⟩) ∧ Below w.heap.size w w' := by
  obtain ⟨cs, hmk⟩ := mks0 w
  have HB0 := Lib.hid (one_alloc w (.cells cs 9))
  have HJ := Lib.hid (Tryd.strings_Join_none (some ⟨w.heap.size, 0, none⟩) 0 ⟨#[44]⟩ (w.alloc (.cells cs 9)))
  go_enter Tryd.func27, Tryd.ntmps27
  go_wp2_with fail
  go_loopw [3, 11] (fun v i wr => v = .slice (some ⟨w.heap.size, 0, none⟩) 0 0 ∧ i = .int .i64 0 ∧ wr = w.alloc (.cells cs 9)) (fun _ _ _ => 0)
  case atStart => exact ⟨rfl, rfl, rfl⟩
  case round =>
  obtain ⟨rfl, rfl, rfl⟩ := hrel
  go_wp2_with fail
  refine HJ.out.mono ?_
  rintro e w1 ⟨rfl, rfl⟩
  go_wp2_with fail
  go_ret
  exact ⟨rfl, HB0.out⟩
set_option maxRecDepth 100000 in
theorem isort_none (f : Value) (w : World) : Calls Tryd.prog 77 #[.slice none 0 0, .int .i64 0, .int .i64 0, f] w fun e w' => e = .returned (.tuple #[]) ∧ Below w.heap.size w w' := by
  go_enter Tryd.func77, Tryd.ntmps77
  go_wp2_with fail
  go_loopw [8] (fun i wr => i = .int .i64 1 ∧ wr = w) (fun _ _ => 0)
  case atStart => exact ⟨rfl, rfl⟩
  case round =>
  obtain ⟨rfl, rfl⟩ := hrel
  go_wp2_with fail
  go_end0
  exact ⟨rfl, Below.refl _ _⟩
set_option maxRecDepth 100000 in
theorem pdq_none (f : Value) (l : Int) (w : World) : Calls Tryd.prog 74 #[.slice none 0 0, .int .i64 0, .int .i64 0, .int .i64 l, f] w fun e w' => e = .returned (.tuple #[]) ∧ Below w.heap.size w w' := by
  go_enter Tryd.func74, Tryd.ntmps74
  go_wp2_with fail
  go_loopw [1, 2] (fun i j wr => i = .int .i64 0 ∧ j = .int .i64 0 ∧ wr = w) (fun _ _ _ => 0)
  case atStart => exact ⟨rfl, rfl, rfl⟩
  case round =>
  obtain ⟨rfl, rfl, rfl⟩ := hrel
  go_wp2_with fail
  refine (isort_none f _).mono ?_
  rintro e w1 ⟨rfl, hb⟩
  go_wp2_with fail
  refine bodyPost_ret (v := .tuple #[]) (by simp [results, Tryd.results74]) rfl ?_
  exact ⟨rfl, hb⟩
set_option maxRecDepth 100000 in
theorem sort_none (f : Value) (w : World) : Calls Tryd.prog 69 #[.slice none 0 0, f] w fun e w' => e = .returned (.tuple #[]) ∧ Below w.heap.size w w' := by
  have HL := Lib.hid (Tryd.bits_Len 0 w (by omega) (by omega))
  go_enter Tryd.func69, Tryd.ntmps69
  go_wp2_with fail
  refine HL.out.mono ?_
  rintro e w1 ⟨rfl, rfl⟩
  go_wp2_with fail
  refine (pdq_none f _ _).mono ?_
  rintro e w1 ⟨rfl, hb⟩
  go_wp2_with fail
  go_end0
  exact ⟨rfl, hb⟩
set_option maxRecDepth 100000 in
theorem counts_none (w : World) : Calls Tryd.prog 62 #[.slice none 0 0] w fun e w' => e = .returned (.map (some w.heap.size)) ∧ w' = w.alloc (.map #[] 0) := by
  have hmm := @run_makeMap Tryd.prog
  go_enter Tryd.func62, Tryd.ntmps62
  go_wp2_with fail
  go_loopw [9] (fun i wr => i = .int .i64 0 ∧ wr = w.alloc (.map #[] 0)) (fun _ _ => 0)
  case atStart => exact ⟨rfl, rfl⟩
  case round =>
  obtain ⟨rfl, rfl⟩ := hrel
  go_wp2_with fail
  go_ret
  exact ⟨rfl, rfl⟩
set_option maxRecDepth 100000 in
theorem rising_none (g : Nat) (w : World) (hg : w.heap[g]? = some (.map #[] 0)) : Calls Tryd.prog 61 #[.map (some g)] w fun e w' => e = .returned (.slice none 0 0) ∧ Below w.heap.size w w' := by
  have hrg := run_range_map w 118 9 3 g #[] 0 Tryd.underlying118 hg
  have hgl : g < w.heap.size := (Array.getElem?_eq_some_iff.1 hg).1
  have hr1 : (w.alloc (.mapIter (some g) 0 #[] 0)).heap[w.heap.size]? = some (.mapIter (some g) 0 #[] 0) := heap_alloc_new w _
  have hm1 : (w.alloc (.mapIter (some g) 0 #[] 0)).heap[g]? = some (.map #[] 0) := (Below.heap_alloc w _ g hgl).trans hg
  have HB1 := Lib.hid (one_alloc w (.mapIter (some g) 0 #[] 0))
  have hnx : (Instr.next (.pointer (some ⟨w.heap.size, 0, none⟩)) false 0).run Tryd.prog (w.alloc (.mapIter (some g) 0 #[] 0)) = .ok (.tuple #[.bool false]) (w.alloc (.mapIter (some g) 0 #[] 0)) := by
    rcases run_next_at _ 0 w.heap.size g 0 0 #[] #[] 0 hr1 hm1 (by simp) (Nat.le_refl _) with ⟨_, h⟩ | ⟨e, he, _⟩
    · exact h
    · simp [leftOf] at he
  clear hr1 hm1
  go_enter Tryd.func61, Tryd.ntmps61
  go_wp2_with (at_range; refine wpList_range rfl _ _ rfl _ _ rfl hrg ?_)
  try go_frame
  go_loopw [3] (fun v wr => v = .slice none 0 0 ∧ wr = w.alloc (.mapIter (some g) 0 #[] 0)) (fun _ _ => 0)
  case atStart => exact ⟨rfl, rfl⟩
  case round =>
  obtain ⟨rfl, rfl⟩ := hrel
  go_wp2_with (at_next; refine wpList_next rfl _ rfl _ _ rfl 0 hnx ?_)
  refine (sort_none _ _).mono ?_
  rintro e w1 ⟨rfl, hb⟩
  go_wp2_with fail
  go_ret
  exact ⟨rfl, HB1.out.trans (hb.mono HB1.out.size)⟩
set_option maxRecDepth 100000 in
theorem join_none (w : World) : Calls Tryd.prog 54 #[.slice none 0 0] w fun e w' => e = .returned (.slice none 0 0) ∧ Below w.heap.size w w' := by
  have HB := Lib.hid (one_alloc w (.map #[] 0))
  have HN := Lib.hid (heap_alloc_new w (.map #[] 0))
  go_enter Tryd.func54, Tryd.ntmps54
  go_wp2_with fail
  refine (counts_none _).mono ?_
  rintro e w1 ⟨rfl, rfl⟩
  go_wp2_with fail
  refine (rising_none _ _ HN.out).mono ?_
  rintro e w1 ⟨rfl, hb⟩
  go_wp2_with fail
  go_ret
  exact ⟨rfl, HB.out.trans (hb.mono HB.out.size)⟩
set_option maxRecDepth 100000 in
theorem content_none (w : World) : Calls Tryd.prog 45 #[.slice none 0 0] w fun e w' => e = .returned (.slice none 0 0) ∧ Below w.heap.size w w' := by
  go_enter Tryd.func45, Tryd.ntmps45
  go_wp2_with fail
  go_loopw [3, 8] (fun v i wr => v = .slice none 0 0 ∧ i = .int .i64 0 ∧ wr = w) (fun _ _ _ => 0)
  case atStart => exact ⟨rfl, rfl, rfl⟩
  case round =>
  obtain ⟨rfl, rfl, rfl⟩ := hrel
  go_wp2_with fail
  refine (join_none _).mono ?_
  rintro e w1 ⟨rfl, hb⟩
  go_wp2_with fail
  go_ret
  exact ⟨rfl, hb⟩
set_option maxRecDepth 100000 in
theorem tell_none (B b : Nat) (bs : List Value) (w : World) (h : Bd B b bs w) (hl : bs.length ≤ 100000) (hB : B ≤ w.heap.size) : Calls Tryd.prog 41 #[.slice none 0 0, .pointer (some ⟨b, 0, none⟩)] w fun e w' => e = .returned (.tuple #[]) ∧ Bd B b (bs ++ [.int .u8 10]) w' ∧ Below B w w' := by
  have HW := Lib.hid (wbyte_any B b bs 10 w h (by omega) hB)
  clear h
  go_enter Tryd.func41, Tryd.ntmps41
  go_wp2_with fail
  go_loopw [7] (fun i wr => i = .int .i64 0 ∧ wr = w) (fun _ _ => 0)
  case atStart => exact ⟨rfl, rfl⟩
  case round =>
  obtain ⟨rfl, rfl⟩ := hrel
  go_wp2_with fail
  refine HW.out.mono ?_
  rintro e w1 ⟨rfl, h1, hb⟩
  go_wp2_with fail
  go_end0
  exact ⟨rfl, h1, hb⟩
set_option maxRecDepth 100000 in
theorem list_none (w : World) : Calls Tryd.prog 34 #[.slice none 0 0] w fun e w' => ∃ s : ByteArray, e = .returned (.string s) ∧ Below w.heap.size w w' := by
  have HF := Lib.hid (Lib.fresh_isBuilder 93 5 w)
  have HB := Lib.hid (one_alloc w (.cells #[.pointer none, .slice none 0 0] 93))
  obtain ⟨g, hg⟩ : ∃ g, w.heap.size = g := ⟨_, rfl⟩
  obtain ⟨w0, hw0⟩ : ∃ W, w.alloc (.cells #[.pointer none, .slice none 0 0] 93) = W := ⟨_, rfl⟩
  rw [hw0] at HF HB
  rw [hg] at HF HB
  have HS0 : Hid (g = w.heap.size) := Lib.hid hg.symm
  have hs0 : g ≤ w0.heap.size := by have := HB.out.size; omega
  have HW := Lib.hid (wstr_any g g [] ⟨#[97, 108, 108]⟩ w0 HF.out (by simp [ByteArray.size]) hs0)
  rw [hg]
  go_enter Tryd.func34, Tryd.ntmps34
  go_wp2_with fail
  go_loopw [10] (fun i wr => i = .int .i64 0 ∧ wr = w0) (fun _ _ => 0)
  case atStart => exact ⟨rfl, rfl⟩
  case round =>
  obtain ⟨rfl, rfl⟩ := hrel
  go_wp2_with fail
  refine HW.out.mono ?_
  rintro e w1 ⟨rfl, h1, hb1⟩
  have H1 := Lib.hid h1
  have HB1 := Lib.hid (HB.out.trans hb1)
  clear h1 hb1
  go_wp2_with fail
  refine (content_none _).mono ?_
  rintro e w2 ⟨rfl, hb2⟩
  have HB2 := Lib.hid (HB1.out.trans (hb2.mono (by have := HB1.out.size; have := HS0.out; omega)))
  have H2 := Lib.hid (H1.out.below hb2)
  clear hb2
  go_wp2_with fail
  refine (tell_none g g _ _ H2.out (by simp [Lib.strCells]) (by have := HB2.out.size; have := HS0.out; omega)).mono ?_
  rintro e w3 ⟨rfl, h3, hb3⟩
  have HB3 := Lib.hid (HB2.out.trans hb3)
  rw [show ([] ++ Lib.strCells ⟨#[97, 108, 108]⟩ ++ [Value.int .u8 10]) = Lib.byteCells [97, 108, 108, 10] from rfl] at h3
  have HS := Lib.hid (Tryd.Builder_String_any g g [97, 108, 108, 10] w3 h3 (by have := HB3.out.size; have := HS0.out; omega))
  clear h3 hb3
  go_wp2_with fail
  refine HS.out.mono ?_
  rintro e w4 ⟨rfl, hb4⟩
  go_wp2_with fail
  go_ret
  exact ⟨_, rfl, HB3.out.trans hb4⟩
end Go.Proofs.YtlicmhgpldmliaaDoor.kit
