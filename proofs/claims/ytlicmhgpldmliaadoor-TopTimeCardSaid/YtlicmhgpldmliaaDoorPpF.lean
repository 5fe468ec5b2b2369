/- A credit asks for its papers. Condition: the table of powers of ten. -/
import Derived.Test.YtlicmhgpldmliaaDoorPpE
namespace Go.Proofs.YtlicmhgpldmliaaDoor.kit
open Go.RowKit Go.PlainAid
set_option linter.unusedVariables false

theorem build_deal0 (w : World) : (Instr.build 47 #[(0, .string ⟨#[100]⟩), (1, .string ⟨#[115]⟩), (2, .string ⟨#[121]⟩), (9, .agg #[.string ⟨#[85, 83, 68]⟩, .int .i64 5])]).run Tryd.prog w = .ok (.agg #[.string ⟨#[100]⟩, .string ⟨#[115]⟩, .string ⟨#[121]⟩, .string ⟨#[]⟩, .string ⟨#[]⟩, .string ⟨#[]⟩, .string ⟨#[]⟩, .string ⟨#[]⟩, .string ⟨#[]⟩, .string ⟨#[85, 83, 68]⟩, .int .i64 5, .slice none 0 0, .int .i64 0, .int .i64 0, .int .i64 0, .int .i64 0, .int .i64 0]) w := run_build w _ _ _ (by kernel_rfl)
set_option maxRecDepth 100000 in
set_option maxHeartbeats 6400000 in
theorem asks_any (w : World) (ht : PowTab w) : Calls Tryd.prog 4 #[] w fun e w' => e = .returned (.bool true) ∧ Below w.heap.size w w' := by
  have hbd := build_deal0
  have HW := Lib.hid (wanted_any ⟨#[100]⟩ ⟨#[115]⟩ ⟨#[121]⟩ ⟨#[]⟩ ⟨#[]⟩ ⟨#[]⟩ ⟨#[]⟩ ⟨#[]⟩ ⟨#[85, 83, 68]⟩ 5 0 0 0 0 0 w ⟨by omega, by omega⟩ ⟨by omega, by omega⟩ (by simp [ByteArray.size]) ht)
  clear ht
  go_enter Tryd.func4, Tryd.ntmps4
  go_wp2_with fail
  refine HW.out.mono ?_
  rintro e w1 ⟨A, c, rfl, hb1⟩
  have HB1 := Lib.hid hb1
  clear hb1 hbd HW
  go_wp2_with ((refine stop_store 43 _ _ rfl ?_; refine wpList_store_new rfl 43 _ _ rfl _ rfl rfl (by kernel_rfl) rfl rfl ?_))
  have HK := Blk.new w1 43 #[.string ⟨#[100]⟩, .string ⟨#[121]⟩, .string ⟨#[115]⟩, .string ⟨#[]⟩, .string ⟨#[]⟩, .string ⟨#[]⟩, .string ⟨#[]⟩, .string ⟨#[85, 83, 68]⟩, .int .i64 5, .int .i64 0, .int .i64 0, .int .i64 0, .int .i64 0, .int .i64 21, .int .i64 0, .bool false, .bool true, .slice A 4 c]
  have a0 := HK.cell 0; have a2 := HK.cell 2; have a8 := HK.cell 8; have a17 := HK.cell 17
  simp only [List.getElem?_toArray, List.getElem?_cons_zero, List.getElem?_cons_succ] at a0 a2 a8 a17
  go_wp2_with fail
  go_ret
  exact ⟨rfl, HB1.out.alloc HB1.out.size _⟩
end Go.Proofs.YtlicmhgpldmliaaDoor.kit
