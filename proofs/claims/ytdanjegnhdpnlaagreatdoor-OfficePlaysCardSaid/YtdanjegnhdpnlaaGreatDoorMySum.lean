/- Both together; which is less: the program and the document. No condition. -/
import Derived.Test.YtdanjegnhdpnlaaGreatDoorMyA
import Derived.Test.YtdanjegnhdpnlaaGreatDoorStep
namespace Go.Proofs.YtdanjegnhdpnlaaGreatDoor.kit
open Go.RowKit Go.PlainAid
set_option linter.unusedVariables false

theorem size_alloc (w : World) (o : Obj) : (w.alloc o).heap.size = w.heap.size + 1 := Array.size_push _
theorem Blk.newAt {w : World} {g : Nat} (t : TypeId) (cs : Array Value) (h : g = w.heap.size) : Blk (w.alloc (.cells cs t)) g t cs := h ▸ Blk.new _ _ _
theorem Blk.more {w : World} {g : Nat} {t : TypeId} {cs : Array Value} (h : Blk w g t cs) (o : Obj) : Blk (w.alloc o) g t cs := h.below ((Below.refl _ _).alloc (Nat.le_refl _) o) h.lt
theorem ret_bb {a b c d : Bool} (h : a = c) (h2 : b = d) : Ending.returned (.tuple #[.bool a, .bool b]) = .returned (.tuple #[.bool c, .bool d]) := by rw [h, h2]
theorem ret_sb {r : Mon × Bool} {a : Mon} {b : Bool} (h : r = (a, b)) : Ending.returned (.tuple #[.agg #[.string a.cur, .int .i64 a.amt], .bool b]) = .returned (.tuple #[.agg #[.string r.1.cur, .int .i64 r.1.amt], .bool r.2]) := by rw [h]

end Go.Proofs.YtdanjegnhdpnlaaGreatDoor.kit
