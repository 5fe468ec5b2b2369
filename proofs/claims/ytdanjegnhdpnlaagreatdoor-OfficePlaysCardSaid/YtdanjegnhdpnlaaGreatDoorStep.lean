/- Great structs in one step: a load of a block known whole, guarded or not; a store into the block that was made last. No condition. -/
import Derived.Test.YtdanjegnhdpnlaaGreatDoorKit
import Derived.Laws.Tables
import Derived.Deep.WholeRow
namespace Go.Proofs.YtdanjegnhdpnlaaGreatDoor.kit
set_option linter.unusedVariables false
variable {P : Program}

theorem wpList_load_want {ops : Array Oper} {rest : List Oper} {o : Oper} {a : Act} {w : World} {Q : Exit → Act → World → Prop} (hgd : Region.wanted o (yielded ops a.tmps) = true) (ty : TypeId) (x : Operand) (ho : o.op = .load ty x)
    (g : Nat) (hx : a.eval x = .pointer (some ⟨g, 0, none⟩)) (t : TypeId) (cs : Array Value) (d : TypeDesc) (hg : Blk w g t cs)
    (hu : P.underlying ty = some d) (hd : (match d with | .struct _ | .array _ _ => true | _ => false) = true) (hi : (P.info? ty).map (·.size) = some cs.size)
    (h : wpList P ops Q rest (a.put o.dst (.agg cs)) w) : wpList P ops Q (o :: rest) a w :=
  wpList_step fun K hK => by
    rw [if_pos hgd]
    exact wp_load_row ty x ho g hx t cs (0, 0) d hg hu hd hi (hK _ _ h)
/-- All cells are single ones (by the list, which the kernel reckons at once; 'Array.all' costs it a minute at eighteen cells). -/
def onesL : List Value → Bool
  | [] => true
  | v :: l => v.oneCell' && onesL l
theorem onesL_all : ∀ {l : List Value}, onesL l = true → ∀ v ∈ l, v.oneCell' = true
  | v :: l, h, u, hu => by
    simp only [onesL, Bool.and_eq_true] at h
    rcases List.mem_cons.1 hu with rfl | hu
    · exact h.1
    · exact onesL_all h.2 u hu
theorem wpList_store_new {ops : Array Oper} {rest : List Oper} {o : Oper} {a : Act} {w : World} {Q : Exit → Act → World → Prop} {t : TypeId} {old : Array Value} (hgd : o.guard = none) (ty : TypeId) (x y : Operand) (ho : o.op = .store ty x y)
    (cells : Array Value) (hx : a.eval x = .pointer (some ⟨w.heap.size, 0, none⟩)) (hy : a.eval y = .agg cells) (hi : (P.info? ty).map (·.size) = some cells.size)
    (hold : old.size = cells.size) (h1 : onesL cells.toList = true)
    (h : wpList P ops Q rest (a.put o.dst undef) (w.alloc (.cells cells t))) : wpList P ops Q (o :: rest) a (w.alloc (.cells old t)) :=
  wpList_store_row hgd ty x y ho w.heap.size cells hx hy t old (heap_alloc_last w _) hi hold (Array.all_eq_true_iff_forall_mem.2 fun v hv => onesL_all h1 v (by simpa using hv)) (by rw [World.setRow_alloc_new]; exact h)
/-- A whole struct stored into a block known whole: of the world behind it only what is kept is told. -/
theorem wpList_store_blk {ops : Array Oper} {rest : List Oper} {o : Oper} {a : Act} {w : World} {Q : Exit → Act → World → Prop} {t : TypeId} {old : Array Value} {g : Nat} (hgd : o.guard = none) (ty : TypeId) (x y : Operand) (ho : o.op = .store ty x y)
    (cells : Array Value) (hx : a.eval x = .pointer (some ⟨g, 0, none⟩)) (hy : a.eval y = .agg cells) (hg : Blk w g t old) (hi : (P.info? ty).map (·.size) = some cells.size)
    (hold : old.size = cells.size) (h1 : onesL cells.toList = true)
    (h : ∀ w', Blk w' g t cells → (∀ k t' cs, k ≠ g → Blk w k t' cs → Blk w' k t' cs) → (∀ B w0, Go.RowKit.Below B w0 w → B ≤ g → Go.RowKit.Below B w0 w') → wpList P ops Q rest (a.put o.dst undef) w') : wpList P ops Q (o :: rest) a w :=
  wpList_store_row hgd ty x y ho g cells hx hy t old hg hi hold (Array.all_eq_true_iff_forall_mem.2 fun v hv => onesL_all h1 v (by simpa using hv))
    (h _ (setRow_heap w g old cells t (0, 0) hg) (fun k t' cs hk hb => (setRow_other w g k cells hk).trans hb)
      (fun B w0 hb hB => hb.trans ⟨rfl, rfl, rfl, by simp [World.setRow], fun k hk => setRow_other w g k cells (by omega)⟩))
/-- Guards for an arm of a walk: the next operation is a store, a load. -/
theorem stop_store {ops : Array Oper} {rest : List Oper} {o : Oper} {a : Act} {w : World} {Q : Exit → Act → World → Prop} (ty : TypeId) (x y : Operand) (ho : o.op = .store ty x y) (h : wpList P ops Q (o :: rest) a w) : wpList P ops Q (o :: rest) a w := h
theorem stop_load {ops : Array Oper} {rest : List Oper} {o : Oper} {a : Act} {w : World} {Q : Exit → Act → World → Prop} (ty : TypeId) (x : Operand) (ho : o.op = .load ty x) (h : wpList P ops Q (o :: rest) a w) : wpList P ops Q (o :: rest) a w := h
end Go.Proofs.YtdanjegnhdpnlaaGreatDoor.kit
