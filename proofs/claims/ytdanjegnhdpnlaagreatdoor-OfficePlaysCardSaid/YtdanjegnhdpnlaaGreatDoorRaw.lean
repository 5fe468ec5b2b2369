/- Maps as they lie in memory: a block with its entries; a loop over one; single operations of a walk. No condition. -/
import Derived.Test.YtdanjegnhdpnlaaGreatDoorKit
import Derived.Maps.RangeWalk
namespace Go.Proofs.YtdanjegnhdpnlaaGreatDoor.kit
open Go.RowKit Go.ChangeMaps
set_option linter.unusedVariables false
def MapAt (w : World) (b : Nat) (es : Array MapEntry) (ck : Nat) : Prop := w.heap[b]? = some (.map es ck)
def IterAt (w : World) (r b since : Nat) (seen : Array Nat) (last : Nat) : Prop := w.heap[r]? = some (.mapIter (some b) since seen last)
/-- Block b has become a map of these entries; nothing else has turned. -/
structure MapTurn (w w' : World) (b : Nat) (es : Array MapEntry) (ck : Nat) : Prop where
  at_ : MapAt w' b es ck
  grown : w.grownBy w' (some b)
  size : w'.heap.size = w.heap.size
structure IterTurn (w w' : World) (r b since : Nat) (seen : Array Nat) (last : Nat) : Prop where
  at_ : IterAt w' r b since seen last
  grown : w.grownBy w' (some r)
  size : w'.heap.size = w.heap.size
section
variable {w w' w0 : World} {b r g since last ck ck' B : Nat} {es es' : Array MapEntry} {seen : Array Nat}
theorem MapAt.lt (h : MapAt w b es ck) : b < w.heap.size := (Array.getElem?_eq_some_iff.1 h).1
theorem IterAt.lt (h : IterAt w r b since seen last) : r < w.heap.size := (Array.getElem?_eq_some_iff.1 h).1
theorem MapAt.below (h : MapAt w b es ck) (hb : Below B w w') (hB : b < B) : MapAt w' b es ck := (hb.block b hB).trans h
theorem IterAt.below (h : IterAt w r b since seen last) (hb : Below B w w') (hB : r < B) : IterAt w' r b since seen last := (hb.block r hB).trans h
theorem MapAt.drew (h : MapAt w b es ck) : MapAt w.drew b es ck := h
theorem MapAt.alloc (h : MapAt w b es ck) (o : Obj) : MapAt (w.alloc o) b es ck := (Below.heap_alloc w o b h.lt).trans h
theorem IterAt.alloc (h : IterAt w r b since seen last) (o : Obj) : IterAt (w.alloc o) r b since seen last := (Below.heap_alloc w o r h.lt).trans h
theorem MapAt.kept {row : Option Nat} (h : MapAt w b es ck) (hg : w.grownBy w' row) (hne : some b ≠ row) : MapAt w' b es ck := (hg.block b h.lt hne).trans h
theorem IterAt.kept {row : Option Nat} (h : IterAt w r b since seen last) (hg : w.grownBy w' row) (hne : some r ≠ row) : IterAt w' r b since seen last := (hg.block r h.lt hne).trans h
theorem MapTurn.bel (h : MapTurn w w' b es ck) (hB : Below B w0 w) (h1 : B ≤ w.heap.size) (h2 : B ≤ b) : Below B w0 w' := hB.grown h.grown h1 (fun k e => by injection e with e; omega)
theorem IterTurn.bel (h : IterTurn w w' r b since seen last) (hB : Below B w0 w) (h1 : B ≤ w.heap.size) (h2 : B ≤ r) : Below B w0 w' := hB.grown h.grown h1 (fun k e => by injection e with e; omega)
theorem turn_set (hb : MapAt w b es ck) (es' : Array MapEntry) (ck' : Nat) : MapTurn w (setBlock w b (.map es' ck')) b es' ck' :=
  ⟨heap_setBlock_same hb _, ⟨rfl, rfl, rfl, by simp [setBlock], fun i _ hi => heap_setBlock_other hb _ (fun e => hi (by rw [e]))⟩, by simp [setBlock]⟩
/-- The step of a loop over the map, where nothing has been laid into it since. -/
theorem next_step (ty : TypeId) (hr : IterAt w r b since seen last) (hb : MapAt w b es ck) (hold : ∀ x ∈ es.toList, x.born < since) (hsc : since ≤ last) (hne : r ≠ b) (hnd : (es.toList.map (·.born)).Nodup) :
    ((leftOf es seen).size = 0 ∧ (Instr.next (.pointer (some ⟨r, 0, none⟩)) false ty).run Tryz.prog w = .ok (.tuple #[.bool false]) w) ∨
    ∃ e ∈ (leftOf es seen).toList, ∃ w', (Instr.next (.pointer (some ⟨r, 0, none⟩)) false ty).run Tryz.prog w = .ok (.tuple #[.bool true, e.key, e.val]) w' ∧ IterTurn w w' r b since (seen.push e.born) ck ∧ (Instr.entry (.pointer (some ⟨r, 0, none⟩))).run Tryz.prog w' = .ok (.tuple #[e.key, e.val]) w' := by
  rcases run_next_at (P := Tryz.prog) w ty r b since last seen es ck hr hb hold hsc with h | ⟨e, he, w1, hal, hrun⟩
  · exact .inl h
  · have hr1 : w1.heap[r]? = some (.mapIter (some b) since seen last) := by rcases hal with rfl | rfl <;> exact hr
    have hb1 : w1.heap[b]? = some (.map es ck) := by rcases hal with rfl | rfl <;> exact hb
    have hset := MapKept.heap_set (o' := .mapIter (some b) since (seen.push e.born) ck) hr1
    have hem : e ∈ es.toList := by simp [leftOf] at he; simpa using he.1
    refine .inr ⟨e, he, _, hrun, ⟨hset.1, ?_, ?_⟩, run_entry_at _ r b since seen es ck e hset.1 ((hset.2 b (fun e1 => hne e1.symm)).trans hb1) hem hnd⟩
    · rcases hal with rfl | rfl <;> exact ⟨rfl, rfl, rfl, by simp [setBlock], fun i _ hi => hset.2 i (fun e1 => hi (by rw [e1]))⟩
    · rcases hal with rfl | rfl <;> simp [setBlock]
end
section
variable {P : Program} {ops : Array Oper} {rest : List Oper} {o : Oper} {a : Act} {w w' : World} {Q : Exit → Act → World → Prop} {K : Act → World → Prop}
theorem wp_val (v : Value) (h : (execOp a.eval o).run P w = .ok (.value v) w') (hk : K (a.put o.dst v) w') : o.wp P a w K Q := by
  unfold Oper.wp
  rw [h]
  exact hk
theorem wpList_val (hg : o.guard = none) (v : Value) (h : (execOp a.eval o).run P w = .ok (.value v) w') (hk : wpList P ops Q rest (a.put o.dst v) w') : wpList P ops Q (o :: rest) a w :=
  wpList_plain hg fun K hK => wp_val v h (hK _ _ hk)
end
section
variable {P : Program} {ops : Array Oper} {rest : List Oper} {o : Oper} {a : Act} {w : World} {Q : Exit → Act → World → Prop}
theorem wp_skip {K : Act → World → Prop} {w' : World} (h : (execOp a.eval o).run P w = .ok .skip w') (hk : K (a.put o.dst undef) w') : o.wp P a w K Q := by
  unfold Oper.wp
  rw [h]
  exact hk
theorem wpList_look (hg : o.guard = none) (m x : Operand) (t : TypeId) (hop : o.op = .lookup t m x false) (M K v : Value) (hm : a.eval m = M) (hx : a.eval x = K) (h : (Instr.lookup t M K false).run P w = .ok v w) (hk : wpList P ops Q rest (a.put o.dst v) w) : wpList P ops Q (o :: rest) a w :=
  wpList_val hg v (by simp [execOp, hop, hm, hx, h, Result.andThen]) hk
theorem wpList_next (hg : o.guard = none) (it : Operand) (hop : o.op = Op.next it false) (I v : Value) (hit : a.eval it = I) {w' : World} (ty : TypeId) (h0 : (Instr.next I false ty).run P w = .ok v w') (hk : wpList P ops Q rest (a.put o.dst v) w') : wpList P ops Q (o :: rest) a w :=
  have h : (Instr.next I false o.type).run P w = .ok v w' := h0
  wpList_val hg v (by simp [execOp, hop, hit, h, Result.andThen]) hk
theorem wpList_range (hg : o.guard = none) (m : Operand) (t : TypeId) (hop : o.op = Op.range t m) (M v : Value) (hm : a.eval m = M) {w' : World} (h : (Instr.range t M).run P w = .ok v w') (hk : wpList P ops Q rest (a.put o.dst v) w') : wpList P ops Q (o :: rest) a w :=
  wpList_val hg v (by simp [execOp, hop, hm, h, Result.andThen]) hk
end
end Go.Proofs.YtdanjegnhdpnlaaGreatDoor.kit
