/- A map with keys of three texts, seen as its entries stand: what each operation on it gives. No condition. -/
import Derived.Test.YtlicmhgpldmliaaNum
import Derived.Test.YtlicmhgpldmliaaBookB
import Derived.Maps.RangeWalk
namespace Go.Proofs.Ytlicmhgpldmliaa.kit
open Go.RowKit Go.ChangeMaps
set_option linter.unusedVariables false
def MapAt (w : World) (b : Nat) (es : Array MapEntry) (ck : Nat) : Prop := w.heap[b]? = some (.map es ck)
def IterAt (w : World) (r b since : Nat) (seen : Array Nat) (last : Nat) : Prop := w.heap[r]? = some (.mapIter (some b) since seen last)
/-- Block b has become a map of these entries; nothing else has turned. -/
structure MapTurn (w w' : World) (b : Nat) (es : Array MapEntry) (ck : Nat) : Prop where
  at_ : MapAt w' b es ck
  grown : w.grownBy w' (some b)
  size : w'.heap.size = w.heap.size
structure IterTurn (w w' : World) (r b since : Nat) (seen : Array Nat) (last : Nat) : Prop where
  at_ : IterAt w' r b since seen last
  grown : w.grownBy w' (some r)
  size : w'.heap.size = w.heap.size
section
variable {w w' w0 : World} {b r g since last ck ck' B : Nat} {es es' : Array MapEntry} {seen : Array Nat}
theorem MapAt.lt (h : MapAt w b es ck) : b < w.heap.size := (Array.getElem?_eq_some_iff.1 h).1
theorem IterAt.lt (h : IterAt w r b since seen last) : r < w.heap.size := (Array.getElem?_eq_some_iff.1 h).1
theorem MapAt.below (h : MapAt w b es ck) (hb : Below B w w') (hB : b < B) : MapAt w' b es ck := (hb.block b hB).trans h
theorem IterAt.below (h : IterAt w r b since seen last) (hb : Below B w w') (hB : r < B) : IterAt w' r b since seen last := (hb.block r hB).trans h
theorem MapAt.drew (h : MapAt w b es ck) : MapAt w.drew b es ck := h
theorem MapAt.alloc (h : MapAt w b es ck) (o : Obj) : MapAt (w.alloc o) b es ck := (Below.heap_alloc w o b h.lt).trans h
theorem IterAt.alloc (h : IterAt w r b since seen last) (o : Obj) : IterAt (w.alloc o) r b since seen last := (Below.heap_alloc w o r h.lt).trans h
theorem MapAt.kept {row : Option Nat} (h : MapAt w b es ck) (hg : w.grownBy w' row) (hne : some b ≠ row) : MapAt w' b es ck := (hg.block b h.lt hne).trans h
theorem IterAt.kept {row : Option Nat} (h : IterAt w r b since seen last) (hg : w.grownBy w' row) (hne : some r ≠ row) : IterAt w' r b since seen last := (hg.block r h.lt hne).trans h
theorem MapTurn.bel (h : MapTurn w w' b es ck) (hB : Below B w0 w) (h1 : B ≤ w.heap.size) (h2 : B ≤ b) : Below B w0 w' := hB.grown h.grown h1 (fun k e => by injection e with e; omega)
theorem IterTurn.bel (h : IterTurn w w' r b since seen last) (hB : Below B w0 w) (h1 : B ≤ w.heap.size) (h2 : B ≤ r) : Below B w0 w' := hB.grown h.grown h1 (fun k e => by injection e with e; omega)
theorem turn_set (hb : MapAt w b es ck) (es' : Array MapEntry) (ck' : Nat) : MapTurn w (setBlock w b (.map es' ck')) b es' ck' :=
  ⟨heap_setBlock_same hb _, ⟨rfl, rfl, rfl, by simp [setBlock], fun i _ hi => heap_setBlock_other hb _ (fun e => hi (by rw [e]))⟩, by simp [setBlock]⟩
theorem look_hit {K : Value} (hb : MapAt w b es ck) (v : Value) (i : Nat) (hc : ∀ u, (Instr.checkKey es.isEmpty 10000 166 K).run Try.prog u = .ok () u) (hf : ∀ u, (Instr.findKey 166 K es.toList).run Try.prog u = .ok (some (i, v)) u) :
    (Instr.lookup 146 (.map (some b)) K false).run Try.prog w = .ok v w := by
  simp [Instr.lookup, run_underlying Try.underlying146, MapKept.run_getObj_map hb, hc, hf, Result.andThen]
theorem look_no {K : Value} (hb : MapAt w b es ck) (hc : ∀ u, (Instr.checkKey es.isEmpty 10000 166 K).run Try.prog u = .ok () u) (hf : ∀ u, (Instr.findKey 166 K es.toList).run Try.prog u = .ok none u) :
    (Instr.lookup 146 (.map (some b)) K false).run Try.prog w = .ok (.int .i64 0) w := by
  have hz : ∀ u, (zeroValue 2).run Try.prog u = .ok (.int .i64 0) u := fun u => by kernel_rfl
  simp [Instr.lookup, run_underlying Try.underlying146, MapKept.run_getObj_map hb, hc, hf, hz, Result.andThen]
theorem entry_new {K : Value} (hb : MapAt w b es ck) (hc : ∀ u, (Instr.checkKey false 10000 166 K).run Try.prog u = .ok () u) (hf : ∀ u, (Instr.findKey 166 K es.toList).run Try.prog u = .ok none u) :
    ∃ w', (Instr.mapEntry 146 (.map (some b)) K).run Try.prog w = .ok (.tuple #[.int .i64 0, .int .i64 ck]) w' ∧ MapTurn w w' b (es.push ⟨K, .int .i64 0, ck⟩) (ck + 1) := by
  have hz : ∀ u, (zeroValue 2).run Try.prog u = .ok (.int .i64 0) u := fun u => by kernel_rfl
  refine ⟨_, ?_, turn_set hb _ _⟩
  simp [Instr.mapEntry, run_underlying Try.underlying146, MapKept.run_getObj_map hb, hc, hf, hz, MapKept.run_setObj_map _ hb, Result.andThen, setBlock, goInt]
theorem entry_hit {K v : Value} {i born : Nat} (hb : MapAt w b es ck) (hc : ∀ u, (Instr.checkKey false 10000 166 K).run Try.prog u = .ok () u) (hf : ∀ u, (Instr.findKey 166 K es.toList).run Try.prog u = .ok (some (i, v)) u)
    (hk : ∀ u, (Instr.keyThatStays (((es[i]?).map (·.key)).getD K) K).run Try.prog u = .ok K u) (hm : es.modify i (fun e => { e with key := K }) = es) (hn : (Option.map (fun x => (x.born : Int)) es[i]?).getD 0 = (born : Int)) :
    ∃ w', (Instr.mapEntry 146 (.map (some b)) K).run Try.prog w = .ok (.tuple #[v, .int .i64 born]) w' ∧ MapTurn w w' b es ck := by
  refine ⟨_, ?_, turn_set hb es ck⟩
  simp [Instr.mapEntry, run_underlying Try.underlying146, MapKept.run_getObj_map hb, hc, hf, hk, MapKept.run_setObj_map _ hb, Result.andThen, setBlock, goInt, hm, hn]
theorem store_at {val : Value} {i born : Nat} (hb : MapAt w b es ck) (hi : es.findIdx? (fun e => (e.born : Int) == (born : Int)) = some i) (hm : es.modify i (fun e => { e with val := val }) = es') :
    ∃ w', (Instr.entryStore 146 (.map (some b)) (.int .i64 born) val).run Try.prog w = .ok () w' ∧ MapTurn w w' b es' ck := by
  refine ⟨_, ?_, turn_set hb es' ck⟩
  have ha : ∀ u, (asInt (.int .i64 (born : Int))).run Try.prog u = .ok (born : Int) u := fun u => by simp [asInt, asIntOf]
  simp [Instr.entryStore, MapKept.run_getObj_map hb, ha, hi, MapKept.run_setObj_map _ hb, Result.andThen, setBlock, hm]
theorem del_at {K v : Value} {i : Nat} (hb : MapAt w b es ck) (ty : TypeId) (hc : ∀ u, (Instr.checkKey es.isEmpty 10000 166 K).run Try.prog u = .ok () u) (hf : ∀ u, (Instr.findKey 166 K es.toList).run Try.prog u = .ok (some (i, v)) u) (hm : es.eraseIdxIfInBounds i = es') :
    ∃ w', (Builtin.delete_ #[146, 166] ty #[.map (some b), K]).run Try.prog w = .ok (.tuple #[]) w' ∧ MapTurn w w' b es' ck := by
  refine ⟨_, ?_, turn_set hb es' ck⟩
  simp [Builtin.delete_, run_underlying Try.underlying146, MapKept.run_getObj_map hb, hc, hf, MapKept.run_setObj_map _ hb, Result.andThen, setBlock, hm]
/-- The step of a loop over the map, where nothing has been laid into it since. -/
theorem next_step (ty : TypeId) (hr : IterAt w r b since seen last) (hb : MapAt w b es ck) (hold : ∀ x ∈ es.toList, x.born < since) (hsc : since ≤ last) (hne : r ≠ b) (hnd : (es.toList.map (·.born)).Nodup) :
    ((leftOf es seen).size = 0 ∧ (Instr.next (.pointer (some ⟨r, 0, none⟩)) false ty).run Try.prog w = .ok (.tuple #[.bool false]) w) ∨
    ∃ e ∈ (leftOf es seen).toList, ∃ w', (Instr.next (.pointer (some ⟨r, 0, none⟩)) false ty).run Try.prog w = .ok (.tuple #[.bool true, e.key, e.val]) w' ∧ IterTurn w w' r b since (seen.push e.born) ck ∧ (Instr.entry (.pointer (some ⟨r, 0, none⟩))).run Try.prog w' = .ok (.tuple #[e.key, e.val]) w' := by
  rcases run_next_at (P := Try.prog) w ty r b since last seen es ck hr hb hold hsc with h | ⟨e, he, w1, hal, hrun⟩
  · exact .inl h
  · have hr1 : w1.heap[r]? = some (.mapIter (some b) since seen last) := by rcases hal with rfl | rfl <;> exact hr
    have hb1 : w1.heap[b]? = some (.map es ck) := by rcases hal with rfl | rfl <;> exact hb
    have hset := MapKept.heap_set (o' := .mapIter (some b) since (seen.push e.born) ck) hr1
    have hem : e ∈ es.toList := by simp [leftOf] at he; simpa using he.1
    refine .inr ⟨e, he, _, hrun, ⟨hset.1, ?_, ?_⟩, run_entry_at _ r b since seen es ck e hset.1 ((hset.2 b (fun e1 => hne e1.symm)).trans hb1) hem hnd⟩
    · rcases hal with rfl | rfl <;> exact ⟨rfl, rfl, rfl, by simp [setBlock], fun i _ hi => hset.2 i (fun e1 => hi (by rw [e1]))⟩
    · rcases hal with rfl | rfl <;> simp [setBlock]
end
section
variable {P : Program} {ops : Array Oper} {rest : List Oper} {o : Oper} {a : Act} {w w' : World} {Q : Exit → Act → World → Prop} {K : Act → World → Prop}
theorem wp_val (v : Value) (h : (execOp a.eval o).run P w = .ok (.value v) w') (hk : K (a.put o.dst v) w') : o.wp P a w K Q := by
  unfold Oper.wp
  rw [h]
  exact hk
theorem wpList_val (hg : o.guard = none) (v : Value) (h : (execOp a.eval o).run P w = .ok (.value v) w') (hk : wpList P ops Q rest (a.put o.dst v) w') : wpList P ops Q (o :: rest) a w :=
  wpList_plain hg fun K hK => wp_val v h (hK _ _ hk)
end
def k1 : Value := .agg #[.string ⟨#[85, 83, 68]⟩, .string ⟨#[97]⟩, .string ⟨#[98]⟩]
def k2 : Value := .agg #[.string ⟨#[85, 83, 68]⟩, .string ⟨#[98]⟩, .string ⟨#[97]⟩]
def m1 : Array MapEntry := #[⟨k1, .int .i64 5, 0⟩]
def m1n : Array MapEntry := #[⟨k1, .int .i64 0, 0⟩]
def m2n : Array MapEntry := #[⟨k1, .int .i64 5, 0⟩, ⟨k2, .int .i64 0, 1⟩]
def m2 : Array MapEntry := #[⟨k1, .int .i64 5, 0⟩, ⟨k2, .int .i64 3, 1⟩]
def m3 : Array MapEntry := #[⟨k1, .int .i64 2, 0⟩, ⟨k2, .int .i64 3, 1⟩]
def m4 : Array MapEntry := #[⟨k1, .int .i64 2, 0⟩, ⟨k2, .int .i64 0, 1⟩]
def m6 : Array MapEntry := #[⟨k1, .int .i64 5, 0⟩, ⟨k2, .int .i64 0, 1⟩]
def m5 : Array MapEntry := #[⟨k1, .int .i64 2, 0⟩]
section
variable {w : World} {b ck : Nat}
theorem look_m0_1 (h : MapAt w b #[] ck) : (Instr.lookup 146 (.map (some b)) k1 false).run Try.prog w = .ok (.int .i64 0) w := look_no h (fun u => by kernel_rfl) (fun u => by kernel_rfl)
theorem look_m1n_1 (h : MapAt w b m1n ck) : (Instr.lookup 146 (.map (some b)) k1 false).run Try.prog w = .ok (.int .i64 0) w := look_hit h _ 0 (fun u => by kernel_rfl) (fun u => by kernel_rfl)
theorem look_m1_2 (h : MapAt w b m1 ck) : (Instr.lookup 146 (.map (some b)) k2 false).run Try.prog w = .ok (.int .i64 0) w := look_no h (fun u => by kernel_rfl) (fun u => by kernel_rfl)
theorem look_m1_1 (h : MapAt w b m1 ck) : (Instr.lookup 146 (.map (some b)) k1 false).run Try.prog w = .ok (.int .i64 5) w := look_hit h _ 0 (fun u => by kernel_rfl) (fun u => by kernel_rfl)
theorem look_m2n_2 (h : MapAt w b m2n ck) : (Instr.lookup 146 (.map (some b)) k2 false).run Try.prog w = .ok (.int .i64 0) w := look_hit h _ 1 (fun u => by kernel_rfl) (fun u => by kernel_rfl)
theorem look_m2_1 (h : MapAt w b m2 ck) : (Instr.lookup 146 (.map (some b)) k1 false).run Try.prog w = .ok (.int .i64 5) w := look_hit h _ 0 (fun u => by kernel_rfl) (fun u => by kernel_rfl)
theorem look_m2_2 (h : MapAt w b m2 ck) : (Instr.lookup 146 (.map (some b)) k2 false).run Try.prog w = .ok (.int .i64 3) w := look_hit h _ 1 (fun u => by kernel_rfl) (fun u => by kernel_rfl)
theorem look_m3_1 (h : MapAt w b m3 ck) : (Instr.lookup 146 (.map (some b)) k1 false).run Try.prog w = .ok (.int .i64 2) w := look_hit h _ 0 (fun u => by kernel_rfl) (fun u => by kernel_rfl)
theorem look_m3_2 (h : MapAt w b m3 ck) : (Instr.lookup 146 (.map (some b)) k2 false).run Try.prog w = .ok (.int .i64 3) w := look_hit h _ 1 (fun u => by kernel_rfl) (fun u => by kernel_rfl)
theorem look_m4_2 (h : MapAt w b m4 ck) : (Instr.lookup 146 (.map (some b)) k2 false).run Try.prog w = .ok (.int .i64 0) w := look_hit h _ 1 (fun u => by kernel_rfl) (fun u => by kernel_rfl)
theorem look_m6_2 (h : MapAt w b m6 ck) : (Instr.lookup 146 (.map (some b)) k2 false).run Try.prog w = .ok (.int .i64 0) w := look_hit h _ 1 (fun u => by kernel_rfl) (fun u => by kernel_rfl)
theorem look_m5_1 (h : MapAt w b m5 ck) : (Instr.lookup 146 (.map (some b)) k1 false).run Try.prog w = .ok (.int .i64 2) w := look_hit h _ 0 (fun u => by kernel_rfl) (fun u => by kernel_rfl)
theorem look_m5_2 (h : MapAt w b m5 ck) : (Instr.lookup 146 (.map (some b)) k2 false).run Try.prog w = .ok (.int .i64 0) w := look_no h (fun u => by kernel_rfl) (fun u => by kernel_rfl)
theorem ent_m0_1 (h : MapAt w b #[] 0) : ∃ w', (Instr.mapEntry 146 (.map (some b)) k1).run Try.prog w = .ok (.tuple #[.int .i64 0, .int .i64 0]) w' ∧ MapTurn w w' b m1n 1 := entry_new h (fun u => by kernel_rfl) (fun u => by kernel_rfl)
theorem ent_m1_2 (h : MapAt w b m1 1) : ∃ w', (Instr.mapEntry 146 (.map (some b)) k2).run Try.prog w = .ok (.tuple #[.int .i64 0, .int .i64 1]) w' ∧ MapTurn w w' b m2n 2 := entry_new h (fun u => by kernel_rfl) (fun u => by kernel_rfl)
theorem ent_m2_1 (h : MapAt w b m2 ck) : ∃ w', (Instr.mapEntry 146 (.map (some b)) k1).run Try.prog w = .ok (.tuple #[.int .i64 5, .int .i64 0]) w' ∧ MapTurn w w' b m2 ck := entry_hit (i := 0) h (fun u => by kernel_rfl) (fun u => by kernel_rfl) (fun u => by kernel_rfl) (by kernel_rfl) (by kernel_rfl)
theorem ent_m2_2 (h : MapAt w b m2 ck) : ∃ w', (Instr.mapEntry 146 (.map (some b)) k2).run Try.prog w = .ok (.tuple #[.int .i64 3, .int .i64 1]) w' ∧ MapTurn w w' b m2 ck := entry_hit (i := 1) h (fun u => by kernel_rfl) (fun u => by kernel_rfl) (fun u => by kernel_rfl) (by kernel_rfl) (by kernel_rfl)
theorem ent_m3_2 (h : MapAt w b m3 ck) : ∃ w', (Instr.mapEntry 146 (.map (some b)) k2).run Try.prog w = .ok (.tuple #[.int .i64 3, .int .i64 1]) w' ∧ MapTurn w w' b m3 ck := entry_hit (i := 1) h (fun u => by kernel_rfl) (fun u => by kernel_rfl) (fun u => by kernel_rfl) (by kernel_rfl) (by kernel_rfl)
theorem ent_m1_1 (h : MapAt w b m1 ck) : ∃ w', (Instr.mapEntry 146 (.map (some b)) k1).run Try.prog w = .ok (.tuple #[.int .i64 5, .int .i64 0]) w' ∧ MapTurn w w' b m1 ck := entry_hit (i := 0) h (fun u => by kernel_rfl) (fun u => by kernel_rfl) (fun u => by kernel_rfl) (by kernel_rfl) (by kernel_rfl)
theorem sto_m1n (h : MapAt w b m1n ck) : ∃ w', (Instr.entryStore 146 (.map (some b)) (.int .i64 0) (.int .i64 5)).run Try.prog w = .ok () w' ∧ MapTurn w w' b m1 ck := store_at (born := 0) (i := 0) h (by kernel_rfl) (by kernel_rfl)
theorem sto_m2n (h : MapAt w b m2n ck) : ∃ w', (Instr.entryStore 146 (.map (some b)) (.int .i64 1) (.int .i64 3)).run Try.prog w = .ok () w' ∧ MapTurn w w' b m2 ck := store_at (born := 1) (i := 1) h (by kernel_rfl) (by kernel_rfl)
theorem sto_m2_1 (h : MapAt w b m2 ck) : ∃ w', (Instr.entryStore 146 (.map (some b)) (.int .i64 0) (.int .i64 2)).run Try.prog w = .ok () w' ∧ MapTurn w w' b m3 ck := store_at (born := 0) (i := 0) h (by kernel_rfl) (by kernel_rfl)
theorem sto_m3_2 (h : MapAt w b m3 ck) : ∃ w', (Instr.entryStore 146 (.map (some b)) (.int .i64 1) (.int .i64 0)).run Try.prog w = .ok () w' ∧ MapTurn w w' b m4 ck := store_at (born := 1) (i := 1) h (by kernel_rfl) (by kernel_rfl)
theorem sto_m2_2 (h : MapAt w b m2 ck) : ∃ w', (Instr.entryStore 146 (.map (some b)) (.int .i64 1) (.int .i64 0)).run Try.prog w = .ok () w' ∧ MapTurn w w' b m6 ck := store_at (born := 1) (i := 1) h (by kernel_rfl) (by kernel_rfl)
theorem sto_m1_1 (h : MapAt w b m1 ck) : ∃ w', (Instr.entryStore 146 (.map (some b)) (.int .i64 0) (.int .i64 2)).run Try.prog w = .ok () w' ∧ MapTurn w w' b m5 ck := store_at (born := 0) (i := 0) h (by kernel_rfl) (by kernel_rfl)
theorem del_m4 (ty : TypeId) (h : MapAt w b m4 ck) : ∃ w', (Builtin.delete_ #[146, 166] ty #[.map (some b), k2]).run Try.prog w = .ok (.tuple #[]) w' ∧ MapTurn w w' b m5 ck := del_at (v := .int .i64 0) (i := 1) h ty (fun u => by kernel_rfl) (fun u => by kernel_rfl) (by kernel_rfl)
theorem del_m6 (ty : TypeId) (h : MapAt w b m6 ck) : ∃ w', (Builtin.delete_ #[146, 166] ty #[.map (some b), k2]).run Try.prog w = .ok (.tuple #[]) w' ∧ MapTurn w w' b m1 ck := del_at (v := .int .i64 0) (i := 1) h ty (fun u => by kernel_rfl) (fun u => by kernel_rfl) (by kernel_rfl)
end
end Go.Proofs.Ytlicmhgpldmliaa.kit
