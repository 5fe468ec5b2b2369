/- policy.Doc: its last region, in any order. Condition: the table of powers of ten. -/
import Derived.Test.YtldjohmdlggmeaaDoorPaF
import Derived.Test.YtldjohmdlggmeaaDoorBookB
namespace Go.Proofs.YtldjohmdlggmeaaDoor.kit
open Go.RowKit Go.PlainAid
set_option linter.unusedVariables false

theorem wp_buildSlice {P : Program} {o : Oper} {a : Act} {w : World} {K : Act → World → Prop} {Q : Exit → Act → World → Prop} (ty e : TypeId) (n : Nat) (parts : Array (Nat × Operand)) (ho : o.op = .buildSlice ty n parts) (vals : Array (Nat × Value)) (hv : (parts.map fun (i, x) => (i, a.eval x)) = vals) (cs : Array Value)
    (hz : (Instr.buildSlice ty n vals).run P w = .ok (.slice (some ⟨w.heap.size, 0, none⟩) n n) (w.alloc (.cells cs e)))
    (h : K (a.put o.dst (.slice (some ⟨w.heap.size, 0, none⟩) n n)) (w.alloc (.cells cs e))) : o.wp P a w K Q := by
  unfold Oper.wp execOp
  simp only [ho]
  rw [hv]
  simp [hz, Result.andThen, Oper.upon]
  exact h
/-- The texts of which the fields are made. -/
def txV (fr dst : ByteArray) (sum own share first last : Int) (J : ByteArray) : List ByteArray := [⟨#[102, 114, 111, 109]⟩, fr, ⟨#[116, 111]⟩, dst, ⟨#[115, 117, 109]⟩, itS sum, ⟨#[111, 119, 110]⟩, itS own, ⟨#[115, 104, 97, 114, 101]⟩, itS share, ⟨#[102, 105, 114, 115, 116]⟩, itS first, ⟨#[108, 97, 115, 116]⟩, itS last, ⟨#[99, 97, 117, 115, 101, 115]⟩, J]
def fsV (fr dst : ByteArray) (sum own share first last : Int) (J : ByteArray) : List Fd := [(⟨#[102, 114, 111, 109]⟩, fr), (⟨#[116, 111]⟩, dst), (⟨#[115, 117, 109]⟩, itS sum), (⟨#[111, 119, 110]⟩, itS own), (⟨#[115, 104, 97, 114, 101]⟩, itS share), (⟨#[102, 105, 114, 115, 116]⟩, itS first), (⟨#[108, 97, 115, 116]⟩, itS last), (⟨#[99, 97, 117, 115, 101, 115]⟩, J)]
theorem bs16 (a0 a1 a2 a3 a4 a5 a6 a7 a8 a9 a10 a11 a12 a13 a14 a15 : ByteArray) (w : World) : (Instr.buildSlice 40 16 #[(0, .string a0), (1, .string a1), (2, .string a2), (3, .string a3), (4, .string a4), (5, .string a5), (6, .string a6), (7, .string a7), (8, .string a8), (9, .string a9), (10, .string a10), (11, .string a11), (12, .string a12), (13, .string a13), (14, .string a14), (15, .string a15)]).run Tryd.prog w = .ok (.slice (some ⟨w.heap.size, 0, none⟩) 16 16) (w.alloc (.cells #[.string a0, .string a1, .string a2, .string a3, .string a4, .string a5, .string a6, .string a7, .string a8, .string a9, .string a10, .string a11, .string a12, .string a13, .string a14, .string a15] 9)) := by kernel_rfl
/-- What has come up of the four operations that make and store. -/
structure DIp (w : World) (rc : Nat) (pcs : Array Value) (TA : Option Addr) (n : Nat) (TS XS : List ByteArray) (FS : List Fd) (nm ins : ByteArray) (d24 d25 d26 d27 : Bool) (v24 v25 v26 : Value) (W : World) : Prop where
  bw : Below w.heap.size w W
  pk : Blk W w.heap.size 24 pcs
  tk : SliceOf W 1 strC TA n TS
  rk : ∃ cs, Blk W rc 29 cs ∧ cs.size = 4 ∧ (d27 = true → d26 = true ∧ v26 = .agg cs)
  s24 : d24 = true → ∃ g, rc < g ∧ v24 = .slice (some ⟨g, 0, none⟩) 16 16 ∧ SliceOf W 1 strC (some ⟨g, 0, none⟩) 16 XS
  s25 : d25 = true → ∃ A c, (∀ x off, A = some ⟨x, off, none⟩ → x ≠ rc) ∧ v25 = .slice A 8 c ∧ SliceOf W 2 fdC A 8 FS
  s26 : d26 = true → d25 = true ∧ v26 = .agg #[.int .i64 3, .string nm, .string ins, v25]
  n27 : d26 = false → d27 = false
section
variable {w W W' : World} {rc n : Nat} {pcs : Array Value} {TA : Option Addr} {TS XS : List ByteArray} {FS : List Fd} {nm ins : ByteArray} {d24 d25 d26 d27 : Bool} {v24 v25 v26 : Value}
theorem DIp.below (h : DIp w rc pcs TA n TS XS FS nm ins d24 d25 d26 d27 v24 v25 v26 W) (hb : Below W.heap.size W W') : DIp w rc pcs TA n TS XS FS nm ins d24 d25 d26 d27 v24 v25 v26 W' := by
  refine ⟨h.bw.trans (hb.mono h.bw.size), h.pk.below hb h.pk.lt, h.tk.below hb, ?_, fun q => ?_, fun q => ?_, h.s26, h.n27⟩
  · obtain ⟨cs, h1, h2, h3⟩ := h.rk
    exact ⟨cs, h1.below hb h1.lt, h2, h3⟩
  · obtain ⟨g, h1, h2, h3⟩ := h.s24 q
    exact ⟨g, h1, h2, h3.below hb⟩
  · obtain ⟨A, c, h1, h2, h3⟩ := h.s25 q
    exact ⟨A, c, h1, h2, h3.below hb⟩
theorem SliceOf.rowF {α : Type} {C : Nat} {en : α → List Value} {A : Option Addr} {m g : Nat} {xs : List α} {cells : Array Value} (h : SliceOf W C en A m xs) (hf : ∀ x off, A = some ⟨x, off, none⟩ → x ≠ g) : SliceOf (W.setRow g cells) C en A m xs := by
  refine ⟨h.len, ?_⟩
  rcases h.cells with h0 | ⟨b, off, rfl, hb, hc⟩
  · exact .inl h0
  · refine .inr ⟨b, off, rfl, by simpa [World.setRow] using hb, fun i x hx j v hv => ?_⟩
    have := hc i x hx j v hv
    unfold World.cell? at this ⊢
    rw [setRow_other W g b cells (hf b off rfl)]
    exact this
/-- The slice of texts stands. -/
theorem DIp.made (h : DIp w rc pcs TA n TS XS FS nm ins d24 d25 d26 d27 v24 v25 v26 W) (hg : rc < W.heap.size) (cs : Array Value) (hs : SliceOf (W.alloc (.cells cs 9)) 1 strC (some ⟨W.heap.size, 0, none⟩) 16 XS) : DIp w rc pcs TA n TS XS FS nm ins true d25 d26 d27 (.slice (some ⟨W.heap.size, 0, none⟩) 16 16) v25 v26 (W.alloc (.cells cs 9)) := by
  have h' := h.below (one_alloc W (.cells cs 9))
  exact ⟨h'.bw, h'.pk, h'.tk, h'.rk, fun _ => ⟨W.heap.size, hg, rfl, hs⟩, h'.s25, h'.s26, h'.n27⟩
theorem DIp.fields_ (h : DIp w rc pcs TA n TS XS FS nm ins d24 false d26 d27 v24 v25 v26 W) (hb : Below W.heap.size W W') {A : Option Addr} {c : Nat} (hA : ∀ x off, A = some ⟨x, off, none⟩ → x ≠ rc) (hs : SliceOf W' 2 fdC A 8 FS) : DIp w rc pcs TA n TS XS FS nm ins d24 true d26 d27 v24 (.slice A 8 c) v26 W' := by
  have h' := h.below hb
  have h26 : d26 = false := by
    cases d26
    · rfl
    · have := (h.s26 rfl).1; cases this
  exact ⟨h'.bw, h'.pk, h'.tk, h'.rk, h'.s24, fun _ => ⟨A, c, hA, rfl, hs⟩, fun q => (by rw [h26] at q; cases q), h'.n27⟩
theorem DIp.built (h : DIp w rc pcs TA n TS XS FS nm ins d24 true false d27 v24 v25 v26 W) : DIp w rc pcs TA n TS XS FS nm ins d24 true true d27 v24 v25 (.agg #[.int .i64 3, .string nm, .string ins, v25]) W := by
  have h27 := h.n27 rfl
  refine ⟨h.bw, h.pk, h.tk, ?_, h.s24, h.s25, fun _ => ⟨rfl, rfl⟩, fun q => by cases q⟩
  obtain ⟨cs, h1, h2, _⟩ := h.rk
  exact ⟨cs, h1, h2, fun q => by rw [h27] at q; cases q⟩
theorem DIp.stored (h : DIp w rc pcs TA n TS XS FS nm ins d24 true true false v24 v25 v26 W) (hw : w.heap.size < rc) (hT : ∀ x off, TA = some ⟨x, off, none⟩ → x ≠ rc) : ∃ old cells : Array Value, v26 = .agg cells ∧ Blk W rc 29 old ∧ old.size = 4 ∧ cells.size = 4 ∧ (cells.all (·.oneCell') = true) ∧ DIp w rc pcs TA n TS XS FS nm ins d24 true true true v24 v25 v26 (W.setRow rc cells) := by
  obtain ⟨A, c, a1, a2, a3⟩ := h.s25 rfl
  obtain ⟨_, e26⟩ := h.s26 rfl
  obtain ⟨cs, r1, r2, _⟩ := h.rk
  subst a2
  refine ⟨cs, _, e26, r1, r2, rfl, by simp [Value.oneCell'], ⟨?_, ?_, h.tk.rowF hT, ?_, fun q => ?_, fun q => ⟨A, c, a1, rfl, a3.rowF a1⟩, h.s26, fun q => by cases q⟩⟩
  · exact h.bw.trans ⟨rfl, rfl, rfl, by simp [World.setRow], fun j hj => setRow_other W rc j _ (by omega)⟩
  · exact (setRow_other W rc w.heap.size _ (by omega)).trans h.pk
  · exact ⟨_, setRow_heap W rc _ _ _ (0, 0) r1, rfl, fun _ => ⟨rfl, e26⟩⟩
  · obtain ⟨g, g1, g2, g3⟩ := h.s24 q
    exact ⟨g, g1, g2, g3.rowF (fun x off e => by injection e with e; injection e with e1 e2; omega)⟩
end
end Go.Proofs.YtldjohmdlggmeaaDoor.kit
