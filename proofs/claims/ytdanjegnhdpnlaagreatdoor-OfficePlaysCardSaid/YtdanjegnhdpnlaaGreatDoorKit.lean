/- Small lemmas for every law of this seat: an argument opened to typed values, and the step from a law's walk to the row. Nothing here is a statement of the seed. No condition. -/
import Derived.Test.YtdanjegnhdpnlaaGreatDoorRows
import Derived.WalkKit
import Derived.WalkSpells
import Derived.ProofKit
import Derived.OpenShut
import Derived.ShutString
import Derived.ChangeOld
import Derived.Below
import Derived.Deep.Slices
import Derived.Lib.Hide
import Derived.Laws.OwnMore
import Derived.Deep.Draws
import Derived.Laws.Rows
import Derived.Deep.QuietTactic
import Derived.BigQuiet
import Derived.Outline
namespace Go.Proofs.YtdanjegnhdpnlaaGreatDoor.kit
open Go.ChangeShapes Go.WideShapes Go.ChangeAt Go.RowKit
set_option linter.unusedVariables false

theorem ret_int {k : IntKind} {a b : Int} (h : a = b) : Ending.returned (.int k a) = .returned (.int k b) := by rw [h]
theorem ret_bool {a b : Bool} (h : a = b) : Ending.returned (.bool a) = .returned (.bool b) := by rw [h]
theorem ret_pb {k : IntKind} {r : Int × Bool} {a : Int} {b : Bool} (h : r = (a, b)) : Ending.returned (.tuple #[.int k a, .bool b]) = .returned (.tuple #[.int k r.1, .bool r.2]) := by rw [h]
theorem ret_pair {k k' : IntKind} {r : Int × Int} {a b : Int} (h : r = (a, b)) : Ending.returned (.tuple #[.int k a, .int k' b]) = .returned (.tuple #[.int k r.1, .int k' r.2]) := by rw [h]
/-! blocks known whole (a worked text of the guide, copied as it bids) -/
def Blk (w : World) (g : Nat) (t : TypeId) (cs : Array Value) : Prop := w.heap[g]? = some (.cells cs t (0, 0))

section
variable {w w' : World} {g : Nat} {t : TypeId} {cs : Array Value}
theorem Blk.lt (h : Blk w g t cs) : g < w.heap.size := by
  rcases Nat.lt_or_ge g w.heap.size with hlt | hge
  · exact hlt
  · unfold Blk at h; rw [Array.getElem?_eq_none hge] at h; cases h
theorem Blk.cell (h : Blk w g t cs) (i : Nat) : w.cell? ⟨g, i, none⟩ = cs[i]? := cell_of_row w g i cs t (0, 0) h
theorem Blk.frozen (h : Blk w g t cs) (i : Nat) : w.frozen? ⟨g, i, none⟩ = false := by
  unfold Blk at h
  simp [World.frozen?, h]
theorem Blk.new (w : World) (t : TypeId) (cs : Array Value) : Blk (w.alloc (.cells cs t)) w.heap.size t cs := heap_alloc_new w _
theorem Blk.drew (h : Blk w g t cs) : Blk w.drew g t cs := h
theorem Blk.drewN (h : Blk w g t cs) (n : Nat) : Blk (w.drewN n) g t cs := h
theorem Blk.alloc (h : Blk w g t cs) (o : Obj) : Blk (w.alloc o) g t cs := (Below.heap_alloc w o g h.lt).trans h
theorem Blk.set_ (h : Blk w g t cs) (i : Nat) (u : Value) : Blk (w.setCell ⟨g, i, none⟩ u) g t (cs.setIfInBounds i u) := by
  unfold Blk at h ⊢
  simp [World.setCell, Array.getElem?_modify, h]
theorem Blk.far (h : Blk w g t cs) {p : Addr} (hp : g ≠ p.block) (u : Value) : Blk (w.setCell p u) g t cs := (Below.heap_setCell w p u g hp).trans h
theorem Blk.below {B : Nat} (h : Blk w g t cs) (hb : Below B w w') (hg : g < B) : Blk w' g t cs := (hb.block g hg).trans h
theorem Blk.grown {row : Option Nat} (h : Blk w g t cs) (hb : w.grownBy w' row) (hg : some g ≠ row) : Blk w' g t cs := (hb.block g h.lt hg).trans h
theorem Blk.ne_ {g' : Nat} {t' : TypeId} {cs' : Array Value} (h : Blk w g t cs) (h' : Blk w g' t' cs') (hne : t ≠ t') : g ≠ g' := by
  rintro rfl
  unfold Blk at h h'
  rw [h] at h'
  injection h' with h'
  injection h' with _ ht
  exact hne ht
theorem own_blk_ne {base : Nat} {e : TypeId} {size n : Nat} {v : Value} {xs : List Value} (h : w.ownsRow base e size v n xs) (hg : Blk w g t cs) (hne : e ≠ t) : v.ownBlock ≠ some g := by
  rcases h.2 with ⟨rfl, _⟩ | ⟨g', cap, cur, rfl, _, hh, _⟩
  · simp [Value.ownBlock]
  · intro he
    have : g' = g := by simpa [Value.ownBlock] using he
    subst this
    exact Blk.ne_ (t := e) hh hg hne rfl
end

theorem Blk.new_at (w : World) (t : TypeId) (cs : Array Value) (g : Nat) (hg : g = w.heap.size) : Blk (w.alloc (.cells cs t)) g t cs := by
  subst hg; exact Blk.new w t cs

theorem bcell {W w1 : World} (hb : Below W.heap.size W w1) : (∀ b o, b < W.heap.size → w1.cell? ⟨b, o, none⟩ = W.cell? ⟨b, o, none⟩) ∧ (∀ b o, b < W.heap.size → w1.frozen? ⟨b, o, none⟩ = W.frozen? ⟨b, o, none⟩) :=
  ⟨fun b o h => hb.cell (p := ⟨b, o, none⟩) h, fun b o h => hb.frozen (p := ⟨b, o, none⟩) h⟩
/-- The worlds that are as w was below w's heap's size. -/
structure BW (w : World) where
  val : World
  below : Below w.heap.size w val
instance (w : World) : Nonempty (BW w) := ⟨⟨w, Below.refl _ _⟩⟩
def wof {w : World} (x : BW w) : World := x.val
theorem wof_cell {w : World} {p : Addr} {v : Value} (h : w.cell? p = some v) (x : BW w) : (wof x).cell? p = some v :=
  (x.below.cell (World.block_lt_of_cell? w _ h)).trans h
theorem wof_below {w : World} (x : BW w) : Below w.heap.size w (wof x) := x.below
/-- A region that draws its order, whose operations only read, whose callees leave old memory alone: one walk in the order of the text. -/
theorem wp_region_quiet_below {P : Program} {id : Nat} {Q : Exit → Act → World → Prop} {a : Act} {w : World} {l : List Oper} (hm : P.follows .mixedOrders = true) (hB : Region.lexB .any l.toArray = true)
    (h : wpQuiet P l.toArray (fun w' => ∃ x : BW w, w' = wof x) (fun a' => ∀ w', Below w.heap.size w w' → Q .normal a' w') l a) : (Code.region id l.toArray true).wp P Q a w :=
  wp_region_quiet (C := fun w' => ∃ x : BW w, w' = wof x) hm hB ⟨⟨{ w with drawn := w.drawn + 1 }, ⟨rfl, rfl, rfl, Nat.le_refl _, fun _ _ => rfl⟩⟩, rfl⟩ (by
    have key : (fun a' => ∀ w', Below w.heap.size w w' → Q .normal a' w') = (fun a' => ∀ w', (∃ x : BW w, w' = wof x) → Q .normal a' w') := by
      funext a'
      exact propext ⟨fun h w' ⟨x, hx⟩ => h w' (by rw [hx]; exact x.below), fun h w' hb => h w' ⟨⟨w', hb⟩, rfl⟩⟩
    rw [key] at h
    simpa using h)
theorem quiet_below {P : Program} {f : FuncId} {args : Array Value} {w : World} {x : BW w} {v : Value}
    (h : Calls P f args (wof x) fun e w' => e = .returned v ∧ Below (wof x).heap.size (wof x) w') : Calls P f args (wof x) fun e w'' => e = .returned v ∧ ∃ y : BW w, w'' = wof y :=
  h.mono fun _ w' ⟨he, hb⟩ => ⟨he, ⟨w', x.below.trans (hb.mono x.below.size)⟩, rfl⟩
theorem below_drewN {B : Nat} {a w : World} (h : Below B a w) (n : Nat) : Below B a (w.drewN n) := ⟨h.os, h.tape, h.output, h.size, h.block⟩
def I64 (n : Int) : Prop := -9223372036854775808 ≤ n ∧ n ≤ 9223372036854775807
theorem i64_of_wf {n : Int} (h : (Lit.int .i64 n).wf = true) : I64 n := by
  simp [Lit.wf, IntKind.min, IntKind.max, IntKind.signed, IntKind.bits] at h
  exact ⟨by omega, by omega⟩

section
variable {H : Type} {enc : TypeId × Value → H} {P : Program}

theorem trodAll_below (hl : laidOutB P = true) {W W' : World} (hb : Below W.heap.size W W') : ∀ {ts : List TypeId} {vs : List Value} {ds : List (DataW H)} {ps : List MemPlace},
    ts.all (fun t => P.readableRec t && decide (t < P.types.size)) = true → DataW.TrodAll enc P W 0 (fun _ => true) true ts vs ds ps → (∀ x ∈ ps, x.block < W.heap.size) →
    DataW.TrodAll enc P W' 0 (fun b => decide (b < W.heap.size)) true ts vs ds ps
  | [], vs, ds, ps, _, h, _ => by
    obtain ⟨rfl, rfl, rfl⟩ := trodAll_nil h
    exact trodAll_mk0
  | t :: ts, vs, ds, ps, hr, h, hlt => by
    obtain ⟨v, vs', d, ds', p, q, rfl, rfl, rfl, h1, h2⟩ := trodAll_cons h
    simp only [List.all_cons, Bool.and_eq_true, decide_eq_true_eq] at hr
    exact trodAll_cons_mk (Below.trod hl hr.1.1 hr.1.2 h1 hb (fun x hx => hlt x (List.mem_append_left _ hx)))
      (trodAll_below hl hb hr.2 h2 (fun x hx => hlt x (List.mem_append_right _ hx)))

/-- The row's step out of a law's walk. -/
theorem closed {fn : Func} {s : ChangeSpec} {f : FuncId} {W : World} {args : Array Value} {ds gs : List (DataW H)} {before : List MemPlace} {tb : TypeId}
    (hl : laidOutB P = true) (hp : fn.params.toList.all (fun t => P.readableRec t && decide (t < P.types.size)) = true)
    (hr : fn.resultTypes = #[tb]) (hb : P.underlying tb = some .bool) (hv : s.vars = [])
    (hs : s.fn H (ds ++ gs) = { results := [.lit (.bool true)], args := ds })
    (hW : DataW.Whole enc P fn.params.toList s.vars false W args.toList ds gs before)
    (walk : Calls P f args W fun e W' => e = .returned (.bool true) ∧ Below W.heap.size W W') :
    Calls P f args W fun e W' => ∃ v, e = .returned v ∧ s.post enc P fn false true false false W args v W' := by
  refine walk.mono fun e W' ⟨he, bel⟩ => ?_
  subst he
  have hW' := hW
  obtain ⟨p, q, hA, hV, rfl, _, _⟩ := hW
  rw [hv] at hV
  obtain ⟨rfl, rfl⟩ := trodVars_none hV
  have hlt : ∀ x ∈ p, x.block < W.heap.size := fun x hx => hW'.lt x (by simpa using hx)
  refine ⟨_, rfl, ds, [], _, [], p, [], hW', ?_, ?_, ?_, bel.frame _, fun h => by cases h⟩
  · rw [hs, hr]
    exact trodAll_mk1 (shut_bool hb _)
  · rw [hs]
    exact trodAll_below hl bel hp hA hlt
  · rw [hv, hs]
    rfl

/-! ### the leaves of a struct -/
theorem trod_one {w : World} {base : Nat} {spare : Nat → Bool} {held : Bool} {m : Nat} {t : TypeId} {cs : List Value} {x : DataW H × List MemPlace}
    (h : DataW.trod enc P w base spare held m t cs = some x) (hs : ∀ fs, P.underlying t ≠ some (.struct fs)) (ha : ∀ n e, P.underlying t ≠ some (.array n e)) : cs.length = 1 := by
  cases m with
  | zero => simp [DataW.trod] at h
  | succ n =>
    unfold DataW.trod at h
    split at h <;> simp_all

/-- The one-cell leaves of a type, each with its offset. -/
def leavesAt (P : Program) : Nat → TypeId → List (Nat × TypeId)
  | 0, _ => []
  | n + 1, t =>
    match P.underlying t with
    | some (.struct fs) => fs.toList.flatMap fun f => ((leavesAt P n f.type).filter (fun x => decide (x.1 + 1 ≤ P.cellsOf f.type))).map fun x => (f.offset + x.1, x.2)
    | some (.array k e) => (List.range k).flatMap fun i => ((leavesAt P n e).filter (fun x => decide (x.1 + 1 ≤ P.cellsOf e))).map fun x => (i * P.cellsOf e + x.1, x.2)
    | _ => [(0, t)]

theorem take_one {cs : List Value} {o c k : Nat} (h : o + 1 ≤ c) : (((cs.drop k).take c).drop o).take 1 = (cs.drop (k + o)).take 1 := by
  rw [List.drop_take, List.take_take, List.drop_drop]
  congr 1
  omega

theorem trod_leaves {w : World} {base : Nat} {spare : Nat → Bool} {held : Bool} : ∀ (n : Nat) {m : Nat} {t : TypeId} {cs : List Value} {x : DataW H × List MemPlace},
    DataW.trod enc P w base spare held m t cs = some x → ∀ p ∈ leavesAt P n t, ∃ m' y, DataW.trod enc P w base spare held m' p.2 ((cs.drop p.1).take 1) = some y
  | 0, _, _, _, _, _, p, hp => by simp [leavesAt] at hp
  | n + 1, m, t, cs, x, h, p, hp => by
    unfold leavesAt at hp
    split at hp
    · rename_i fs hu
      obtain ⟨xs, m', _, _, _, hlen, hf⟩ := DataW.trod_struct hu h
      obtain ⟨f, hfm, hp⟩ := List.mem_flatMap.1 hp
      obtain ⟨q, hq, rfl⟩ := List.mem_map.1 hp
      obtain ⟨hq, hle⟩ := List.mem_filter.1 hq
      obtain ⟨i, hi, rfl⟩ := List.getElem_of_mem hfm
      have hi' : i < fs.size := by simpa using hi
      have h1 := hf i fs[i] (by simp [hi'])
      have h2 : xs[i]? = some xs[i] := List.getElem?_eq_getElem (by omega)
      rw [h2] at h1
      obtain ⟨m'', y, hy⟩ := trod_leaves n h1 q (by simpa using hq)
      refine ⟨m'', y, ?_⟩
      rw [take_one (by simpa using hle)] at hy
      simpa using hy
    · rename_i k e hu
      obtain ⟨xs, m', _, _, _, hlen, hf⟩ := DataW.trod_array hu h
      obtain ⟨i, hfm, hp⟩ := List.mem_flatMap.1 hp
      obtain ⟨q, hq, rfl⟩ := List.mem_map.1 hp
      obtain ⟨hq, hle⟩ := List.mem_filter.1 hq
      have hi : i < k := by simpa using hfm
      have h1 := hf i hi
      have h2 : xs[i]? = some xs[i] := List.getElem?_eq_getElem (by omega)
      rw [h2] at h1
      obtain ⟨m'', y, hy⟩ := trod_leaves n h1 q hq
      refine ⟨m'', y, ?_⟩
      rw [take_one (by simpa using hle)] at hy
      simpa using hy
    · rename_i hs ha
      simp only [List.mem_singleton] at hp
      subst hp
      have hl := trod_one h (fun fs e => hs fs e) (fun n e e' => ha n e e')
      refine ⟨m, x, ?_⟩
      simp only [List.drop_zero]
      rw [List.take_of_length_le (by omega)]
      exact h

section
variable {w : World} {base : Nat} {spare : Nat → Bool} {held : Bool} {n m : Nat} {t : TypeId} {cs : List Value} {x : DataW H × List MemPlace}
theorem one_at {o : Nat} {v : Value} (h : (cs.drop o).take 1 = [v]) : cs[o]? = some v := by
  have h1 : ((cs.drop o).take 1)[0]? = some v := by rw [h]; rfl
  simpa using h1
theorem leaf_int {o : Nat} {u : TypeId} {k : IntKind} (h : DataW.trod enc P w base spare held m t cs = some x) (n : Nat) (hm : (o, u) ∈ leavesAt P n t) (hu : P.underlying u = some (.int k)) : ∃ a, cs[o]? = some (.int k a) ∧ (Lit.int k a).wf = true := by
  obtain ⟨m', y, hy⟩ := trod_leaves n h _ hm
  obtain ⟨a, ha, _, hw⟩ := DataW.trod_int hu hy
  exact ⟨a, one_at ha, hw⟩
theorem leaf_bool {o : Nat} {u : TypeId} (h : DataW.trod enc P w base spare held m t cs = some x) (n : Nat) (hm : (o, u) ∈ leavesAt P n t) (hu : P.underlying u = some .bool) : ∃ a, cs[o]? = some (.bool a) := by
  obtain ⟨m', y, hy⟩ := trod_leaves n h _ hm
  obtain ⟨a, ha, _⟩ := DataW.trod_bool hu hy
  exact ⟨a, one_at ha⟩
theorem leaf_string {o : Nat} {u : TypeId} (h : DataW.trod enc P w base spare held m t cs = some x) (n : Nat) (hm : (o, u) ∈ leavesAt P n t) (hu : P.underlying u = some .string) : ∃ s : ByteArray, cs[o]? = some (.string s) ∧ s.size ≤ maxLen := by
  obtain ⟨m', y, hy⟩ := trod_leaves n h _ hm
  obtain ⟨a, ha, _, hs⟩ := DataW.trod_string hu hy
  exact ⟨a, one_at ha, hs⟩
/-- A leaf of whatever type: its cell's own reading. -/
theorem leaf_any {o : Nat} {u : TypeId} (h : DataW.trod enc P w base spare held m t cs = some x) (n : Nat) (hm : (o, u) ∈ leavesAt P n t) : ∃ m' y, DataW.trod enc P w base spare held m' u ((cs.drop o).take 1) = some y := trod_leaves n h _ hm

/-! ### a slice that reads as a list of typed values -/
/-- The slice at 'A', of n elements of C cells each, reads as xs. -/
structure SliceOf (w : World) (C : Nat) {α : Type} (en : α → List Value) (A : Option Addr) (n : Nat) (xs : List α) : Prop where
  len : xs.length = n
  cells : n = 0 ∨ ∃ b off, A = some ⟨b, off, none⟩ ∧ b < w.heap.size ∧ ∀ i x, xs[i]? = some x → ∀ j v, (en x)[j]? = some v → w.cell? ⟨b, off + (i * C + j), none⟩ = some v

theorem addr_add (b off k : Nat) : (⟨b, off, none⟩ : Addr).add k = ⟨b, off + k, none⟩ := by
  unfold Addr.add
  by_cases h : k = 0
  · simp [h]
  · simp [h]

theorem open_sliceOf {α : Type} {e : TypeId} {C : Nat} (en : α → List Value) (Wf : α → Prop) (ht : P.underlying t = some (.slice e)) (hC : P.cellsOf e = C) (hC0 : 0 < C)
    (hel : ∀ (m : Nat) (cs : List Value) (x : DataW H × List MemPlace), DataW.trod enc P w base spare held m e cs = some x → ∃ a, cs = en a ∧ Wf a)
    (h : DataW.trod enc P w base spare held m t cs = some x) :
    ∃ A l c xs, cs = [.slice A l c] ∧ l ≤ c ∧ c ≤ maxLen ∧ SliceOf w C en A l xs ∧ ∀ y ∈ xs, Wf y := by
  rcases Deep.open_slice ht h with ⟨rfl, _⟩ | ⟨a, len, cap, M, n, D, Pl, rfl, hb, hl, hm, hM, _, hi⟩
  · exact ⟨none, 0, 0, [], rfl, Nat.le_refl _, Nat.zero_le _, ⟨rfl, .inl rfl⟩, by simp⟩
  · have hlM : len ≤ M := by rw [hM]; split <;> omega
    have key : ∀ i, i < len → ∃ y : α, w.cells? base (a.add (i * C)) C = some (en y) ∧ Wf y := by
      intro i hil
      obtain ⟨cs', hc, ht'⟩ := hi i (by omega)
      rw [hC] at hc
      obtain ⟨y, rfl, hy⟩ := hel _ _ _ ht'
      exact ⟨y, hc, hy⟩
    rcases Nat.eq_zero_or_pos len with rfl | hpos
    · exact ⟨some a, 0, cap, [], rfl, hl, hm, ⟨rfl, .inl rfl⟩, by simp⟩
    · obtain ⟨y0, hy0, _⟩ := key 0 hpos
      have : Inhabited α := ⟨y0⟩
      obtain ⟨f, hf⟩ := Deep.choose_lt key
      obtain ⟨b, off, spot⟩ := a
      have hspot : spot = none := by
        obtain ⟨_, hlen, hat⟩ := World.cells?_some hy0
        have h0 := hat 0 hC0
        rw [List.getElem?_eq_getElem (by omega)] at h0
        have := World.cell?_spot h0
        simpa [Addr.add] using this
      subst hspot
      refine ⟨some ⟨b, off, none⟩, len, cap, (List.range len).map f, rfl, hl, hm, ⟨by simp, .inr ⟨b, off, rfl, ?_, ?_⟩⟩, ?_⟩
      · obtain ⟨_, hlen, hat⟩ := World.cells?_some hy0
        have h0 := hat 0 hC0
        rw [List.getElem?_eq_getElem (by omega)] at h0
        simpa [Addr.add] using World.block_lt_of_cell? w _ h0
      · intro i x hx j v hv
        have hil : i < len := by
          have := (List.getElem?_eq_some_iff.1 hx).1
          simpa using this
        simp [hil] at hx
        subst hx
        obtain ⟨hc, _⟩ := hf i hil
        obtain ⟨_, hlen, hat⟩ := World.cells?_some hc
        have hj : j < C := by
          have := (List.getElem?_eq_some_iff.1 hv).1
          omega
        have h1 := hat j hj
        rw [addr_add, addr_add, hv] at h1
        rw [← h1]
        congr 2
        omega
      · intro y hy
        obtain ⟨i, hi', rfl⟩ := List.mem_map.1 hy
        exact (hf i (by simpa using hi')).2
end

section
variable {α : Type} {w w' : World} {C n : Nat} {en : α → List Value} {A : Option Addr} {xs : List α}
theorem SliceOf.none_ : SliceOf w C en A 0 [] := ⟨rfl, .inl rfl⟩
theorem SliceOf.keep (h : SliceOf w C en A n xs) (hs : w.heap.size ≤ w'.heap.size) (hk : ∀ p : Addr, p.block < w.heap.size → w'.cell? p = w.cell? p) : SliceOf w' C en A n xs := by
  refine ⟨h.len, ?_⟩
  rcases h.cells with h0 | ⟨b, off, rfl, hb, hc⟩
  · exact .inl h0
  · exact .inr ⟨b, off, rfl, by omega, fun i x hx j v hv => (hk _ hb).trans (hc i x hx j v hv)⟩
theorem SliceOf.below (h : SliceOf w C en A n xs) (hb : Below w.heap.size w w') : SliceOf w' C en A n xs := h.keep hb.size fun _ hp => hb.cell hp
theorem flat_get (hC : ∀ x, (en x).length = C) : ∀ (xs : List α) (i : Nat) (x : α), xs[i]? = some x → ∀ j v, (en x)[j]? = some v → (xs.flatMap en)[i * C + j]? = some v
  | [], i, x, h, j, v, hv => by simp at h
  | y :: ys, 0, x, h, j, v, hv => by
    simp at h; subst h
    have hj := (List.getElem?_eq_some_iff.1 hv).1
    rw [List.flatMap_cons, Nat.zero_mul, Nat.zero_add, List.getElem?_append_left hj]
    exact hv
  | y :: ys, i + 1, x, h, j, v, hv => by
    have h1 := flat_get hC ys i x (by simpa using h) j v hv
    rw [List.flatMap_cons, List.getElem?_append_right (by rw [hC, Nat.succ_mul]; omega), hC]
    rw [← h1]
    congr 1
    rw [Nat.succ_mul]; omega
theorem SliceOf.blk {g : Nat} {t : TypeId} {cs : Array Value} (h : Blk w g t cs) (xs : List α) (hcs : cs.toList = xs.flatMap en) (hC : ∀ x, (en x).length = C) (hn : xs.length = n) : SliceOf w C en (some ⟨g, 0, none⟩) n xs :=
  ⟨hn, .inr ⟨g, 0, rfl, h.lt, fun i x hx j v hv => by
    rw [Nat.zero_add, h.cell, ← Array.getElem?_toList, hcs]
    exact flat_get hC xs i x hx j v hv⟩⟩
theorem SliceOf.new (w : World) (t : TypeId) (cs : Array Value) (g : Nat) (hg : g = w.heap.size) (xs : List α) (hcs : cs.toList = xs.flatMap en) (hC : ∀ x, (en x).length = C) (hn : xs.length = n) : SliceOf (w.alloc (.cells cs t)) C en (some ⟨g, 0, none⟩) n xs := by
  subst hg
  exact SliceOf.blk (Blk.new w t cs) xs hcs hC hn
theorem SliceOf.at_ (h : SliceOf w C en A n xs) (hn : 0 < n) : ∃ b off, A = some ⟨b, off, none⟩ ∧ b < w.heap.size ∧ ∀ i x, xs[i]? = some x → ∀ j v, (en x)[j]? = some v → w.cell? ⟨b, off + (i * C + j), none⟩ = some v := by
  rcases h.cells with h0 | h1
  · omega
  · exact h1
end

end
end Go.Proofs.YtdanjegnhdpnlaaGreatDoor.kit
