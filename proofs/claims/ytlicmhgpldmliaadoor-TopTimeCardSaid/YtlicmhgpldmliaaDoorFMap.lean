/- Faults: as data, held against one another, in a map. No condition. -/
import Derived.Test.YtlicmhgpldmliaaDoorNotB
import Derived.Maps.Own
import Derived.Maps.Views
import Derived.DeepKeys4
import Derived.Laws.StructEq
namespace Go.Proofs.YtlicmhgpldmliaaDoor
open Go.RowKit Go.Proofs.YtlicmhgpldmliaaDoor.kit Go.Maps Go.WideMaps
set_option linter.unusedVariables false
set_option maxRecDepth 100000

abbrev Fa := Int × Int × ByteArray × Int
def faC (x : Fa) : List Value := [.int .i64 x.1, .int .i64 x.2.1, .string x.2.2.1, .int .i64 x.2.2.2]
def faV (x : Fa) : Value := .agg #[.int .i64 x.1, .int .i64 x.2.1, .string x.2.2.1, .int .i64 x.2.2.2]
def faI (x : Fa) : Prop := I64 x.1 ∧ I64 x.2.1 ∧ x.2.2.1.size ≤ maxLen ∧ I64 x.2.2.2
theorem fa_len (x : Fa) : (faC x).length = 4 := rfl
def hasF (l : List Fa) (x : Fa) : Bool := l.any (fun y => decide (y = x))
theorem hasF_iff {l : List Fa} {x : Fa} : hasF l x = true ↔ x ∈ l := by
  unfold hasF
  simp only [List.any_eq_true, decide_eq_true_eq]
  exact ⟨fun ⟨y, h, e⟩ => e ▸ h, fun h => ⟨x, h, rfl⟩⟩
theorem hasF_cons {l : List Fa} {x y : Fa} : hasF (y :: l) x = (decide (y = x) || hasF l x) := rfl

theorem laidOutF : laidOutB Tryd.prog = true := by kernel_rfl
theorem faRow : (35 : TypeId) < Tryd.prog.types.size := of_decide_eq_true (by kernel_rfl)
theorem faWide : (match Tryd.prog.underlying 35 with | some (.array _ _) | some (.struct _) => true | _ => false) = true := by rw [Tryd.underlying35]
theorem faKeyed : Keyed Tryd.prog 35 := Keyed.of_law (deep_law_laid laidOutF (m := 2) (by omega) faRow (by kernel_rfl) faWide)
theorem faCells : Tryd.prog.cellsOf 35 = 4 := by kernel_rfl
theorem inCells : Tryd.prog.cellsOf 3 = 1 := by kernel_rfl
theorem stCells : Tryd.prog.cellsOf 9 = 1 := by kernel_rfl
theorem faType : Tryd.prog.keyType 35 = true := by kernel_rfl
theorem wf_of_i64 {n : Int} (h : I64 n) : (Lit.int .i64 n).wf = true := by
  unfold I64 at h
  simp [Lit.wf, IntKind.min, IntKind.max, IntKind.signed, IntKind.bits]
  omega
theorem faKey (x : Fa) (h : faI x) : ∃ kl, keyOf Tryd.prog 35 (faV x) = some kl := by
  obtain ⟨n, hn⟩ : ∃ n, Tryd.prog.types.size = n + 1 := Nat.exists_eq_succ_of_ne_zero (Nat.pos_iff_ne_zero.1 (Nat.lt_of_le_of_lt (Nat.zero_le _) faRow))
  have hf : (faV x).formed Tryd.prog 35 = true := by simp [faV, Value.formed, Tryd.underlying35, faCells]
  obtain ⟨a, b, c, d⟩ := x
  obtain ⟨h1, h2, h3, h4⟩ := h
  have w1 := wf_of_i64 h1
  have w2 := wf_of_i64 h2
  have w4 := wf_of_i64 h4
  simp only at w1 w2 w4 h3
  unfold keyOf
  simp only [Tryd.underlying35, faType, hf, hn]
  simp [Program.keyLits, Tryd.underlying35, Tryd.underlying3, Tryd.underlying9, faV, Value.cells, faCells, inCells, stCells, w1, w2, h3, w4]

/-- Block b is a map of at most n faults, just those of l. -/
def FMap (w : World) (b n : Nat) (l : List Fa) : Prop := ∃ D : DataW Unit, w.ownsMap Tryd.prog 35 (plainElem Tryd.prog 4) b n D ∧ IsMap D ∧
  ∀ x kl, keyOf Tryd.prog 35 (faV x) = some kl → D.atKey kl (.lit (.bool false)) = .lit (.bool (hasF l x))
theorem FMap.made (w : World) : FMap (w.alloc (.map #[] 0)) w.heap.size 0 [] :=
  ⟨.map [], World.ownsMap_made w _ _ _, isMap_empty, fun _ _ _ => rfl⟩
theorem FMap.kept {w w' : World} {row : Option Nat} {b n : Nat} {l : List Fa} (h : FMap w b n l) (hg : w.grownBy w' row) (hne : some b ≠ row) : FMap w' b n l := by
  obtain ⟨D, h1, h2, h3⟩ := h
  exact ⟨D, h1.kept hg hne, h2, h3⟩
set_option maxRecDepth 20000 in
theorem FMap.look {w : World} {b n : Nat} {l : List Fa} (h : FMap w b n l) (x : Fa) (hx : faI x) :
    (Instr.lookup 72 (.map (some b)) (faV x) false).run Tryd.prog w = .ok (.bool (hasF l x)) w := by
  obtain ⟨D, h1, h2, h3⟩ := h
  obtain ⟨kl, hk⟩ := faKey x hx
  obtain ⟨v, ps, hr, hv⟩ := h1.lookup faKeyed Tryd.underlying72 (z := .bool false) (by kernel_rfl) (plainElem_bool Tryd.underlying4 false) hk
  rw [h3 x kl hk] at hv
  have : v = .bool (hasF l x) := by
    unfold plainElem at hv
    rw [Tryd.underlying4] at hv
    cases v <;> simp at hv
    simp [hv.1]
  rw [hr, this]
theorem fa_inj {x y : Fa} (h : faV y = faV x) : y = x := by
  obtain ⟨a, b, c, d⟩ := y
  obtain ⟨a', b', c', d'⟩ := x
  simp only [faV, Value.agg.injEq] at h
  have h' := congrArg Array.toList h
  simp only [List.cons.injEq, Value.int.injEq, Value.string.injEq, true_and, and_true] at h'
  obtain ⟨rfl, rfl, rfl, rfl⟩ := h'
  rfl
theorem FMap.put {w : World} {b n : Nat} {l : List Fa} (h : FMap w b n l) (hn : n < maxLen) (x : Fa) (hx : faI x) :
    ∃ w', (Instr.mapUpdate 72 (.map (some b)) (faV x) (.bool true)).run Tryd.prog w = .ok () w' ∧ FMap w' b (n + 1) (x :: l) ∧ w.grownBy w' (some b) := by
  obtain ⟨D, h1, h2, h3⟩ := h
  obtain ⟨kl, hk⟩ := faKey x hx
  obtain ⟨w', hr, ho, hg⟩ := h1.update faKeyed Tryd.underlying72 hn hk (plainElem_bool Tryd.underlying4 true)
  refine ⟨w', hr, ⟨_, ho, h2.put _ _, fun y kl' hk' => ?_⟩, hg⟩
  by_cases e : kl' = kl
  · subst e
    have e1 : y = x := fa_inj (faKeyed.inj hk' hk)
    subst e1
    rw [atKey_put_same h2 (faKeyed.key hk), hasF_cons]
    simp
  · rw [atKey_put_other e, h3 y kl' hk']
    have : y ≠ x := by
      rintro rfl
      rw [hk] at hk'
      exact e (Option.some.inj hk').symm
    rw [hasF_cons]
    simp [Ne.symm this]
theorem FMap.same {w w' : World} {b n : Nat} {l : List Fa} (h : FMap w b n l) (hh : w'.heap[b]? = w.heap[b]?) : FMap w' b n l := by
  obtain ⟨D, ⟨es, clock, hb, F, hs, hD⟩, h2, h3⟩ := h
  exact ⟨D, ⟨es, clock, hh.trans hb, F, hs, hD⟩, h2, h3⟩
theorem FMap.lt {w : World} {b n : Nat} {l : List Fa} (h : FMap w b n l) : b < w.heap.size := by
  obtain ⟨D, h1, _⟩ := h
  exact h1.lt
theorem FMap.below {w w' : World} {b n : Nat} {l : List Fa} (h : FMap w b n l) (hb : Below w.heap.size w w') : FMap w' b n l := h.same (hb.block b h.lt)
theorem FMap.alloc {w : World} {b n : Nat} {l : List Fa} (h : FMap w b n l) (o : Obj) : FMap (w.alloc o) b n l := h.same (Below.heap_alloc w o b h.lt)
theorem FMap.ne_blk {w : World} {b n g : Nat} {l : List Fa} {t : TypeId} {cs : Array Value} (h : FMap w b n l) (hg : Blk w g t cs) : b ≠ g := by
  rintro rfl
  obtain ⟨D, ⟨es, clock, hb, _⟩, _⟩ := h
  unfold Blk at hg
  rw [hb] at hg
  cases hg
theorem make_hint (n : Int) (w : World) : (Instr.makeMap 72 (some (.int .i64 n))).run Tryd.prog w = .ok (.map (some w.heap.size)) (w.alloc (.map #[] 0)) := by
  simp [Instr.makeMap, run_underlying Tryd.underlying72, asInt, asIntOf]

theorem faFields : Tryd.prog.underlying 35 = some (.struct (Tryd.prog.fieldsOf 35)) := by kernel_rfl
theorem faStood : Tryd.prog.stoodInHeld 35 = false := by kernel_rfl
theorem faGuard : Tryd.prog.eqGuardType Tryd.prog.depth 35 = false := by kernel_rfl
theorem len4 {α : Type} {l : List α} (h : l.length = 4) : ∃ a b c d, l = [a, b, c, d] := by
  rcases l with _ | ⟨a, _ | ⟨b, _ | ⟨c, _ | ⟨d, _ | ⟨e, l⟩⟩⟩⟩⟩
  all_goals first | exact ⟨_, _, _, _, rfl⟩ | (simp at h)
theorem toList_eq {a b : ByteArray} : (a.toList == b.toList) = decide (a = b) := by
  rw [Bool.eq_iff_iff, beq_iff_eq, decide_eq_true_eq, ByteArray.toList_eq, ByteArray.toList_eq]
  constructor
  · intro h
    obtain ⟨⟨x⟩⟩ := a
    obtain ⟨⟨y⟩⟩ := b
    simp at h
    rw [h]
  · intro h; rw [h]
theorem eqFa (x y : Fa) (w : World) : (binOp .eql 35 (.agg #[.int .i64 x.1, .int .i64 x.2.1, .string x.2.2.1, .int .i64 x.2.2.2]) (.agg #[.int .i64 y.1, .int .i64 y.2.1, .string y.2.2.1, .int .i64 y.2.2.2])).run Tryd.prog w = .ok (.bool (decide (x = y))) w := by
  obtain ⟨a, b, c, d⟩ := x
  obtain ⟨a', b', c', d'⟩ := y
  simp only
  rw [run_eql_struct, show (10000 : Nat) = 9999 + 1 from rfl, run_equalIn_struct _ _ _ _ _ faFields faStood]
  have hf : (Tryd.prog.fieldsOf 35).toList.map (fun f => (f.name, f.type, f.offset)) = [("Paper", 3, 0), ("Kind", 3, 1), ("Field", 9, 2), ("Why", 3, 3)] := by kernel_rfl
  generalize (Tryd.prog.fieldsOf 35).toList = l at hf
  obtain ⟨f1, f2, f3, f4, rfl⟩ := len4 (show l.length = 4 by have := congrArg List.length hf; simpa using this)
  simp only [List.map_cons, List.map_nil, List.cons.injEq, Prod.mk.injEq, and_true] at hf
  obtain ⟨⟨h1, h2, h3⟩, ⟨h4, h5, h6⟩, ⟨h7, h8, h9⟩, h10, h11, h12⟩ := hf
  have q : ∀ (x y : Int), (Op.equalIn 9999 3 (.int .i64 x) (.int .i64 y)).run Tryd.prog w = .ok (x == y) w := fun x y => run_equalIn_int w 9998 _ _ _ _ _ Tryd.underlying3
  have qs : ∀ (x y : ByteArray), (Op.equalIn 9999 9 (.string x) (.string y)).run Tryd.prog w = .ok (decide (x = y)) w := fun x y => by rw [← toList_eq]; exact run_equalIn_string w 9998 _ _ _ Tryd.underlying9
  have hp : ∀ (x y : Int) (s : ByteArray) (z : Int), (part 3 #[.int .i64 x, .int .i64 y, .string s, .int .i64 z] 0).run Tryd.prog w = .ok (.int .i64 x) w ∧ (part 3 #[.int .i64 x, .int .i64 y, .string s, .int .i64 z] 1).run Tryd.prog w = .ok (.int .i64 y) w ∧ (part 9 #[.int .i64 x, .int .i64 y, .string s, .int .i64 z] 2).run Tryd.prog w = .ok (.string s) w ∧ (part 3 #[.int .i64 x, .int .i64 y, .string s, .int .i64 z] 3).run Tryd.prog w = .ok (.int .i64 z) w :=
    fun x y s z => ⟨by kernel_rfl, by kernel_rfl, by kernel_rfl, by kernel_rfl⟩
  simp only [Op.eqFields, h1, h2, h3, h4, h5, h6, h7, h8, h9, h10, h11, h12, Sem.run_bind, Sem.run_ite, (hp _ _ _ _).1, (hp _ _ _ _).2.1, (hp _ _ _ _).2.2.1, (hp _ _ _ _).2.2.2, q, qs, Result.andThen_ok]
  cases e1 : a == a' <;> cases e2 : b == b' <;> cases e3 : decide (c = c') <;> cases e4 : d == d' <;> simp_all
theorem eqFaGuard (x y : Operand) (xs ys : Array Value) (w : World) : (eqGuard .eql 35 x y (.agg xs) (.agg ys)).run Tryd.prog w = .ok () w := run_eqGuard_agg w _ _ _ _ _ _ faGuard
end Go.Proofs.YtlicmhgpldmliaaDoor
