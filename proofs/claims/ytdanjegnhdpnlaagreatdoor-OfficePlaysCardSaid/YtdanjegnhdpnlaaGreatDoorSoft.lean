/- A region that draws its order, by a soft book: of each operation what its value is, as far as it abides that memory grows; one more, the last, may stand behind all of them. No condition. -/
import Derived.Test.YtdanjegnhdpnlaaGreatDoorBookB
namespace Go.Proofs.YtdanjegnhdpnlaaGreatDoor.kit
open Go.RowKit
set_option linter.unusedVariables false

def Stab (r : Value → World → Prop) : Prop := ∀ v W W', r v W → Below W.heap.size W W' → r v W'
def Is (x : Value) : Value → World → Prop := fun v _ => v = x
theorem stab_is (x : Value) : Stab (Is x) := fun _ _ _ h _ => h
/-- A text of at most so many bytes. -/
def Txt (m : Nat) : Value → World → Prop := fun v _ => ∃ s : ByteArray, v = .string s ∧ s.size ≤ m
theorem stab_txt (m : Nat) : Stab (Txt m) := fun _ _ _ h _ => h
def AnyT : Value → World → Prop := fun v _ => ∃ s : ByteArray, v = .string s
theorem stab_anyt : Stab AnyT := fun _ _ _ h _ => h
/-- Any slice of so many. -/
def Sl (n : Nat) : Value → World → Prop := fun v _ => ∃ A c, v = .slice A n c
theorem stab_sl (n : Nat) : Stab (Sl n) := fun _ _ _ h _ => h
/-- A slice that reads as a list. -/
def SlOf (C : Nat) {α : Type} (en : α → List Value) (n : Nat) (xs : List α) : Value → World → Prop := fun v W => ∃ A c, v = .slice A n c ∧ SliceOf W C en A n xs
theorem stab_slof (C : Nat) {α : Type} (en : α → List Value) (n : Nat) (xs : List α) : Stab (SlOf C en n xs) := fun _ _ _ ⟨A, c, h1, h2⟩ hb => ⟨A, c, h1, h2.below hb⟩
def nthR : List (Value → World → Prop) → Nat → Value → World → Prop
  | [], _ => fun _ _ => True
  | r :: _, 0 => r
  | _ :: l, k + 1 => nthR l k
def stabs : List (Value → World → Prop) → Prop
  | [] => True
  | r :: l => Stab r ∧ stabs l
theorem stabs_at : ∀ {l : List (Value → World → Prop)}, stabs l → ∀ k, Stab (nthR l k)
  | [], _, _ => fun _ _ _ _ _ => trivial
  | _ :: _, h, 0 => h.1
  | _ :: _, h, k + 1 => stabs_at h.2 k

section
variable {P : Program} {all ops : List Oper} {a0 : Act} {R : List (Value → World → Prop)} {w0 : World} {Q : Exit → Act → World → Prop}
def softOp (P : Program) (all : List Oper) (a0 : Act) (R : List (Value → World → Prop)) (w0 : World) (Q : Exit → Act → World → Prop) (k : Nat) (o : Oper) : Prop :=
  ∀ (done : Nat → Bool) (vs : Nat → Value) (a : Act) (w : World), (o.after.all fun e => !Region.binds .any e || done e.on) = true → Below w0.heap.size w0 w → (∀ j, done j = true → nthR R j (vs j) w) →
    (∀ t, t < a0.tmps.size → a.eval (.tmp t) = evF vs done 0 all (a0.eval (.tmp t)) t) →
    o.wp P a w (fun a' w' => ∃ v, a' = a.put o.dst v ∧ Below w.heap.size w w' ∧ nthR R k v w') Q
def lastOp (P : Program) (all : List Oper) (a0 : Act) (R : List (Value → World → Prop)) (w0 : World) (Q : Exit → Act → World → Prop) (k : Nat) (o : Oper) : Prop :=
  ∀ (done : Nat → Bool) (vs : Nat → Value) (a : Act) (w : World), (∀ j, j < k → done j = true) → Below w0.heap.size w0 w → (∀ j, j < k → nthR R j (vs j) w) →
    (∀ t, t < a0.tmps.size → a.eval (.tmp t) = evF vs done 0 all (a0.eval (.tmp t)) t) →
    o.wp P a w (fun a' w' => ∃ v, a' = a.put o.dst v ∧ Q .normal (fillA (upVs vs k v) (fun _ => true) 0 all a0) w') Q
def softOps (P : Program) (all : List Oper) (a0 : Act) (R : List (Value → World → Prop)) (w0 : World) (Q : Exit → Act → World → Prop) : Nat → List Oper → Prop
  | _, [] => True
  | k, o :: l => softOp P all a0 R w0 Q k o ∧ softOps P all a0 R w0 Q (k + 1) l
def softTail (P : Program) (all : List Oper) (a0 : Act) (R : List (Value → World → Prop)) (w0 : World) (Q : Exit → Act → World → Prop) : Nat → List Oper → Prop
  | _, [] => True
  | k, [o] => lastOp P all a0 R w0 Q k o
  | k, o :: o' :: l => softOp P all a0 R w0 Q k o ∧ softTail P all a0 R w0 Q (k + 1) (o' :: l)
def SoftJ (R : List (Value → World → Prop)) (w0 : World) (done : Nat → Bool) (vs : Nat → Value) (W : World) : Prop := Below w0.heap.size w0 W ∧ ∀ j, done j = true → nthR R j (vs j) W
theorem SoftJ.up (hR : stabs R) {done : Nat → Bool} {vs : Nat → Value} {W W' : World} {k : Nat} {v : Value} (h : SoftJ R w0 done vs W) (hb : Below W.heap.size W W') (hv : nthR R k v W') : SoftJ R w0 (upDn done k) (upVs vs k v) W' := by
  refine ⟨h.1.trans (hb.mono h.1.size), fun j hj => ?_⟩
  unfold upDn at hj
  unfold upVs
  by_cases e : j = k
  · subst e; rw [if_pos rfl]; exact hv
  · rw [if_neg e] at hj ⊢
    exact stabs_at hR j _ _ _ (h.2 j hj) hb
theorem soft_ops (hR : stabs R) : ∀ {l : List Oper} {k : Nat}, softOps P all a0 R w0 Q k l → bookOps P all a0 (SoftJ R w0) Q k l
  | [], _, _ => trivial
  | o :: l, k, h => ⟨fun done vs a w hnd hdep hJ hE hsz => Oper.wp_mono (fun a' w' ⟨v, h1, h2, h3⟩ => ⟨v, h1, hJ.up hR h2 h3⟩) (h.1 done vs a w hdep hJ.1 hJ.2 hE), soft_ops hR h.2⟩
/-- The soft book. -/
theorem wp_region_soft {id : Nat} {a : Act} {w : World} (R : List (Value → World → Prop)) (hR : stabs R) (hm : P.follows .mixedOrders = true) (hB : bookB2 ops = true) (hs : softOps P ops a R w Q 0 ops)
    (hend : ∀ vs W, Below w.heap.size w W → (∀ j, j < ops.length → nthR R j (vs j) W) → Q .normal (fillA vs (fun _ => true) 0 ops a) W) : (Code.region id ops.toArray true).wp P Q a w :=
  wp_region_book2 (SoftJ R w) hm hB ⟨⟨rfl, rfl, rfl, Nat.le_refl _, fun _ _ => rfl⟩, fun j hj => by cases hj⟩ (soft_ops hR hs) (fun done vs W hall hJ => hend vs W hJ.1 fun j hj => hJ.2 j (hall j hj))
def Closed (ops : List Oper) (done : Nat → Bool) : Prop := ∀ (i : Nat) (o : Oper), ops[i]? = some o → done i = true → (o.after.all fun e => !Region.binds .any e || done e.on) = true
/-- Each but the last is waited for. -/
def coverB (ops : List Oper) : Bool := (List.range (ops.length - 1)).all fun k => ops.any fun o => o.after.any fun e => Region.binds .any e && decide (e.on = k)
theorem cover_all {done : Nat → Bool} (hB : bookB2 ops = true) (hc : coverB ops = true) (hcl : Closed ops done) (hn : done (ops.length - 1) = true) : ∀ m k, k + m = ops.length - 1 → done k = true := by
  intro m
  induction m using Nat.strongRecOn with
  | ind m ih =>
    intro k hk
    by_cases e : k = ops.length - 1
    · rw [e]; exact hn
    simp only [bookB2, Bool.and_eq_true, List.all_eq_true, List.mem_range] at hB
    simp only [coverB, List.all_eq_true, List.mem_range, List.any_eq_true] at hc
    obtain ⟨o, ho, hx⟩ := hc k (by omega)
    obtain ⟨i, hi, rfl⟩ := List.getElem_of_mem ho
    rw [Array.any_eq_true'] at hx
    obtain ⟨ed, he, hx⟩ := hx
    rw [Bool.and_eq_true, decide_eq_true_eq] at hx
    have h1 := hB.2 i hi
    rw [List.getElem?_eq_getElem hi] at h1
    simp only [Option.map_some, Option.getD_some, Array.all_eq_true_iff_forall_mem] at h1
    have h2 := h1 ed he
    rw [hx.1, Bool.not_true, Bool.false_or, decide_eq_true_eq, hx.2] at h2
    have h3 := ih (ops.length - 1 - i) (by omega) i (by omega)
    have h4 := hcl i _ (List.getElem?_eq_getElem hi) h3
    rw [Array.all_eq_true_iff_forall_mem] at h4
    have h5 := h4 ed he
    rw [hx.1, hx.2, Bool.not_true, Bool.false_or] at h5
    exact h5
def TailJ (ops : List Oper) (a0 : Act) (R : List (Value → World → Prop)) (w0 : World) (Q : Exit → Act → World → Prop) (done : Nat → Bool) (vs : Nat → Value) (W : World) : Prop :=
  (done (ops.length - 1) = true → Q .normal (fillA vs (fun _ => true) 0 ops a0) W) ∧ (done (ops.length - 1) = false → SoftJ R w0 done vs W) ∧ Closed ops done
theorem Closed.up {done : Nat → Bool} (h : Closed ops done) {k : Nat} {o : Oper} (ho : ops[k]? = some o) (hd : (o.after.all fun e => !Region.binds .any e || done e.on) = true) : Closed ops (upDn done k) := by
  intro i o' ho' hi
  have key : (o'.after.all fun e => !Region.binds .any e || done e.on) = true := by
    by_cases e : i = k
    · subst e
      rw [ho] at ho'
      injection ho' with ho'
      rw [← ho']; exact hd
    · unfold upDn at hi
      rw [if_neg e] at hi
      exact h i o' ho' hi
  rw [Array.all_eq_true_iff_forall_mem] at key ⊢
  intro e he
  have := key e he
  rw [Bool.or_eq_true] at this ⊢
  rcases this with h1 | h1
  · exact .inl h1
  · refine .inr ?_
    unfold upDn
    split
    · rfl
    · exact h1
theorem tail_ops (hR : stabs R) (hB : bookB2 ops = true) (hc : coverB ops = true) : ∀ {l : List Oper} {k : Nat}, k + l.length = ops.length → (∀ i, l[i]? = ops[k + i]?) → softTail P ops a0 R w0 Q k l → bookOps P ops a0 (TailJ ops a0 R w0 Q) Q k l
  | [], _, _, _, _ => trivial
  | [o], k, hk, hl, h => by
    simp only [List.length_cons, List.length_nil] at hk
    have hk1 : ops.length - 1 = k := by omega
    refine ⟨fun done vs a w hnd hdep hJ hE hsz => ?_, trivial⟩
    have ho : ops[k]? = some o := by have := hl 0; simpa using this.symm
    have hcl := hJ.2.2.up ho hdep
    have hall : ∀ j, j < k → done j = true := fun j hj => by
      have := cover_all hB hc hcl (by rw [hk1]; simp [upDn]) (ops.length - 1 - j) j (by omega)
      unfold upDn at this
      rwa [if_neg (by omega)] at this
    have hS := hJ.2.1 (by rw [hk1]; exact hnd)
    refine Oper.wp_mono (fun a' w' ⟨v, h1, h2⟩ => ⟨v, h1, fun _ => h2, fun hd => ?_, hcl⟩) (h done vs a w hall hS.1 (fun j hj => hS.2 j (hall j hj)) hE)
    rw [hk1] at hd
    simp [upDn] at hd
  | o :: o' :: l, k, hk, hl, h => by
    simp only [List.length_cons] at hk
    refine ⟨fun done vs a w hnd hdep hJ hE hsz => ?_, tail_ops hR hB hc (by simp only [List.length_cons]; omega) (fun i => by have := hl (i + 1); rw [List.getElem?_cons_succ] at this; rw [this]; congr 1; omega) h.2⟩
    have ho : ops[k]? = some o := by have := hl 0; simpa using this.symm
    have hf : done (ops.length - 1) = false := by
      cases hq : done (ops.length - 1)
      · rfl
      · have := cover_all hB hc hJ.2.2 hq (ops.length - 1 - k) k (by omega)
        rw [hnd] at this; cases this
    have hS := hJ.2.1 hf
    refine Oper.wp_mono (fun a' w' ⟨v, h1, h2, h3⟩ => ⟨v, h1, fun hd => ?_, fun _ => hS.up hR h2 h3, hJ.2.2.up ho hdep⟩) (h.1 done vs a w hdep hS.1 hS.2 hE)
    exfalso
    unfold upDn at hd
    rw [if_neg (by omega), hf] at hd
    cases hd
/-- The soft book with a last operation that stands behind all others. -/
theorem wp_region_soft_last {id : Nat} {a : Act} {w : World} (R : List (Value → World → Prop)) (hR : stabs R) (hm : P.follows .mixedOrders = true) (hB : bookB2 ops = true) (hc : coverB ops = true) (hne : 0 < ops.length) (hs : softTail P ops a R w Q 0 ops) : (Code.region id ops.toArray true).wp P Q a w :=
  wp_region_book2 (TailJ ops a R w Q) hm hB ⟨fun h => (by cases h), fun _ => ⟨⟨rfl, rfl, rfl, Nat.le_refl _, fun _ _ => rfl⟩, fun j hj => by cases hj⟩, fun i o ho h => (by cases h)⟩ (tail_ops hR hB hc (by omega) (fun i => by rw [Nat.zero_add]) hs)
    (fun done vs W hall hJ => hJ.1 (hall _ (by omega)))
/-! single operations -/
theorem soft_value {R : List (Value → World → Prop)} {o : Oper} {a : Act} {w : World} {k : Nat} (v : Value) (h : (execOp a.eval o).run P w = .ok (.value v) w) (hr : nthR R k v w) : o.wp P a w (fun a' w' => ∃ v, a' = a.put o.dst v ∧ Below w.heap.size w w' ∧ nthR R k v w') Q :=
  wp_value v h ⟨v, rfl, Below.refl _ _, hr⟩
theorem soft_call {R : List (Value → World → Prop)} {o : Oper} {a : Act} {w : World} {k : Nat} (f : FuncId) (xs : Array Operand) (ts : Array TypeId)
    (ho : o.op = .call { callee := .value (.func f), args := xs, argTypes := ts }) (he : ∀ args w, (callFunc f args).run P w = .ok (.enter f args) w) (args : Array Value) (hx : xs.map a.eval = args)
    (h : Calls P f args w fun e w' => ∃ v, e = .returned v ∧ Below w.heap.size w w' ∧ nthR R k v w') : o.wp P a w (fun a' w' => ∃ v, a' = a.put o.dst v ∧ Below w.heap.size w w' ∧ nthR R k v w') Q :=
  wp_call_fn f xs ts ho he args hx (h.mono fun e w' ⟨v, h1, h2, h3⟩ => ⟨v, h1, v, rfl, h2, h3⟩)
theorem soft_build {R : List (Value → World → Prop)} {o : Oper} {a : Act} {w : World} {k : Nat} (ty e : TypeId) (n : Nat) (parts : Array (Nat × Operand)) (ho : o.op = .buildSlice ty n parts) (vals : Array (Nat × Value)) (hv : (parts.map fun (i, x) => (i, a.eval x)) = vals) (cs : Array Value)
    (hz : (Instr.buildSlice ty n vals).run P w = .ok (.slice (some ⟨w.heap.size, 0, none⟩) n n) (w.alloc (.cells cs e)))
    (hr : nthR R k (.slice (some ⟨w.heap.size, 0, none⟩) n n) (w.alloc (.cells cs e))) : o.wp P a w (fun a' w' => ∃ v, a' = a.put o.dst v ∧ Below w.heap.size w w' ∧ nthR R k v w') Q := by
  unfold Oper.wp execOp
  simp only [ho]
  rw [hv]
  simp [hz, Result.andThen, Oper.upon]
  exact ⟨_, rfl, (Below.refl _ _).alloc (Nat.le_refl _) _, hr⟩
theorem wp_store_one {o : Oper} {a : Act} {w : World} {K : Act → World → Prop} (ty : TypeId) (x y : Operand) (ho : o.op = .store ty x y) (g k : Nat) (A : Option Addr) (n c : Nat) (old : Value) (hx : a.eval x = .pointer (some ⟨g, k, none⟩)) (hy : a.eval y = .slice A n c)
    (hc : w.cell? ⟨g, k, none⟩ = some old) (hf : w.frozen? ⟨g, k, none⟩ = false) (hi : (P.info? ty).map (·.size) = some 1)
    (h : K (a.put o.dst undef) (w.setCell ⟨g, k, none⟩ (.slice A n c))) : o.wp P a w K Q := by
  obtain ⟨j, hj, hjs⟩ := Option.map_eq_some_iff.1 hi
  have hs : ∀ u, (sizeOf ty).run P u = .ok 1 u := fun u => by simp [sizeOf, typeInfo, hj, hjs]
  unfold Oper.wp execOp
  simp only [ho, hx, hy]
  go_simp
  exact h
end
end Go.Proofs.YtdanjegnhdpnlaaGreatDoor.kit
