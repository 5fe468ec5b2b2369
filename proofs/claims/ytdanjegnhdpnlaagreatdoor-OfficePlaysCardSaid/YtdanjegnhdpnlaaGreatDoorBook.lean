/- A region that draws its order, by a book of what has come up: one proof for each operation, whatever came ahead of it. No condition. -/
import Derived.Test.YtdanjegnhdpnlaaGreatDoorKit
import Derived.Laws.Rows
import Derived.Laws.Tables
import Derived.Orders
namespace Go.Proofs.YtdanjegnhdpnlaaGreatDoor.kit
open Go.RowKit
set_option linter.unusedVariables false

section
theorem put_size (a : Act) (d : Option Tmp) (v : Value) : (a.put d v).tmps.size = a.tmps.size := by cases d <;> simp [Act.put]
theorem put_defers (a : Act) (d : Option Tmp) (v : Value) : (a.put d v).defers = a.defers := by cases d <;> simp [Act.put]
theorem put_same (a : Act) (t : Tmp) (v : Value) (h : t < a.tmps.size) : (a.put (some t) v).eval (.tmp t) = v := by simp [Act.put, Act.eval, h]
theorem put_ne (a : Act) (d : Option Tmp) (v : Value) (t : Tmp) (h : d ≠ some t) : (a.put d v).eval (.tmp t) = a.eval (.tmp t) := by
  cases d with
  | none => rfl
  | some d =>
    have hd : d ≠ t := fun e => h (by rw [e])
    simp [Act.put, Act.eval, Array.getElem?_setIfInBounds_ne, hd]
theorem put_comm (a : Act) (d d' : Option Tmp) (v v' : Value) (h : d = none ∨ d ≠ d') : (a.put d v).put d' v' = (a.put d' v').put d v := by
  cases d with
  | none => rfl
  | some d =>
    cases d' with
    | none => rfl
    | some d' =>
      have hd : d ≠ d' := by
        rcases h with h | h
        · cases h
        · exact fun e => h (by rw [e])
      simp only [Act.put]
      rw [Array.setIfInBounds_comm _ _ hd]
/-- The slots behind those operations that have come up, with what they gave. -/
def fillA (vs : Nat → Value) (done : Nat → Bool) : Nat → List Oper → Act → Act
  | _, [], a => a
  | k, o :: l, a => fillA vs done (k + 1) l (if done k = true then a.put o.dst (vs k) else a)
/-- What a slot holds then. -/
def evF (vs : Nat → Value) (done : Nat → Bool) : Nat → List Oper → Value → Tmp → Value
  | _, [], old, _ => old
  | k, o :: l, old, t => evF vs done (k + 1) l (if done k = true ∧ o.dst = some t then vs k else old) t
def upDn (done : Nat → Bool) (i : Nat) : Nat → Bool := fun j => if j = i then true else done j
def upVs (vs : Nat → Value) (i : Nat) (v : Value) : Nat → Value := fun j => if j = i then v else vs j
def distB : List Oper → Bool
  | [] => true
  | o :: l => (o.dst.isNone || l.all fun o' => decide (o'.dst ≠ o.dst)) && distB l
variable {vs : Nat → Value} {done : Nat → Bool}
theorem fill_size : ∀ (l : List Oper) (k : Nat) (a : Act), (fillA vs done k l a).tmps.size = a.tmps.size
  | [], _, _ => rfl
  | o :: l, k, a => by
    rw [fillA, fill_size l]
    by_cases h : done k = true
    · rw [if_pos h, put_size]
    · rw [if_neg h]
theorem fill_defers : ∀ (l : List Oper) (k : Nat) (a : Act), (fillA vs done k l a).defers = a.defers
  | [], _, _ => rfl
  | o :: l, k, a => by
    rw [fillA, fill_defers l]
    by_cases h : done k = true
    · rw [if_pos h, put_defers]
    · rw [if_neg h]
theorem fill_eval (t : Tmp) : ∀ (l : List Oper) (k : Nat) (a : Act), t < a.tmps.size → (fillA vs done k l a).eval (.tmp t) = evF vs done k l (a.eval (.tmp t)) t
  | [], _, _, _ => rfl
  | o :: l, k, a, ht => by
    rw [fillA, evF]
    by_cases h : done k = true
    · rw [if_pos h, fill_eval t l _ _ (by rw [put_size]; exact ht)]
      by_cases e : o.dst = some t
      · rw [if_pos ⟨h, e⟩, e, put_same _ _ _ ht]
      · rw [if_neg (fun h' => e h'.2), put_ne _ _ _ _ e]
    · rw [if_neg h, fill_eval t l _ _ ht, if_neg (fun h' => h h'.1)]
theorem fill_congr {vs' : Nat → Value} {done' : Nat → Bool} : ∀ (l : List Oper) (k : Nat) (a : Act), (∀ j, k ≤ j → j < k + l.length → done j = done' j ∧ vs j = vs' j) → fillA vs done k l a = fillA vs' done' k l a
  | [], _, _, _ => rfl
  | o :: l, k, a, h => by
    have h0 := h k (Nat.le_refl _) (by simp)
    rw [fillA, fillA, h0.1, h0.2]
    exact fill_congr l (k + 1) _ fun j hj hj' => h j (by omega) (by simp only [List.length_cons]; omega)
theorem fill_comm (d : Option Tmp) (v : Value) : ∀ (l : List Oper) (k : Nat) (a : Act), (d = none ∨ ∀ o ∈ l, o.dst ≠ d) → (fillA vs done k l a).put d v = fillA vs done k l (a.put d v)
  | [], _, _, _ => rfl
  | o :: l, k, a, h => by
    have h' : d = none ∨ ∀ o ∈ l, o.dst ≠ d := h.imp id (fun h o ho => h o (List.mem_cons_of_mem _ ho))
    rw [fillA, fillA, fill_comm d v l _ _ h']
    by_cases hk : done k = true
    · rw [if_pos hk, if_pos hk, put_comm _ o.dst d]
      rcases h with h | h
      · rw [h]
        cases o.dst with
        | none => exact .inl rfl
        | some t => exact .inr (by simp)
      · exact .inr (h o (List.mem_cons_self ..))
    · rw [if_neg hk, if_neg hk]
theorem fill_put (v : Value) : ∀ (l : List Oper) (k i : Nat) (o : Oper) (a : Act), l[i]? = some o → distB l = true → done (k + i) = false → (fillA vs done k l a).put o.dst v = fillA (upVs vs (k + i) v) (upDn done (k + i)) k l a
  | [], _, _, _, _, h, _, _ => by simp at h
  | o' :: l, k, 0, o, a, h, hd, hn => by
    simp only [List.getElem?_cons_zero, Option.some.injEq] at h
    subst h
    simp only [distB, Bool.and_eq_true, Bool.or_eq_true, Option.isNone_iff_eq_none, List.all_eq_true, decide_eq_true_eq] at hd
    rw [Nat.add_zero] at hn
    simp only [Nat.add_zero]
    rw [fillA, fillA, if_neg (by rw [hn]; simp), fill_comm _ _ _ _ _ hd.1]
    have e1 : upDn done k k = true := by simp [upDn]
    have e2 : upVs vs k v k = v := by simp [upVs]
    rw [if_pos e1, e2]
    exact fill_congr l (k + 1) _ fun j hj _ => ⟨by simp [upDn]; omega, by simp [upVs]; omega⟩
  | o' :: l, k, i + 1, o, a, h, hd, hn => by
    simp only [distB, Bool.and_eq_true] at hd
    have e : k + (i + 1) = k + 1 + i := by omega
    rw [fillA, fill_put v l (k + 1) i o _ (by simpa using h) hd.2 (by rw [← e]; exact hn), ← e, fillA]
    have e1 : upDn done (k + (i + 1)) k = done k := by simp [upDn]
    have e2 : upVs vs (k + (i + 1)) v k = vs k := by simp [upVs]
    rw [e1, e2]
/-- What may be asked of operation k: whatever came up ahead of it, it keeps the book. -/
def bookOp (P : Program) (all : List Oper) (a0 : Act) (J : (Nat → Bool) → (Nat → Value) → World → Prop) (Q : Exit → Act → World → Prop) (k : Nat) (o : Oper) : Prop :=
  ∀ (done : Nat → Bool) (vs : Nat → Value) (a : Act) (w : World), done k = false → (o.after.all fun e => !Region.binds .any e || done e.on) = true → J done vs w →
    (∀ t, t < a0.tmps.size → a.eval (.tmp t) = evF vs done 0 all (a0.eval (.tmp t)) t) → a.tmps.size = a0.tmps.size →
    o.wp P a w (fun a' w' => ∃ v, a' = a.put o.dst v ∧ J (upDn done k) (upVs vs k v) w') Q
def bookOps (P : Program) (all : List Oper) (a0 : Act) (J : (Nat → Bool) → (Nat → Value) → World → Prop) (Q : Exit → Act → World → Prop) : Nat → List Oper → Prop
  | _, [] => True
  | k, o :: l => bookOp P all a0 J Q k o ∧ bookOps P all a0 J Q (k + 1) l
theorem bookOps_at {P : Program} {all : List Oper} {a0 : Act} {J : (Nat → Bool) → (Nat → Value) → World → Prop} {Q : Exit → Act → World → Prop} : ∀ {l : List Oper} {k i : Nat} {o : Oper}, bookOps P all a0 J Q k l → l[i]? = some o → bookOp P all a0 J Q (k + i) o
  | [], _, _, _, _, h => by simp at h
  | o' :: l, k, 0, o, hb, h => by
    simp only [List.getElem?_cons_zero, Option.some.injEq] at h
    subst h
    exact hb.1
  | o' :: l, k, i + 1, o, hb, h => by
    have := bookOps_at hb.2 (i := i) (o := o) (by simpa using h)
    rwa [show k + (i + 1) = k + 1 + i by omega]
/-- No guards, no slot twice, and whatever an operation waits for stands ahead of it. -/
def bookB (l : List Oper) : Bool := distB l && (l.all fun o => o.guard.isNone) && ((List.range l.length).all fun i => ((l[i]?).map fun o => o.after.all fun e => decide (e.on < i)).getD true)
theorem count_set : ∀ (i : Nat) (l : List Bool), l[i]? = some false → (l.set i true).count false + 1 = l.count false
  | _, [], h => by simp at h
  | 0, b :: l, h => by
    simp only [List.getElem?_cons_zero, Option.some.injEq] at h
    subst h
    simp
  | i + 1, b :: l, h => by
    have := count_set i l (by simpa using h)
    cases b <;> simp <;> omega
theorem wpAny_book {P : Program} {ops : List Oper} {a0 : Act} {J : (Nat → Bool) → (Nat → Value) → World → Prop} {Q : Exit → Act → World → Prop} (hB : bookB ops = true)
    (hs : bookOps P ops a0 J Q 0 ops) (hend : ∀ done vs w, (∀ i, i < ops.length → done i = true) → J done vs w → Q .normal (fillA vs (fun _ => true) 0 ops a0) w) :
    ∀ (fuel : Nat) (listed : Array Bool) (done : Nat → Bool) (vs : Nat → Value) (w : World), listed.size = ops.length → (∀ i, i < ops.length → listed.getD i true = done i) → listed.toList.count false ≤ fuel → J done vs w →
      wpAny P .any ops.toArray Q fuel listed (fillA vs done 0 ops a0) w := by
  simp only [bookB, Bool.and_eq_true, List.all_eq_true, List.mem_range, Option.isNone_iff_eq_none] at hB
  obtain ⟨⟨hd, hg⟩, hb⟩ := hB
  have hready : ∀ (listed : Array Bool) (done : Nat → Bool), listed.size = ops.length → (∀ i, i < ops.length → listed.getD i true = done i) → Region.ready .any ops.toArray listed = [] → ∀ i, i < ops.length → done i = true := by
    intro listed done hsz hl hr i
    induction i using Nat.strongRecOn with
    | ind i ih =>
      intro hi
      cases hdi : done i
      · exfalso
        have hm : i ∈ Region.ready .any ops.toArray listed := by
          unfold Region.ready
          rw [List.mem_filter]
          refine ⟨by simpa using hi, ?_⟩
          rw [hl i hi, hdi]
          obtain ⟨o, ho⟩ : ∃ o, ops[i]? = some o := ⟨_, List.getElem?_eq_getElem hi⟩
          have h1 := hb i hi
          rw [ho] at h1
          simp only [Option.map_some, Option.getD_some, Array.all_eq_true_iff_forall_mem, decide_eq_true_eq] at h1
          simp only [List.getElem?_toArray, ho, Option.map_some, Option.getD_some, Bool.not_false, Bool.true_and, Array.all_eq_true_iff_forall_mem]
          intro e he
          have h2 := h1 e he
          have h3 := ih e.on h2 (by omega)
          have h4 := hl e.on (by omega)
          have h5 : listed.getD e.on false = true := by
            rw [Array.getD_eq_getD_getElem?] at h4 ⊢
            rw [Array.getElem?_eq_getElem (by omega)] at h4 ⊢
            simpa [h3] using h4
          rw [h5]; simp
        rw [hr] at hm
        cases hm
      · rfl
  have hfin : ∀ (done : Nat → Bool) (vs : Nat → Value) (w : World), (∀ i, i < ops.length → done i = true) → J done vs w → Q .normal (fillA vs done 0 ops a0) w := by
    intro done vs w ha hJ
    have h1 := hend done vs w ha hJ
    rwa [fill_congr (vs' := vs) (done' := done) ops 0 a0 (fun j _ hj => ⟨(ha j (by omega)).symm, rfl⟩)] at h1
  intro fuel
  induction fuel with
  | zero =>
    intro listed done vs w hsz hl hc hJ
    have hall : ∀ i, i < ops.length → done i = true := by
      intro i hi
      have h0 : listed.toList.count false = 0 := by omega
      rw [List.count_eq_zero] at h0
      rw [← hl i hi, Array.getD_eq_getD_getElem?, Array.getElem?_eq_getElem (by omega)]
      simp only [Option.getD_some]
      cases h1 : listed[i]
      · exact (h0 (by rw [← h1]; simp)).elim
      · rfl
    refine ⟨?_, hfin done vs w hall hJ⟩
    unfold Region.ready
    rw [List.filter_eq_nil_iff]
    intro i hi
    have hi' : i < ops.length := by simpa using hi
    rw [hl i hi', hall i hi']
    simp
  | succ fuel ih =>
    intro listed done vs w hsz hl hc hJ
    refine ⟨fun hr => hfin done vs w (hready listed done hsz hl hr) hJ, fun i hi => ?_⟩
    unfold Region.ready at hi
    rw [List.mem_filter] at hi
    obtain ⟨hi1, hi2⟩ := hi
    have hil : i < ops.length := by simpa using hi1
    obtain ⟨o, ho⟩ : ∃ o, ops[i]? = some o := ⟨_, List.getElem?_eq_getElem hil⟩
    simp only [List.getElem?_toArray, ho, Option.map_some, Option.getD_some, Bool.and_eq_true, Bool.not_eq_true'] at hi2
    have hdi : done i = false := by rw [← hl i hil]; exact hi2.1
    have hgo : o.guard = none := hg o (List.mem_of_getElem? ho)
    have hbo := bookOps_at hs ho
    rw [Nat.zero_add] at hbo
    have hdeps : (o.after.all fun e => !Region.binds .any e || done e.on) = true := by
      rw [Array.all_eq_true_iff_forall_mem]
      intro e he
      have h1 := (Array.all_eq_true_iff_forall_mem.1 hi2.2) e he
      have h2 := hb i hil
      rw [ho] at h2
      simp only [Option.map_some, Option.getD_some, Array.all_eq_true_iff_forall_mem, decide_eq_true_eq] at h2
      have h3 := h2 e he
      have h4 := hl e.on (by omega)
      have h5 : listed.getD e.on false = listed.getD e.on true := by
        rw [Array.getD_eq_getD_getElem?, Array.getD_eq_getD_getElem?, Array.getElem?_eq_getElem (by omega)]
        rfl
      rw [h5, h4] at h1
      exact h1
    have hw := hbo done vs (fillA vs done 0 ops a0) w hdi hdeps hJ (fun t ht => fill_eval t ops 0 a0 ht) (fill_size _ _ _)
    refine wpOp_step (o := o) (by simpa using ho) fun K' hK' => ?_
    have hwant : Region.wanted o (yielded ops.toArray (fillA vs done 0 ops a0).tmps) = true := by simp [Region.wanted, hgo]
    rw [if_pos hwant]
    refine Oper.wp_mono (fun a' w' h => ?_) hw
    obtain ⟨v, rfl, hJ'⟩ := h
    refine hK' _ _ ?_
    have hf := fill_put (vs := vs) (done := done) v ops 0 i o a0 ho hd (by rw [Nat.zero_add]; exact hdi)
    rw [Nat.zero_add] at hf
    rw [hf]
    refine ih _ _ _ _ (by simpa using hsz) (fun j hj => ?_) ?_ hJ'
    · unfold upDn
      rw [Array.getD_eq_getD_getElem?, Array.getElem?_setIfInBounds]
      by_cases e : i = j
      · subst e
        rw [if_pos rfl, if_pos rfl, if_pos (by omega)]; rfl
      · rw [if_neg e, if_neg (fun h => e h.symm), ← hl j hj, Array.getD_eq_getD_getElem?]
    · rw [Array.toList_setIfInBounds]
      have h1 : listed.toList[i]? = some false := by
        have := hl i hil
        rw [Array.getD_eq_getD_getElem?, Array.getElem?_eq_getElem (by omega), Option.getD_some, hdi] at this
        rw [Array.getElem?_toList, Array.getElem?_eq_getElem (by omega), this]
      have h2 := count_set i listed.toList h1
      omega
/-- The book's law. -/
theorem wp_region_book {P : Program} {id : Nat} {ops : List Oper} {a : Act} {w : World} {Q : Exit → Act → World → Prop} (J : (Nat → Bool) → (Nat → Value) → World → Prop) (hm : P.follows .mixedOrders = true) (hB : bookB ops = true) (hJ : J (fun _ => false) (fun _ => undef) w.drew)
    (hs : bookOps P ops a J Q 0 ops) (hend : ∀ done vs w, (∀ i, i < ops.length → done i = true) → J done vs w → Q .normal (fillA vs (fun _ => true) 0 ops a) w) : (Code.region id ops.toArray true).wp P Q a w := by
  refine wp_region_any hm ?_
  have h0 : fillA (fun _ => undef) (fun _ => false) 0 ops a = a := by
    have : ∀ (l : List Oper) (k : Nat) (a : Act), fillA (fun _ => undef) (fun _ => false) k l a = a := by
      intro l
      induction l with
      | nil => intro k a; rfl
      | cons o l ih => intro k a; rw [fillA, if_neg (by simp), ih]
    exact this ops 0 a
  have h1 := wpAny_book hB hs hend ops.toArray.size (Array.replicate ops.toArray.size false) (fun _ => false) (fun _ => undef) w.drew (by simp) (fun i hi => by simp [Array.getD_eq_getD_getElem?, hi]) (by simp) hJ
  rw [h0] at h1
  exact h1
/-! values that are fixed; what stands behind what -/
def Cst (l : List (Nat × Value)) (done : Nat → Bool) (vs : Nat → Value) : Prop := ∀ p ∈ l, done p.1 = true → vs p.1 = p.2
def Chain (l : List (Nat × Nat)) (done : Nat → Bool) : Prop := ∀ p ∈ l, done p.1 = true → done p.2 = true
theorem Cst.none_ (l : List (Nat × Value)) (vs : Nat → Value) : Cst l (fun _ => false) vs := fun _ _ h => by cases h
theorem Chain.none_ (l : List (Nat × Nat)) : Chain l (fun _ => false) := fun _ _ h => by cases h
theorem Cst.up {l : List (Nat × Value)} (h : Cst l done vs) (k : Nat) (v : Value) (hk : ∀ p ∈ l, p.1 = k → p.2 = v) : Cst l (upDn done k) (upVs vs k v) := by
  intro p hp hd
  unfold upDn at hd
  unfold upVs
  by_cases e : p.1 = k
  · rw [if_pos e, hk p hp e]
  · rw [if_neg e] at hd ⊢
    exact h p hp hd
theorem Chain.up {l : List (Nat × Nat)} (h : Chain l done) (k : Nat) (hk : ∀ p ∈ l, p.1 = k → done p.2 = true) : Chain l (upDn done k) := by
  intro p hp hd
  unfold upDn at hd ⊢
  by_cases e2 : p.2 = k
  · rw [if_pos e2]
  · rw [if_neg e2]
    by_cases e : p.1 = k
    · exact hk p hp e
    · rw [if_neg e] at hd
      exact h p hp hd
/-! single operations over a frame that is a letter -/
theorem wp_value {P : Program} {o : Oper} {a : Act} {w : World} {K : Act → World → Prop} {Q : Exit → Act → World → Prop} (v : Value) (h : (execOp a.eval o).run P w = .ok (.value v) w) (hk : K (a.put o.dst v) w) : o.wp P a w K Q := by
  unfold Oper.wp
  rw [h]
  exact hk
theorem enters_fn {P : Program} {f : FuncId} {fn : Func} {c : Code} (hf : P.funcs[f]? = some fn) (hname : (fn.name == "runtime.NumGoroutine") = false) (hb : fn.body = some c) (args : Array Value) (w : World) : (callFunc f args).run P w = .ok (.enter f args) w := by
  have h1 : fn.name ≠ "runtime.NumGoroutine" := by simpa using hname
  simp [callFunc, hf, h1, hb, mark]
theorem wp_call_fn {P : Program} {o : Oper} {a : Act} {w : World} {K : Act → World → Prop} {Q : Exit → Act → World → Prop} (f : FuncId) (xs : Array Operand) (ts : Array TypeId)
    (ho : o.op = .call { callee := .value (.func f), args := xs, argTypes := ts }) (he : ∀ args w, (callFunc f args).run P w = .ok (.enter f args) w) (args : Array Value) (hx : xs.map a.eval = args)
    (h : Calls P f args w fun e w' => ∃ v, e = .returned v ∧ K (a.put o.dst v) w') : o.wp P a w K Q := by
  unfold Oper.wp execOp
  simp only [ho]
  simp [resolve, invoke, Act.eval, Deferred.ofValue, he]
  have hx' : Array.map a.eval xs = args := hx
  show Oper.upon P o a K Q (.ok (.enter f (Array.map a.eval xs)) w)
  rw [hx', Oper.upon_enter]
  refine h.mono ?_
  rintro e w' ⟨v, rfl, hk⟩
  exact hk
theorem wp_alloc_z {P : Program} {o : Oper} {a : Act} {w : World} {K : Act → World → Prop} {Q : Exit → Act → World → Prop} (ty : TypeId) (ho : o.op = .alloc ty) (cs : Array Value)
    (hz : (Instr.alloc ty true (.tuple #[])).run P w = .ok (.pointer (some ⟨w.heap.size, 0, none⟩)) (w.alloc (.cells cs ty)))
    (h : K (a.put o.dst (.pointer (some ⟨w.heap.size, 0, none⟩))) (w.alloc (.cells cs ty))) : o.wp P a w K Q := by
  unfold Oper.wp execOp
  simp only [ho]
  simp [hz, Result.andThen, Oper.upon]
  exact h
end
end Go.Proofs.YtdanjegnhdpnlaaGreatDoor.kit
