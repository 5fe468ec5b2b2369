/- The book's law once more: an operation may stand behind what binds no order. No condition. -/
import Derived.Test.YtdanjegnhdpnlaaGreatDoorBook
namespace Go.Proofs.YtdanjegnhdpnlaaGreatDoor.kit
open Go.RowKit
set_option linter.unusedVariables false

section
variable {vs : Nat → Value} {done : Nat → Bool}
/-- No guards, no slot twice, and whatever an operation waits for stands ahead of it (of what binds any order). -/
def bookB2 (l : List Oper) : Bool := distB l && (l.all fun o => o.guard.isNone) && ((List.range l.length).all fun i => ((l[i]?).map fun o => o.after.all fun e => !Region.binds .any e || decide (e.on < i)).getD true)
theorem wpAny_book2 {P : Program} {ops : List Oper} {a0 : Act} {J : (Nat → Bool) → (Nat → Value) → World → Prop} {Q : Exit → Act → World → Prop} (hB : bookB2 ops = true)
    (hs : bookOps P ops a0 J Q 0 ops) (hend : ∀ done vs w, (∀ i, i < ops.length → done i = true) → J done vs w → Q .normal (fillA vs (fun _ => true) 0 ops a0) w) :
    ∀ (fuel : Nat) (listed : Array Bool) (done : Nat → Bool) (vs : Nat → Value) (w : World), listed.size = ops.length → (∀ i, i < ops.length → listed.getD i true = done i) → listed.toList.count false ≤ fuel → J done vs w →
      wpAny P .any ops.toArray Q fuel listed (fillA vs done 0 ops a0) w := by
  simp only [bookB2, Bool.and_eq_true, List.all_eq_true, List.mem_range, Option.isNone_iff_eq_none] at hB
  obtain ⟨⟨hd, hg⟩, hb⟩ := hB
  have hready : ∀ (listed : Array Bool) (done : Nat → Bool), listed.size = ops.length → (∀ i, i < ops.length → listed.getD i true = done i) → Region.ready .any ops.toArray listed = [] → ∀ i, i < ops.length → done i = true := by
    intro listed done hsz hl hr i
    induction i using Nat.strongRecOn with
    | ind i ih =>
      intro hi
      cases hdi : done i
      · exfalso
        have hm : i ∈ Region.ready .any ops.toArray listed := by
          unfold Region.ready
          rw [List.mem_filter]
          refine ⟨by simpa using hi, ?_⟩
          rw [hl i hi, hdi]
          obtain ⟨o, ho⟩ : ∃ o, ops[i]? = some o := ⟨_, List.getElem?_eq_getElem hi⟩
          have h1 := hb i hi
          rw [ho] at h1
          simp only [Option.map_some, Option.getD_some, Array.all_eq_true_iff_forall_mem] at h1
          simp only [List.getElem?_toArray, ho, Option.map_some, Option.getD_some, Bool.not_false, Bool.true_and, Array.all_eq_true_iff_forall_mem]
          intro e he
          have h2' := h1 e he
          by_cases hbe : Region.binds .any e = true
          rotate_left
          · rw [Bool.not_eq_true] at hbe; rw [hbe]; rfl
          rw [hbe, Bool.not_true, Bool.false_or, decide_eq_true_eq] at h2'
          have h2 := h2'
          have h3 := ih e.on h2 (by omega)
          have h4 := hl e.on (by omega)
          have h5 : listed.getD e.on false = true := by
            rw [Array.getD_eq_getD_getElem?] at h4 ⊢
            rw [Array.getElem?_eq_getElem (by omega)] at h4 ⊢
            simpa [h3] using h4
          rw [h5]; simp
        rw [hr] at hm
        cases hm
      · rfl
  have hfin : ∀ (done : Nat → Bool) (vs : Nat → Value) (w : World), (∀ i, i < ops.length → done i = true) → J done vs w → Q .normal (fillA vs done 0 ops a0) w := by
    intro done vs w ha hJ
    have h1 := hend done vs w ha hJ
    rwa [fill_congr (vs' := vs) (done' := done) ops 0 a0 (fun j _ hj => ⟨(ha j (by omega)).symm, rfl⟩)] at h1
  intro fuel
  induction fuel with
  | zero =>
    intro listed done vs w hsz hl hc hJ
    have hall : ∀ i, i < ops.length → done i = true := by
      intro i hi
      have h0 : listed.toList.count false = 0 := by omega
      rw [List.count_eq_zero] at h0
      rw [← hl i hi, Array.getD_eq_getD_getElem?, Array.getElem?_eq_getElem (by omega)]
      simp only [Option.getD_some]
      cases h1 : listed[i]
      · exact (h0 (by rw [← h1]; simp)).elim
      · rfl
    refine ⟨?_, hfin done vs w hall hJ⟩
    unfold Region.ready
    rw [List.filter_eq_nil_iff]
    intro i hi
    have hi' : i < ops.length := by simpa using hi
    rw [hl i hi', hall i hi']
    simp
  | succ fuel ih =>
    intro listed done vs w hsz hl hc hJ
    refine ⟨fun hr => hfin done vs w (hready listed done hsz hl hr) hJ, fun i hi => ?_⟩
    unfold Region.ready at hi
    rw [List.mem_filter] at hi
    obtain ⟨hi1, hi2⟩ := hi
    have hil : i < ops.length := by simpa using hi1
    obtain ⟨o, ho⟩ : ∃ o, ops[i]? = some o := ⟨_, List.getElem?_eq_getElem hil⟩
    simp only [List.getElem?_toArray, ho, Option.map_some, Option.getD_some, Bool.and_eq_true, Bool.not_eq_true'] at hi2
    have hdi : done i = false := by rw [← hl i hil]; exact hi2.1
    have hgo : o.guard = none := hg o (List.mem_of_getElem? ho)
    have hbo := bookOps_at hs ho
    rw [Nat.zero_add] at hbo
    have hdeps : (o.after.all fun e => !Region.binds .any e || done e.on) = true := by
      rw [Array.all_eq_true_iff_forall_mem]
      intro e he
      have h1 := (Array.all_eq_true_iff_forall_mem.1 hi2.2) e he
      have h2 := hb i hil
      rw [ho] at h2
      simp only [Option.map_some, Option.getD_some, Array.all_eq_true_iff_forall_mem] at h2
      have h3' := h2 e he
      by_cases hbe : Region.binds .any e = true
      rotate_left
      · rw [Bool.not_eq_true] at hbe; rw [hbe]; rfl
      rw [hbe, Bool.not_true, Bool.false_or, decide_eq_true_eq] at h3'
      have h3 := h3'
      have h4 := hl e.on (by omega)
      have h5 : listed.getD e.on false = listed.getD e.on true := by
        rw [Array.getD_eq_getD_getElem?, Array.getD_eq_getD_getElem?, Array.getElem?_eq_getElem (by omega)]
        rfl
      rw [h5, h4] at h1
      exact h1
    have hw := hbo done vs (fillA vs done 0 ops a0) w hdi hdeps hJ (fun t ht => fill_eval t ops 0 a0 ht) (fill_size _ _ _)
    refine wpOp_step (o := o) (by simpa using ho) fun K' hK' => ?_
    have hwant : Region.wanted o (yielded ops.toArray (fillA vs done 0 ops a0).tmps) = true := by simp [Region.wanted, hgo]
    rw [if_pos hwant]
    refine Oper.wp_mono (fun a' w' h => ?_) hw
    obtain ⟨v, rfl, hJ'⟩ := h
    refine hK' _ _ ?_
    have hf := fill_put (vs := vs) (done := done) v ops 0 i o a0 ho hd (by rw [Nat.zero_add]; exact hdi)
    rw [Nat.zero_add] at hf
    rw [hf]
    refine ih _ _ _ _ (by simpa using hsz) (fun j hj => ?_) ?_ hJ'
    · unfold upDn
      rw [Array.getD_eq_getD_getElem?, Array.getElem?_setIfInBounds]
      by_cases e : i = j
      · subst e
        rw [if_pos rfl, if_pos rfl, if_pos (by omega)]; rfl
      · rw [if_neg e, if_neg (fun h => e h.symm), ← hl j hj, Array.getD_eq_getD_getElem?]
    · rw [Array.toList_setIfInBounds]
      have h1 : listed.toList[i]? = some false := by
        have := hl i hil
        rw [Array.getD_eq_getD_getElem?, Array.getElem?_eq_getElem (by omega), Option.getD_some, hdi] at this
        rw [Array.getElem?_toList, Array.getElem?_eq_getElem (by omega), this]
      have h2 := count_set i listed.toList h1
      omega
/-- The book's law. -/
theorem wp_region_book2 {P : Program} {id : Nat} {ops : List Oper} {a : Act} {w : World} {Q : Exit → Act → World → Prop} (J : (Nat → Bool) → (Nat → Value) → World → Prop) (hm : P.follows .mixedOrders = true) (hB : bookB2 ops = true) (hJ : J (fun _ => false) (fun _ => undef) w.drew)
    (hs : bookOps P ops a J Q 0 ops) (hend : ∀ done vs w, (∀ i, i < ops.length → done i = true) → J done vs w → Q .normal (fillA vs (fun _ => true) 0 ops a) w) : (Code.region id ops.toArray true).wp P Q a w := by
  refine wp_region_any hm ?_
  have h0 : fillA (fun _ => undef) (fun _ => false) 0 ops a = a := by
    have : ∀ (l : List Oper) (k : Nat) (a : Act), fillA (fun _ => undef) (fun _ => false) k l a = a := by
      intro l
      induction l with
      | nil => intro k a; rfl
      | cons o l ih => intro k a; rw [fillA, if_neg (by simp), ih]
    exact this ops 0 a
  have h1 := wpAny_book2 hB hs hend ops.toArray.size (Array.replicate ops.toArray.size false) (fun _ => false) (fun _ => undef) w.drew (by simp) (fun i hi => by simp [Array.getD_eq_getD_getElem?, hi]) (by simp) hJ
  rw [h0] at h1
  exact h1
end
end Go.Proofs.YtdanjegnhdpnlaaGreatDoor.kit
