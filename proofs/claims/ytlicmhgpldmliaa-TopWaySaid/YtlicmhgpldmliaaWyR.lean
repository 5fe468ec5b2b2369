/- A region that draws its order, in a round of a range over a function: one walk, at the wide fence. No condition. -/
import Derived.Test.YtlicmhgpldmliaaKit
import Derived.RangeFuncNested
import Derived.RangeFuncCalls
import Derived.OrdersIn
import Derived.Deep.Quiet
import Derived.Lib.QuietBelowIn
namespace Go.Proofs.Ytlicmhgpldmliaa.kit
open Go.RowKit
set_option linter.unusedVariables false
section
variable {P : Program} {ops : Array Oper} {C : World → Prop} {md : Region.Mode} {l0 n : Nat}
theorem opInR_of_quiet {o : Oper} {a : Act} {K : Act → Prop} {K' : Act → World → Prop} {Q' : Exit → Act → World → Prop} {w : World} (hnd : ∀ c, o.op ≠ .defer c) (hw : C w) (h : ∀ a w', C w' → K a → K' a w') (hh : o.quiet P a C K) : o.wpIn (Fence.wide.inRound l0) n P a w K' Q' := by
  obtain ⟨v, h1, h2⟩ := hh
  have h3 := h1 w hw
  unfold Oper.quietAt at h3
  unfold Oper.wpIn
  refine ⟨fun _ _ => trivial, ?_⟩
  rw [Oper.semAt_eq _ _ _ hnd]
  generalize (execOp a.eval o).run P w = r at *
  cases r with
  | ok n w' =>
    cases n <;> simp only [Oper.quietUpon] at h3 <;> simp only [Oper.uponIn]
    case value u =>
      obtain ⟨e1, e2⟩ := h3
      rw [e1, e2]
      exact h _ _ hw h2
    case skip =>
      obtain ⟨e1, e2⟩ := h3
      rw [e1, ← e2]
      exact h _ _ hw h2
    case enter f args =>
      obtain ⟨e1, hc⟩ := h3
      rw [e1]
      refine ⟨fun h => (by cases h), CallsIn.inRound l0 (callsIn_wide.2 (hc.mono fun e w'' ⟨he, hw''⟩ => ?_))⟩
      subst he
      exact h _ _ hw'' h2
  | halt x w' => simp only [Oper.quietUpon] at h3
theorem wpOpInR_of_qOp {i : Nat} {a : Act} {K : Act → Prop} {K' : Act → World → Prop} {Q' : Exit → Act → World → Prop} {w : World} (hnd : ∀ (i : Nat) (o : Oper), ops[i]? = some o → ∀ c, o.op ≠ .defer c) (hC : C w) (h : ∀ a w', C w' → K a → K' a w') (hh : qOp P ops C i K a) : wpOpIn (Fence.wide.inRound l0) n P ops Q' i K' a w := by
  unfold qOp at hh
  unfold wpOpIn
  split
  · rename_i ho; simp only [ho] at hh; exact h _ _ hC hh
  · rename_i o ho
    simp only [ho] at hh
    split
    · rename_i hw; simp only [hw, if_true] at hh; exact opInR_of_quiet (hnd _ _ ho) hC h hh
    · rename_i hw; simp only [hw] at hh; exact ⟨fun _ _ => trivial, h _ _ hC hh⟩
theorem wpAnyInR_of_quiet {Q : Act → Prop} {Q' : Exit → Act → World → Prop} (hnd : ∀ (i : Nat) (o : Oper), ops[i]? = some o → ∀ c, o.op ≠ .defer c) (hQ : ∀ a w, C w → Q a → Q' .normal a w) : ∀ (fuel : Nat) (listed : Array Bool) (a : Act) (w : World), C w →
    wpAnyQ P md ops C Q fuel listed a → wpAnyIn (Fence.wide.inRound l0) n P md ops Q' fuel listed a w
  | 0, _, _, _, hw, h => ⟨h.1, hQ _ _ hw h.2⟩
  | fuel + 1, _, _, _, hw, h => ⟨fun h0 => hQ _ _ hw (h.1 h0), fun i hi => wpOpInR_of_qOp hnd hw (fun a' w' hw' => wpAnyInR_of_quiet hnd hQ fuel _ a' w' hw') (h.2 i hi)⟩
def noDefer (o : Oper) : Bool := match o.op with
  | .defer _ => false
  | _ => true
theorem wpInR_region_quiet_below {id : Nat} {Q : Exit → Act → World → Prop} {a : Act} {w : World} {l : List Oper} (hm : P.follows .mixedOrders = true) (hB : Region.lexB .any l.toArray = true) (hnd : l.all noDefer = true)
    (h : wpQuiet P l.toArray (fun w' => ∃ x : BW w, w' = wof x) (fun a' => ∀ w', Below w.heap.size w w' → Q .normal a' w') l a) : (Code.region id l.toArray true).wpIn (Fence.wide.inRound l0) n P Q a w := by
  simp only [Region.lexB, Bool.and_eq_true] at hB
  have key : (fun a' => ∀ w', Below w.heap.size w w' → Q .normal a' w') = (fun a' => ∀ w', (∃ x : BW w, w' = wof x) → Q .normal a' w') := by
    funext a'
    exact propext ⟨fun h w' ⟨x, hx⟩ => h w' (by rw [hx]; exact x.below), fun h w' hb => h w' ⟨⟨w', hb⟩, rfl⟩⟩
  rw [key] at h
  refine wpIn_region_any hm (wpAnyInR_of_quiet (C := fun w' => ∃ x : BW w, w' = wof x) (Q := fun a' => ∀ w', (∃ x : BW w, w' = wof x) → Q .normal a' w') ?_ (fun _ w' hw' h => h w' hw') _ _ _ _ ⟨⟨{ w with drawn := w.drawn + 1 }, ⟨rfl, rfl, rfl, Nat.le_refl _, fun _ _ => rfl⟩⟩, rfl⟩ ?_)
  · intro i o ho c hc
    rw [List.getElem?_toArray] at ho
    have h1 := List.all_eq_true.1 hnd o (List.mem_of_getElem? ho)
    unfold noDefer at h1
    rw [hc] at h1
    cases h1
  have := wpAnyQ_lex (P := P) (C := fun w' => ∃ x : BW w, w' = wof x) (Q := fun a' => ∀ w', (∃ x : BW w, w' = wof x) → Q .normal a' w') (md := .any) hB.1 l 0 (Array.replicate l.toArray.size false) a (by simp) (by simpa using hB.2) h
  simpa using this
end
end Go.Proofs.Ytlicmhgpldmliaa.kit
