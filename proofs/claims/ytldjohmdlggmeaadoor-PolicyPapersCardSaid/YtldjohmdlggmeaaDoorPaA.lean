/- Two policies, the same or not: the program and the document. No condition. -/
import Derived.Test.YtldjohmdlggmeaaDoorAwk
import Derived.Test.YtldjohmdlggmeaaDoorNum
import Derived.Test.YtldjohmdlggmeaaDoorShelf
import Derived.Test.YtldjohmdlggmeaaDoorMore
namespace Go.Proofs.YtldjohmdlggmeaaDoor.kit
open Go.RowKit Go.PlainAid
set_option linter.unusedVariables false

def sameP (p q : Pol) : Bool := decide (p.ins = q.ins) && (decide (p.fr = q.fr) && (decide (p.dst = q.dst) && (decide (p.sum = q.sum) && (decide (p.own = q.own) && (decide (p.share = q.share) && (decide (p.first = q.first) && (decide (p.last = q.last) && decide (p.causes = q.causes))))))))
theorem sameP_iff {p q : Pol} : sameP p q = true ↔ p.ins = q.ins ∧ p.fr = q.fr ∧ p.dst = q.dst ∧ p.sum = q.sum ∧ p.own = q.own ∧ p.share = q.share ∧ p.first = q.first ∧ p.last = q.last ∧ p.causes = q.causes := by
  unfold sameP
  simp only [Bool.and_eq_true, decide_eq_true_eq]
theorem sameP_self (p : Pol) : sameP p p = true := sameP_iff.2 ⟨rfl, rfl, rfl, rfl, rfl, rfl, rfl, rfl, rfl⟩
theorem sameP_not {p q : Pol} (h : ¬ (p.ins = q.ins ∧ p.fr = q.fr ∧ p.dst = q.dst ∧ p.sum = q.sum ∧ p.own = q.own ∧ p.share = q.share ∧ p.first = q.first ∧ p.last = q.last ∧ p.causes = q.causes)) : sameP p q = false := by
  cases e : sameP p q
  · rfl
  · exact (h (sameP_iff.1 e)).elim
theorem equal_any (A : Option Addr) (n c : Nat) (xs : List Int) (B : Option Addr) (m d : Nat) (ys : List Int) (w : World) (h1 : SliceOf w 1 intC A n xs) (h2 : SliceOf w 1 intC B m ys) (hn : n ≤ maxLen) (hm : m ≤ maxLen) :
    Calls Tryd.prog 20 #[.slice A n c, .slice B m d] w fun e w' => e = .returned (.bool (decide (xs = ys))) ∧ Below w.heap.size w w' := by
  unfold maxLen at hn hm
  have l1 := h1.len
  have l2 := h2.len
  by_cases e : n = m
  rotate_left
  · have hne : xs ≠ ys := fun h => e (by rw [← l1, ← l2, h])
    rw [decide_eq_false hne]
    exact (Tryd.slices_Equal_int_lens A B n c m d w e).mono fun e w' h => ⟨h.1, by rw [h.2]; exact Below.refl _ _⟩
  subst e
  by_cases h0 : n = 0
  · subst h0
    have ex : xs = [] := List.eq_nil_of_length_eq_zero l1
    have ey : ys = [] := List.eq_nil_of_length_eq_zero l2
    rw [ex, ey]
    exact (Tryd.slices_Equal_int_empty A B c 0 d w (by omega)).mono fun e w' h => ⟨by rw [h.1]; rfl, by rw [h.2]; exact Below.refl _ _⟩
  · obtain ⟨b, off, rfl, hb, hc⟩ := h1.at_ (by omega)
    obtain ⟨b', off', rfl, hb', hc'⟩ := h2.at_ (by omega)
    refine (Tryd.slices_Equal_int b off n c b' off' n d xs ys w (by omega) (by omega) (by omega) (by omega) (fun j hj => ?_) (fun j hj => ?_)).mono fun e w' h => ⟨?_, ?_⟩
    · have h2 := hc j xs[j] (List.getElem?_eq_getElem hj) 0 (.int .i64 xs[j]) rfl
      rw [List.getD_eq_getElem?_getD, List.getElem?_eq_getElem hj]
      simpa using h2
    · have h2 := hc' j ys[j] (List.getElem?_eq_getElem hj) 0 (.int .i64 ys[j]) rfl
      rw [List.getD_eq_getElem?_getD, List.getElem?_eq_getElem hj]
      simpa using h2
    · rw [h.1, List.take_of_length_le (by omega), List.take_of_length_le (by omega)]
      exact ret_bool (by rw [Bool.eq_iff_iff, beq_iff_eq, decide_eq_true_eq])
    · obtain ⟨q, hq⟩ := h.2
      rw [hq]
      exact below_drewN (Below.refl _ _) q
theorem get_int {w : World} {A : Option Addr} {n : Nat} {xs : List Int} (h : SliceOf w 1 intC A n xs) {k : Nat} (hk : k < n) : ∃ b off x, A = some ⟨b, off, none⟩ ∧ xs[k]? = some x ∧ w.cell? ⟨b, off + k, none⟩ = some (.int .i64 x) := by
  have hl := h.len
  obtain ⟨x, hxk⟩ : ∃ x, xs[k]? = some x := ⟨_, List.getElem?_eq_getElem (by omega)⟩
  obtain ⟨b, off, rfl, hb, hc⟩ := h.at_ (by omega)
  exact ⟨b, off, x, rfl, hxk, by simpa using hc k _ hxk 0 _ rfl⟩
theorem takeI {xs : List Int} {k : Nat} {x : Int} (h : xs[k]? = some x) : xs.take (k + 1) = xs.take k ++ [x] := by rw [List.take_add_one, h]; rfl
end Go.Proofs.YtldjohmdlggmeaaDoor.kit
