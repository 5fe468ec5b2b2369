/- Slices cut in two; calls in a region that draws its order. No condition. -/
import Derived.Test.YtdanjegnhdpnlaaGreatDoorOwn
import Derived.Handy
namespace Go.Proofs.YtdanjegnhdpnlaaGreatDoor.kit
open Go.RowKit
set_option linter.unusedVariables false
section
variable {α : Type} {w w' : World} {C n : Nat} {en : α → List Value} {A : Option Addr} {xs : List α}
theorem SliceOf.take_ (h : SliceOf w C en A n xs) {k : Nat} (hk : k ≤ n) : SliceOf w C en A k (xs.take k) := by
  refine ⟨by rw [List.length_take, h.len]; omega, ?_⟩
  rcases h.cells with h0 | ⟨b, off, rfl, hb, hc⟩
  · exact .inl (by omega)
  · refine .inr ⟨b, off, rfl, hb, fun i x hx j v hv => ?_⟩
    have hi := (List.getElem?_eq_some_iff.1 hx).1
    rw [List.length_take] at hi
    exact hc i x (by rw [List.getElem?_take_of_lt (by omega)] at hx; exact hx) j v hv
theorem SliceOf.drop_ (h : SliceOf w C en A n xs) {k cap : Nat} (hk : k ≤ n) (hc : n ≤ cap) : SliceOf w C en (if cap = k then A else A.map (·.add (k * C))) (n - k) (xs.drop k) := by
  refine ⟨by rw [List.length_drop, h.len], ?_⟩
  rcases h.cells with h0 | ⟨b, off, rfl, hb, hcl⟩
  · exact .inl (by omega)
  · by_cases e : n = k
    · exact .inl (by omega)
    · rw [if_neg (by omega)]
      refine .inr ⟨b, off + k * C, by simp [addr_add], hb, fun i x hx j v hv => ?_⟩
      rw [List.getElem?_drop] at hx
      rw [← hcl _ x hx j v hv]
      congr 2
      rw [Nat.add_mul]; omega
theorem SliceOf.lt_ (h : SliceOf w C en A n xs) {i : Nat} {x : α} (hx : xs[i]? = some x) : i < n := by
  have := (List.getElem?_eq_some_iff.1 hx).1
  have := h.len
  omega
end
/-! ### 'append(append([]T{}, xs...), ys...)' -/
section
variable {e : TypeId} {C : Nat}
theorem own_empty {w : World} {g B : Nat} (h : Blk w g e #[]) (hB : B ≤ g) : w.ownsRow B e C (.slice (some ⟨g, 0, none⟩) 0 0) 0 [] :=
  ⟨by simp, .inr ⟨g, 0, #[], rfl, hB, h, Nat.le_refl _, Nat.zero_le _, by simp, by simp⟩⟩
theorem own_drew {w : World} {B : Nat} {size n : Nat} {v : Value} {ys : List Value} (h : w.ownsRow B e size v n ys) : w.drew.ownsRow B e size v n ys := h
theorem reads_drew {w : World} {B size n : Nat} {A : Option Addr} {xs : List Value} (h : Reads w B size A n xs) : Reads w.drew B size A n xs := h
theorem grown_emp {W X w9 : World} {g : Nat} (hbel : Below W.heap.size W X) (hg : X.drew.grownBy w9 (Value.slice (some ⟨g, 0, none⟩) 0 0).ownBlock) (hg' : W.heap.size ≤ g) : Below W.heap.size W w9 :=
  hbel.drew.grown hg hbel.size (fun k hk => by simp [Value.ownBlock] at hk; omega)
theorem grown_emp0 {W X w9 : World} {g : Nat} (hbel : Below W.heap.size W X) (hg : X.grownBy w9 (Value.slice (some ⟨g, 0, none⟩) 0 0).ownBlock) (hg' : W.heap.size ≤ g) : Below W.heap.size W w9 :=
  hbel.grown hg hbel.size (fun k hk => by simp [Value.ownBlock] at hk; omega)
theorem size_first (W : World) (o : Obj) : W.heap.size ≤ (W.alloc o).drew.heap.size := ((Below.refl W.heap.size W).alloc (Nat.le_refl _) o).size
theorem size_first0 (W : World) (o : Obj) : W.heap.size ≤ (W.alloc o).heap.size := ((Below.refl W.heap.size W).alloc (Nat.le_refl _) o).size
theorem size_second (W : World) (o o' : Obj) : W.heap.size ≤ ((W.alloc o).alloc o').drew.heap.size := ((((Below.refl W.heap.size W).alloc (Nat.le_refl _) o)).alloc (by simp) o').size
theorem one_alloc (W : World) (o : Obj) : Below W.heap.size W (W.alloc o) := (Below.refl _ _).alloc (Nat.le_refl _) _
theorem two_alloc (W : World) (o o' : Obj) : Below W.heap.size W ((W.alloc o).alloc o') := ((Below.refl _ _).alloc (Nat.le_refl _) _).alloc (by simp) _
theorem blk_emp {X w9 : World} {g k : Nat} {t : TypeId} {cs : Array Value} (h : Blk X k t cs) (hg : X.drew.grownBy w9 (Value.slice (some ⟨g, 0, none⟩) 0 0).ownBlock) (hne : k ≠ g) : Blk w9 k t cs :=
  Blk.grown (w := X.drew) h hg (by simp [Value.ownBlock]; omega)
theorem own_first (W : World) : (W.alloc (.cells #[] e)).drew.ownsRow W.heap.size e C (.slice (some ⟨W.heap.size, 0, none⟩) 0 0) 0 [] := own_drew (own_empty (Blk.new _ _ _) (Nat.le_refl _))
theorem own_first0 (W : World) : (W.alloc (.cells #[] e)).ownsRow W.heap.size e C (.slice (some ⟨W.heap.size, 0, none⟩) 0 0) 0 [] := own_empty (Blk.new _ _ _) (Nat.le_refl _)
theorem own_first' (W : World) (o : Obj) : ((W.alloc (.cells #[] e)).alloc o).drew.ownsRow W.heap.size e C (.slice (some ⟨W.heap.size, 0, none⟩) 0 0) 0 [] := own_drew (own_empty ((Blk.new _ _ _).alloc _) (Nat.le_refl _))
theorem own_second (W : World) (o : Obj) : ((W.alloc o).alloc (.cells #[] e)).drew.ownsRow W.heap.size e C (.slice (some ⟨W.heap.size + 1, 0, none⟩) 0 0) 0 [] := own_drew (own_empty (Blk.new_at _ _ _ _ (by simp)) (by omega))
theorem blk_second (W : World) (o : Obj) (t : TypeId) (cs : Array Value) : Blk ((W.alloc o).alloc (.cells cs t)) (W.heap.size + 1) t cs := Blk.new_at _ _ _ _ (by simp)
end
theorem flat_set {α : Type} {C : Nat} {en : α → List Value} (hC : ∀ x, (en x).length = C) : ∀ (xs : List α) (k j : Nat) (x x' : α) (v : Value), xs[k]? = some x → en x' = (en x).set j v → j < C → (xs.flatMap en).set (k * C + j) v = (xs.set k x').flatMap en
  | [], k, j, x, x', v, h, _, _ => by simp at h
  | y :: ys, 0, j, x, x', v, h, he, hj => by
    simp at h; subst h
    rw [List.set_cons_zero, List.flatMap_cons, List.flatMap_cons, he, Nat.zero_mul, Nat.zero_add, List.set_append_left _ _ (by rw [hC]; exact hj)]
  | y :: ys, k + 1, j, x, x', v, h, he, hj => by
    rw [List.set_cons_succ, List.flatMap_cons, List.flatMap_cons, ← flat_set hC ys k j x x' v (by simpa using h) he hj]
    rw [List.set_append_right _ _ (by rw [hC, Nat.succ_mul]; omega)]
    congr 2
    rw [hC, Nat.succ_mul]; omega
/-- A slice made since W that reads as xs. -/
def Made {α : Type} (W : World) (C : Nat) (en : α → List Value) (xs : List α) (n : Nat) (v : Value) (w' : World) : Prop := ∃ A c, v = .slice A n c ∧ SliceOf w' C en A n xs ∧ Below W.heap.size W w'
theorem made_of {α : Type} {W w' : World} {e : TypeId} {C n : Nat} {en : α → List Value} {xs : List α} {ys : List Value} {v : Value} (h : w'.ownsRow W.heap.size e C v n ys) (hC : ∀ x, (en x).length = C) (hys : ys = xs.flatMap en) (hn : xs.length = n) (hb : Below W.heap.size W w') : Made W C en xs n v w' := by
  obtain ⟨A, c, hv⟩ : ∃ A c, v = .slice A n c := by
    rcases h.2 with ⟨hv, h0⟩ | ⟨g, cap, cur, hv, _⟩
    · exact ⟨none, 0, by rw [hv, h0]⟩
    · exact ⟨_, _, hv⟩
  subst hv
  exact ⟨A, c, rfl, SliceOf.of_own_s h hC hys hn, hb⟩
end Go.Proofs.YtdanjegnhdpnlaaGreatDoor.kit
