/- Openers that carry how great an argument's parts may be. No condition. -/
import Derived.Test.YtdanjegnhdpnlaaDoorKit
import Derived.SizedLaws
namespace Go.Proofs.YtdanjegnhdpnlaaDoor.kit
open Go.RowKit Go.ChangeShapes Go.WideShapes Go.ChangeAt
set_option linter.unusedVariables false
section
variable {H : Type} {enc : TypeId × Value → H} {P : Program}
/-- No part of this datum is greater than can be reached. -/
def Small (P : Program) (t : TypeId) (d : DataW H) : Prop := ∀ k ∈ d.weights P t, k ≤ reachBytes
theorem weightsAll_mem {e : TypeId} : ∀ {l : List (DataW H)} {d : DataW H}, d ∈ l → ∀ n ∈ d.weights P e, n ∈ DataW.weightsAll P e l
  | a :: l, d, hd, n, hn => by
    simp only [DataW.weightsAll, List.mem_append]
    rcases List.mem_cons.1 hd with rfl | hd
    · exact .inl hn
    · exact .inr (weightsAll_mem hd n hn)
theorem trod_leavesS {w : World} {base : Nat} {spare : Nat → Bool} {held : Bool} : ∀ (n : Nat) {m : Nat} {t : TypeId} {cs : List Value} {x : DataW H × List MemPlace},
    DataW.trod enc P w base spare held m t cs = some x → Small P t x.1 → ∀ p ∈ leavesAt P n t, ∃ m' y, DataW.trod enc P w base spare held m' p.2 ((cs.drop p.1).take 1) = some y ∧ Small P p.2 y.1
  | 0, _, _, _, _, _, _, p, hp => by simp [leavesAt] at hp
  | n + 1, m, t, cs, x, h, hs0, p, hp => by
    unfold leavesAt at hp
    split at hp
    · rename_i fs hu
      obtain ⟨xs, m', _, hx0, _, hlen, hf⟩ := DataW.trod_struct hu h
      rw [hx0] at hs0
      obtain ⟨f, hfm, hp⟩ := List.mem_flatMap.1 hp
      obtain ⟨q, hq, rfl⟩ := List.mem_map.1 hp
      obtain ⟨hq, hle⟩ := List.mem_filter.1 hq
      obtain ⟨i, hi, rfl⟩ := List.getElem_of_mem hfm
      have hi' : i < fs.size := by simpa using hi
      have h1 := hf i fs[i] (by simp [hi'])
      have h2 : xs[i]? = some xs[i] := List.getElem?_eq_getElem (by omega)
      rw [h2] at h1
      obtain ⟨m'', y, hy, hys⟩ := trod_leavesS n h1 (fun k hk => hs0 k (by simp only [DataW.weights, hu]; exact DataW.weights_mem_each (j := i) (by simp [hi']) (by simp [h2]) k hk)) q (by simpa using hq)
      refine ⟨m'', y, ?_, hys⟩
      rw [take_one (by simpa using hle)] at hy
      simpa using hy
    · rename_i k e hu
      obtain ⟨xs, m', _, hx0, _, hlen, hf⟩ := DataW.trod_array hu h
      rw [hx0] at hs0
      obtain ⟨i, hfm, hp⟩ := List.mem_flatMap.1 hp
      obtain ⟨q, hq, rfl⟩ := List.mem_map.1 hp
      obtain ⟨hq, hle⟩ := List.mem_filter.1 hq
      have hi : i < k := by simpa using hfm
      have h1 := hf i hi
      have h2 : xs[i]? = some xs[i] := List.getElem?_eq_getElem (by omega)
      rw [h2] at h1
      obtain ⟨m'', y, hy, hys⟩ := trod_leavesS n h1 (fun k hk => hs0 k (by simp only [DataW.weights, hu]; exact weightsAll_mem (List.mem_map.2 ⟨_, List.getElem_mem (by omega), rfl⟩) k hk)) q hq
      refine ⟨m'', y, ?_, hys⟩
      rw [take_one (by simpa using hle)] at hy
      simpa using hy
    · rename_i hs ha
      simp only [List.mem_singleton] at hp
      subst hp
      have hl := trod_one h (fun fs e => hs fs e) (fun n e e' => ha n e e')
      refine ⟨m, x, ?_, hs0⟩
      simp only [List.drop_zero]
      rw [List.take_of_length_le (by omega)]
      exact h

section
variable {w : World} {base : Nat} {spare : Nat → Bool} {held : Bool} {n m : Nat} {t : TypeId} {cs : List Value} {x : DataW H × List MemPlace}
theorem open_sliceS {α : Type} {e : TypeId} {C : Nat} (en : α → List Value) (Wf : α → Prop) (ht : P.underlying t = some (.slice e)) (hC : P.cellsOf e = C) (hC0 : 0 < C)
    (hel : ∀ (m : Nat) (cs : List Value) (x : DataW H × List MemPlace), DataW.trod enc P w base spare held m e cs = some x → Small P e x.1 → ∃ a, cs = en a ∧ Wf a)
    (h : DataW.trod enc P w base spare held m t cs = some x) (hs : Small P t x.1) :
    ∃ A l c xs, cs = [.slice A l c] ∧ l ≤ c ∧ c ≤ maxLen ∧ SliceOf w C en A l xs ∧ (∀ y ∈ xs, Wf y) ∧ l * P.bytesOf e ≤ reachBytes := by
  rcases Deep.open_slice ht h with ⟨rfl, _⟩ | ⟨a, len, cap, M, n, D, Pl, rfl, hb, hl, hm, hM, hx0, hi⟩
  · exact ⟨none, 0, 0, [], rfl, Nat.le_refl _, Nat.zero_le _, ⟨rfl, .inl rfl⟩, by simp, by simp⟩
  · have hsz : len * P.bytesOf e ≤ reachBytes := by
      rw [hx0] at hs
      have := hs ((len + (M - len)) * P.bytesOf e) (by simp [DataW.weights, ht])
      exact Nat.le_trans (Nat.mul_le_mul_right _ (by omega)) this
    have hse : ∀ i, i < len → Small P e (D i) := by
      intro i hi k hk
      rw [hx0] at hs
      refine hs k ?_
      simp only [DataW.weights, ht, List.mem_cons, List.mem_append]
      exact .inr (.inl (weightsAll_mem (List.mem_map.2 ⟨i, by simpa using hi, rfl⟩) k hk))
    have hlM : len ≤ M := by rw [hM]; split <;> omega
    have key : ∀ i, i < len → ∃ y : α, w.cells? base (a.add (i * C)) C = some (en y) ∧ Wf y := by
      intro i hil
      obtain ⟨cs', hc, ht'⟩ := hi i (by omega)
      rw [hC] at hc
      obtain ⟨y, rfl, hy⟩ := hel _ _ _ ht' (hse i hil)
      exact ⟨y, hc, hy⟩
    rcases Nat.eq_zero_or_pos len with rfl | hpos
    · exact ⟨some a, 0, cap, [], rfl, hl, hm, ⟨rfl, .inl rfl⟩, by simp, hsz⟩
    · obtain ⟨y0, hy0, _⟩ := key 0 hpos
      have : Inhabited α := ⟨y0⟩
      obtain ⟨f, hf⟩ := Deep.choose_lt key
      obtain ⟨b, off, spot⟩ := a
      have hspot : spot = none := by
        obtain ⟨_, hlen, hat⟩ := World.cells?_some hy0
        have h0 := hat 0 hC0
        rw [List.getElem?_eq_getElem (by omega)] at h0
        have := World.cell?_spot h0
        simpa [Addr.add] using this
      subst hspot
      refine ⟨some ⟨b, off, none⟩, len, cap, (List.range len).map f, rfl, hl, hm, ⟨by simp, .inr ⟨b, off, rfl, ?_, ?_⟩⟩, ?_, hsz⟩
      · obtain ⟨_, hlen, hat⟩ := World.cells?_some hy0
        have h0 := hat 0 hC0
        rw [List.getElem?_eq_getElem (by omega)] at h0
        simpa [Addr.add] using World.block_lt_of_cell? w _ h0
      · intro i x hx j v hv
        have hil : i < len := by
          have := (List.getElem?_eq_some_iff.1 hx).1
          simpa using this
        simp [hil] at hx
        subst hx
        obtain ⟨hc, _⟩ := hf i hil
        obtain ⟨_, hlen, hat⟩ := World.cells?_some hc
        have hj : j < C := by
          have := (List.getElem?_eq_some_iff.1 hv).1
          omega
        have h1 := hat j hj
        rw [addr_add, addr_add, hv] at h1
        rw [← h1]
        congr 2
        omega
      · intro y hy
        obtain ⟨i, hi', rfl⟩ := List.mem_map.1 hy
        exact (hf i (by simpa using hi')).2
end
end
end Go.Proofs.YtdanjegnhdpnlaaDoor.kit
