/- Rows of texts. No condition. -/
import Derived.Test.YtlaclkiedjhphaaGreatDoorDfL
import Derived.Test.YtlaclkiedjhphaaGreatDoorOwn
import Derived.WalkLawsBesides
import Derived.Sort.Walk0
namespace Go.Proofs.YtlaclkiedjhphaaGreatDoor.kit
open Go.RowKit Go.PlainAid Go.Maps
set_option linter.unusedVariables false

theorem infoStr : (Tryz.prog.info? 9).map (fun i => (i.zero, i.size, i.bytes)) = some (some (.string ByteArray.empty), 1, 16) := by kernel_rfl
/-- A list of texts made since W. -/
def MadeC (W : World) (xs : List ByteArray) (v : Value) (w' : World) : Prop :=
  ∃ (A : Option Addr) (c : Nat), v = .slice A xs.length c ∧ xs.length ≤ c ∧ c ≤ maxLen ∧ SliceOf w' 1 strC A xs.length xs ∧ (∀ b off, A = some ⟨b, off, none⟩ → W.heap.size ≤ b) ∧ Below W.heap.size W w'
theorem madeC_of {W w' : World} {n : Nat} {xs : List ByteArray} {v : Value} (h : w'.ownsRow W.heap.size 9 1 v n (xs.flatMap strC)) (hn : xs.length = n) (hb : Below W.heap.size W w') : MadeC W xs v w' := by
  subst hn
  have h2 := h.2
  rcases h2 with ⟨hv, h0⟩ | ⟨g, cap, cur, hv, hg, hh, hnc, hcm, hcs, ht⟩
  · refine ⟨none, 0, by rw [hv, h0], by omega, by unfold maxLen; omega, ?_, (fun b off e => by cases e), hb⟩
    have : xs = [] := List.eq_nil_of_length_eq_zero h0
    subst this
    exact SliceOf.none_
  · subst hv
    exact ⟨_, cap, rfl, hnc, hcm, SliceOf.of_own_s h (fun _ => rfl) rfl rfl, (fun b off e => by injection e with e; injection e with e1 e2; omega), hb⟩
theorem get_str {w : World} {A : Option Addr} {n : Nat} {xs : List ByteArray} (h : SliceOf w 1 strC A n xs) {k : Nat} (hk : k < n) : ∃ b off x, A = some ⟨b, off, none⟩ ∧ xs[k]? = some x ∧ w.cell? ⟨b, off + k, none⟩ = some (.string x) := by
  have hl := h.len
  obtain ⟨x, hxk⟩ : ∃ x, xs[k]? = some x := ⟨_, List.getElem?_eq_getElem (by omega)⟩
  obtain ⟨b, off, rfl, hb, hc⟩ := h.at_ (by omega)
  exact ⟨b, off, x, rfl, hxk, by simpa using hc k _ hxk 0 _ rfl⟩
theorem takeS {xs : List ByteArray} {k : Nat} {x : ByteArray} (h : xs[k]? = some x) : xs.take (k + 1) = xs.take k ++ [x] := by rw [List.take_add_one, h]; rfl
theorem dropS {xs : List ByteArray} {k : Nat} {x : ByteArray} (h : xs[k]? = some x) : xs.drop k = x :: xs.drop (k + 1) := by
  obtain ⟨hk, he⟩ := List.getElem?_eq_some_iff.1 h
  rw [List.drop_eq_getElem_cons hk, he]
theorem lt_str (a b : ByteArray) : Op.bytesLess a.toList b.toList = decide (ltS a b) := by
  rw [ByteArray.toList_eq, ByteArray.toList_eq, bytesLess_eq]
  rfl
theorem str_one (zs : List ByteArray) : ∀ u ∈ zs.flatMap strC, u.oneCell' = true := by
  intro u hu
  obtain ⟨z, _, hz⟩ := List.mem_flatMap.1 hu
  simp [strC] at hz
  subst hz
  rfl
theorem reads_none (w : World) (B : Nat) (A : Option Addr) : Reads w B 1 A 0 (([] : List ByteArray).flatMap strC) := ⟨by simp, fun h => by omega⟩
theorem cell_kept {W w' : World} {p : Addr} {v : Value} (hb : Below W.heap.size W w') (h : W.cell? p = some v) : w'.cell? p = some v := (hb.cell (World.block_lt_of_cell? W p h)).trans h
end Go.Proofs.YtlaclkiedjhphaaGreatDoor.kit
