/- Texts in order; a list that rises. No condition. -/
import Derived.Test.YtjemmddgeejffaaDoorMkG
namespace Go.Proofs.YtjemmddgeejffaaDoor.kit
open Go.RowKit Go.PlainAid
set_option linter.unusedVariables false

/-! texts in order -/
def ltS (a b : ByteArray) : Prop := a.data.toList < b.data.toList
instance (a b : ByteArray) : Decidable (ltS a b) := inferInstanceAs (Decidable (a.data.toList < b.data.toList))
theorem ba_ext {a b : ByteArray} (h : a.data.toList = b.data.toList) : a = b := ByteArray.ext (Array.toList_inj.1 h)
theorem ltS_irr (a : ByteArray) : ¬ ltS a a := List.lt_irrefl _
theorem ltS_trans {a b c : ByteArray} (h : ltS a b) (h' : ltS b c) : ltS a c := List.lt_trans h h'
theorem ltS_cases (a b : ByteArray) : ltS a b ∨ a = b ∨ ltS b a := by
  by_cases h : ltS a b
  · exact .inl h
  by_cases h' : ltS b a
  · exact .inr (.inr h')
  · exact .inr (.inl (ba_ext (List.le_antisymm (List.not_lt.1 h') (List.not_lt.1 h))))
def risS (l : List ByteArray) : Prop := l.Pairwise ltS
def putS : List ByteArray → ByteArray → List ByteArray
  | [], s => [s]
  | x :: l, s => if ltS x s then x :: putS l s else if x = s then x :: l else s :: x :: l
theorem put_mem (s z : ByteArray) : ∀ l, z ∈ putS l s ↔ z = s ∨ z ∈ l
  | [] => by simp [putS]
  | x :: l => by
    unfold putS
    by_cases h : ltS x s
    · rw [if_pos h, List.mem_cons, put_mem s z l, List.mem_cons]
      constructor
      · rintro (h | h | h)
        · exact .inr (.inl h)
        · exact .inl h
        · exact .inr (.inr h)
      · rintro (h | h | h)
        · exact .inr (.inl h)
        · exact .inl h
        · exact .inr (.inr h)
    · rw [if_neg h]
      by_cases h' : x = s
      · rw [if_pos h', h']
        simp
      · rw [if_neg h', List.mem_cons, List.mem_cons]
theorem put_up (s : ByteArray) : ∀ l, risS l → risS (putS l s)
  | [], _ => by simp [putS, risS]
  | x :: l, h => by
    have h' := List.pairwise_cons.1 h
    unfold putS
    by_cases hx : ltS x s
    · rw [if_pos hx]
      refine List.pairwise_cons.2 ⟨fun z hz => ?_, put_up s l h'.2⟩
      rcases (put_mem s z l).1 hz with h1 | h1
      · rw [h1]; exact hx
      · exact h'.1 z h1
    · rw [if_neg hx]
      by_cases hs : x = s
      · rw [if_pos hs]; exact h
      · rw [if_neg hs]
        have hsx : ltS s x := by
          rcases ltS_cases x s with h1 | h1 | h1
          · exact (hx h1).elim
          · exact (hs h1).elim
          · exact h1
        refine List.pairwise_cons.2 ⟨fun z hz => ?_, h⟩
        rcases List.mem_cons.1 hz with h1 | h1
        · rw [h1]; exact hsx
        · exact ltS_trans hsx (h'.1 z h1)
theorem put_len (s : ByteArray) : ∀ l, (putS l s).length ≤ l.length + 1
  | [] => by simp [putS]
  | x :: l => by
    unfold putS
    by_cases h : ltS x s
    · rw [if_pos h, List.length_cons, List.length_cons]
      have := put_len s l
      omega
    · rw [if_neg h]
      by_cases h' : x = s
      · rw [if_pos h']; omega
      · rw [if_neg h']; simp
theorem ris_ext : ∀ {a b : List ByteArray}, risS a → risS b → (∀ z, z ∈ a ↔ z ∈ b) → a = b
  | [], [], _, _, _ => rfl
  | [], y :: b, _, _, h => by have := (h y).2 (List.mem_cons_self ..); cases this
  | x :: a, [], _, _, h => by have := (h x).1 (List.mem_cons_self ..); cases this
  | x :: a, y :: b, ha, hb, h => by
    have ha' := List.pairwise_cons.1 ha
    have hb' := List.pairwise_cons.1 hb
    have hxy : x = y := by
      rcases List.mem_cons.1 ((h x).1 (List.mem_cons_self ..)) with h1 | h1
      · exact h1
      · rcases List.mem_cons.1 ((h y).2 (List.mem_cons_self ..)) with h3 | h3
        · exact h3.symm
        · exact (ltS_irr _ (ltS_trans (ha'.1 y h3) (hb'.1 x h1))).elim
    subst hxy
    congr 1
    refine ris_ext ha'.2 hb'.2 fun z => ?_
    constructor
    · intro hz
      have h1 := ha'.1 z hz
      rcases List.mem_cons.1 ((h z).1 (List.mem_cons_of_mem _ hz)) with h2 | h2
      · rw [h2] at h1; exact (ltS_irr _ h1).elim
      · exact h2
    · intro hz
      have h1 := hb'.1 z hz
      rcases List.mem_cons.1 ((h z).2 (List.mem_cons_of_mem _ hz)) with h2 | h2
      · rw [h2] at h1; exact (ltS_irr _ h1).elim
      · exact h2
/-- Sorted keys, each once, are the rising list of the same texts. -/
theorem sorted_ris {ss : List (List UInt8)} {l : List ByteArray} (hn : ss.Nodup) (hl : risS l) (h : ∀ x, x ∈ ss ↔ bstr x ∈ l) : (ss.mergeSort fun x y => decide (x ≤ y)).map bstr = l := by
  have hs : (ss.mergeSort fun x y => decide (x ≤ y)).Pairwise (· ≤ ·) := by
    have h := List.pairwise_mergeSort (le := fun (x y : List UInt8) => decide (x ≤ y)) (fun x y z h1 h2 => by simp at h1 h2 ⊢; exact List.le_trans h1 h2) (fun x y => by simp; exact List.le_total x y) ss
    exact h.imp (fun h => by simpa using h)
  have hnd : (ss.mergeSort fun x y => decide (x ≤ y)).Nodup := (List.mergeSort_perm ss _).nodup_iff.2 hn
  refine ris_ext ?_ hl fun z => ?_
  · unfold risS
    rw [List.pairwise_map]
    have h2 := hs.and hnd
    refine h2.imp fun {a b} hab => ?_
    show (bstr a).data.toList < (bstr b).data.toList
    rw [data_bstr, data_bstr]
    rcases List.le_iff_lt_or_eq.1 hab.1 with h3 | h3
    · exact h3
    · exact (hab.2 h3).elim
  · rw [List.mem_map]
    constructor
    · rintro ⟨x, hx, rfl⟩
      exact (h x).1 (List.mem_mergeSort.1 hx)
    · intro hz
      refine ⟨z.data.toList, List.mem_mergeSort.2 ((h _).2 ?_), ba_ext (data_bstr _)⟩
      rw [show bstr z.data.toList = z from ba_ext (data_bstr _)]
      exact hz

def strC (s : ByteArray) : List Value := [.string s]
end Go.Proofs.YtjemmddgeejffaaDoor.kit
