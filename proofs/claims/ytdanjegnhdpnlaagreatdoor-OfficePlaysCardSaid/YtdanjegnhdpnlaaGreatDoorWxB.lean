/- Texts in order; the document's office takes any letter, and is a text; an office is the same text. Condition: the table of powers of ten. -/
import Derived.Test.YtdanjegnhdpnlaaGreatDoorOfF
import Derived.Test.YtdanjegnhdpnlaaGreatDoorNum
import Derived.Sort.Walk0
import Derived.Test.YtdanjegnhdpnlaaGreatDoorPlD
import Derived.Laws.Cover1
import Derived.Test.YtdanjegnhdpnlaaGreatDoorPlE
import Derived.Test.YtdanjegnhdpnlaaGreatDoorKit
import Derived.Lib.Strings
import Derived.Lib.Slices
import Derived.Lib.Walk
import Derived.Lib.Builder
import Derived.Lib.AppendStr
import Derived.Lib.UnsafeStr
import Derived.Laws.Externs
import Derived.Shelf.SlIter.Nil
import Derived.Shelf.SortM.Plain
import Derived.Shelf.SortM.SortNone
import Derived.Ground.GgzProg
import Derived.Ground.SlgmProg
import Derived.Test.YtdanjegnhdpnlaaGreatDoorProg
import Derived.Test.YtdanjegnhdpnlaaGreatDoorOfU
import Derived.Maps.OwnSet
import Derived.Maps.Views
import Derived.Sort.KeysCollected
namespace Go.Proofs.YtdanjegnhdpnlaaGreatDoor.kit
open Go.RowKit Go.PlainAid Go.Sort
set_option linter.unusedVariables false

/-! texts in order -/
def ltS (a b : ByteArray) : Prop := a.data.toList < b.data.toList
instance (a b : ByteArray) : Decidable (ltS a b) := inferInstanceAs (Decidable (a.data.toList < b.data.toList))
theorem ba_ext {a b : ByteArray} (h : a.data.toList = b.data.toList) : a = b := ByteArray.ext (Array.toList_inj.1 h)
theorem ltS_irr (a : ByteArray) : ¬ ltS a a := List.lt_irrefl _
theorem ltS_trans {a b c : ByteArray} (h : ltS a b) (h' : ltS b c) : ltS a c := List.lt_trans h h'
theorem ltS_cases (a b : ByteArray) : ltS a b ∨ a = b ∨ ltS b a := by
  by_cases h : ltS a b
  · exact .inl h
  by_cases h' : ltS b a
  · exact .inr (.inr h')
  · exact .inr (.inl (ba_ext (List.le_antisymm (List.not_lt.1 h') (List.not_lt.1 h))))
def risS (l : List ByteArray) : Prop := l.Pairwise ltS
def putS : List ByteArray → ByteArray → List ByteArray
  | [], s => [s]
  | x :: l, s => if ltS x s then x :: putS l s else if x = s then x :: l else s :: x :: l
theorem put_mem (s z : ByteArray) : ∀ l, z ∈ putS l s ↔ z = s ∨ z ∈ l
  | [] => by simp [putS]
  | x :: l => by
    unfold putS
    by_cases h : ltS x s
    · rw [if_pos h, List.mem_cons, put_mem s z l, List.mem_cons]
      constructor
      · rintro (h | h | h)
        · exact .inr (.inl h)
        · exact .inl h
        · exact .inr (.inr h)
      · rintro (h | h | h)
        · exact .inr (.inl h)
        · exact .inl h
        · exact .inr (.inr h)
    · rw [if_neg h]
      by_cases h' : x = s
      · rw [if_pos h', h']
        simp
      · rw [if_neg h', List.mem_cons, List.mem_cons]
theorem put_up (s : ByteArray) : ∀ l, risS l → risS (putS l s)
  | [], _ => by simp [putS, risS]
  | x :: l, h => by
    have h' := List.pairwise_cons.1 h
    unfold putS
    by_cases hx : ltS x s
    · rw [if_pos hx]
      refine List.pairwise_cons.2 ⟨fun z hz => ?_, put_up s l h'.2⟩
      rcases (put_mem s z l).1 hz with h1 | h1
      · rw [h1]; exact hx
      · exact h'.1 z h1
    · rw [if_neg hx]
      by_cases hs : x = s
      · rw [if_pos hs]; exact h
      · rw [if_neg hs]
        have hsx : ltS s x := by
          rcases ltS_cases x s with h1 | h1 | h1
          · exact (hx h1).elim
          · exact (hs h1).elim
          · exact h1
        refine List.pairwise_cons.2 ⟨fun z hz => ?_, h⟩
        rcases List.mem_cons.1 hz with h1 | h1
        · rw [h1]; exact hsx
        · exact ltS_trans hsx (h'.1 z h1)
theorem put_len (s : ByteArray) : ∀ l, (putS l s).length ≤ l.length + 1
  | [] => by simp [putS]
  | x :: l => by
    unfold putS
    by_cases h : ltS x s
    · rw [if_pos h, List.length_cons, List.length_cons]
      have := put_len s l
      omega
    · rw [if_neg h]
      by_cases h' : x = s
      · rw [if_pos h']; omega
      · rw [if_neg h']; simp
theorem ris_ext : ∀ {a b : List ByteArray}, risS a → risS b → (∀ z, z ∈ a ↔ z ∈ b) → a = b
  | [], [], _, _, _ => rfl
  | [], y :: b, _, _, h => by have := (h y).2 (List.mem_cons_self ..); cases this
  | x :: a, [], _, _, h => by have := (h x).1 (List.mem_cons_self ..); cases this
  | x :: a, y :: b, ha, hb, h => by
    have ha' := List.pairwise_cons.1 ha
    have hb' := List.pairwise_cons.1 hb
    have hxy : x = y := by
      rcases List.mem_cons.1 ((h x).1 (List.mem_cons_self ..)) with h1 | h1
      · exact h1
      · rcases List.mem_cons.1 ((h y).2 (List.mem_cons_self ..)) with h3 | h3
        · exact h3.symm
        · exact (ltS_irr _ (ltS_trans (ha'.1 y h3) (hb'.1 x h1))).elim
    subst hxy
    congr 1
    refine ris_ext ha'.2 hb'.2 fun z => ?_
    constructor
    · intro hz
      have h1 := ha'.1 z hz
      rcases List.mem_cons.1 ((h z).1 (List.mem_cons_of_mem _ hz)) with h2 | h2
      · rw [h2] at h1; exact (ltS_irr _ h1).elim
      · exact h2
    · intro hz
      have h1 := hb'.1 z hz
      rcases List.mem_cons.1 ((h z).2 (List.mem_cons_of_mem _ hz)) with h2 | h2
      · rw [h2] at h1; exact (ltS_irr _ h1).elim
      · exact h2
/-- Sorted keys, each once, are the rising list of the same texts. -/
theorem sorted_ris {ss : List (List UInt8)} {l : List ByteArray} (hn : ss.Nodup) (hl : risS l) (h : ∀ x, x ∈ ss ↔ bstr x ∈ l) : (ss.mergeSort fun x y => decide (x ≤ y)).map bstr = l := by
  have hs : (ss.mergeSort fun x y => decide (x ≤ y)).Pairwise (· ≤ ·) := by
    have h := List.pairwise_mergeSort (le := fun (x y : List UInt8) => decide (x ≤ y)) (fun x y z h1 h2 => by simp at h1 h2 ⊢; exact List.le_trans h1 h2) (fun x y => by simp; exact List.le_total x y) ss
    exact h.imp (fun h => by simpa using h)
  have hnd : (ss.mergeSort fun x y => decide (x ≤ y)).Nodup := (List.mergeSort_perm ss _).nodup_iff.2 hn
  refine ris_ext ?_ hl fun z => ?_
  · unfold risS
    rw [List.pairwise_map]
    have h2 := hs.and hnd
    refine h2.imp fun {a b} hab => ?_
    show (bstr a).data.toList < (bstr b).data.toList
    rw [data_bstr, data_bstr]
    rcases List.le_iff_lt_or_eq.1 hab.1 with h3 | h3
    · exact h3
    · exact (hab.2 h3).elim
  · rw [List.mem_map]
    constructor
    · rintro ⟨x, hx, rfl⟩
      exact (h x).1 (List.mem_mergeSort.1 hx)
    · intro hz
      refine ⟨z.data.toList, List.mem_mergeSort.2 ((h _).2 ?_), ba_ext (data_bstr _)⟩
      rw [show bstr z.data.toList = z from ba_ext (data_bstr _)]
      exact hz

/-! the document's Put, one text at a time -/
structure PutI (xs : List ByteArray) (s : ByteArray) (k : Nat) (dn : Bool) (out : List ByteArray) : Prop where
  no : dn = false → out = xs.take k ∧ ∀ y ∈ xs.take k, ltS y s
  yes : dn = true → risS out ∧ (∀ z, z ∈ out ↔ z = s ∨ z ∈ xs.take k) ∧ ∃ y ∈ xs.take k, ¬ ltS y s
  len : out.length ≤ k + 1
theorem takeSn {xs : List ByteArray} {k : Nat} {x : ByteArray} (h : xs[k]? = some x) : xs.take (k + 1) = xs.take k ++ [x] := by rw [List.take_add_one, h]; rfl
theorem ris_before {xs : List ByteArray} (hr : risS xs) {k : Nat} {x : ByteArray} (h : xs[k]? = some x) : ∀ y ∈ xs.take k, ltS y x := by
  intro y hy
  obtain ⟨j, hj, rfl⟩ := List.getElem_of_mem hy
  rw [List.length_take] at hj
  obtain ⟨hk, he⟩ := List.getElem?_eq_some_iff.1 h
  rw [List.getElem_take, ← he]
  exact List.pairwise_iff_getElem.1 hr j k (by omega) hk (by omega)
theorem PutI.start (xs : List ByteArray) (s : ByteArray) : PutI xs s 0 false [] := ⟨fun _ => ⟨rfl, fun y hy => (by simp at hy)⟩, fun h => (by cases h), by simp⟩
section
variable {xs out : List ByteArray} {s x : ByteArray} {k : Nat}
theorem PutI.lt_ (h : PutI xs s k false out) (hx : xs[k]? = some x) (hl : ltS x s) : PutI xs s (k + 1) false (out ++ [x]) := by
  obtain ⟨h1, h2⟩ := h.no rfl
  refine ⟨fun _ => ⟨by rw [takeSn hx, h1], ?_⟩, fun h => (by cases h), by have := h.len; simp; omega⟩
  rw [takeSn hx]
  intro y hy
  rcases List.mem_append.1 hy with h3 | h3
  · exact h2 y h3
  · rw [List.mem_singleton.1 h3]; exact hl
theorem PutI.eq_ (h : PutI xs s k false out) (hr : risS xs) (hx : xs[k]? = some s) : PutI xs s (k + 1) true (out ++ [s]) := by
  obtain ⟨h1, h2⟩ := h.no rfl
  refine ⟨fun h => (by cases h), fun _ => ⟨?_, ?_, ?_⟩, by have := h.len; simp; omega⟩
  · rw [h1]
    refine List.pairwise_append.2 ⟨List.Pairwise.sublist (List.take_sublist _ _) hr, List.pairwise_singleton _ _, fun a ha b hb => ?_⟩
    rw [List.mem_singleton.1 hb]; exact h2 a ha
  · intro z
    rw [takeSn hx, h1, List.mem_append, List.mem_singleton]
    exact ⟨fun h => h.elim (fun h => .inr (.inl h)) .inl, fun h => h.elim .inr (fun h => h)⟩
  · exact ⟨s, by rw [takeSn hx]; simp, ltS_irr s⟩
theorem PutI.gt_ (h : PutI xs s k false out) (hr : risS xs) (hx : xs[k]? = some x) (hl : ltS s x) : PutI xs s (k + 1) true (out ++ [s] ++ [x]) := by
  obtain ⟨h1, h2⟩ := h.no rfl
  refine ⟨fun h => (by cases h), fun _ => ⟨?_, ?_, ?_⟩, ?_⟩
  · rw [h1]
    refine List.pairwise_append.2 ⟨List.pairwise_append.2 ⟨List.Pairwise.sublist (List.take_sublist _ _) hr, List.pairwise_singleton _ _, fun a ha b hb => ?_⟩, List.pairwise_singleton _ _, fun a ha b hb => ?_⟩
    · rw [List.mem_singleton.1 hb]; exact h2 a ha
    · rw [List.mem_singleton.1 hb]
      rcases List.mem_append.1 ha with h3 | h3
      · exact ris_before hr hx a h3
      · rw [List.mem_singleton.1 h3]; exact hl
  · intro z
    rw [takeSn hx, h1, List.mem_append, List.mem_append, List.mem_append, List.mem_singleton, List.mem_singleton]
    constructor
    · rintro ((h | h) | h)
      · exact .inr (.inl h)
      · exact .inl h
      · exact .inr (.inr h)
    · rintro (h | h | h)
      · exact .inl (.inr h)
      · exact .inl (.inl h)
      · exact .inr h
  · exact ⟨x, by rw [takeSn hx]; simp, fun h => ltS_irr _ (ltS_trans h hl)⟩
  · have := congrArg List.length h1
    rw [List.length_take] at this
    simp
    omega
theorem PutI.past (h : PutI xs s k true out) (hr : risS xs) (hx : xs[k]? = some x) : ltS s x := by
  obtain ⟨_, _, y, hy, hn⟩ := h.yes rfl
  have h1 := ris_before hr hx y hy
  rcases ltS_cases s y with h2 | h2 | h2
  · exact ltS_trans h2 h1
  · rw [h2]; exact h1
  · exact absurd h2 hn
theorem PutI.on (h : PutI xs s k true out) (hr : risS xs) (hx : xs[k]? = some x) : PutI xs s (k + 1) true (out ++ [x]) := by
  have hsx := h.past hr hx
  obtain ⟨h1, h2, y, hy, hn⟩ := h.yes rfl
  refine ⟨fun h => (by cases h), fun _ => ⟨?_, ?_, y, by rw [takeSn hx]; exact List.mem_append_left _ hy, hn⟩, by have := h.len; simp; omega⟩
  · refine List.pairwise_append.2 ⟨h1, List.pairwise_singleton _ _, fun a ha b hb => ?_⟩
    rw [List.mem_singleton.1 hb]
    rcases (h2 a).1 ha with h3 | h3
    · rw [h3]; exact hsx
    · exact ris_before hr hx a h3
  · intro z
    rw [takeSn hx, List.mem_append, List.mem_append, List.mem_singleton, h2 z, or_assoc]
theorem PutI.end_yes (h : PutI xs s k true out) (hr : risS xs) (hk : xs.length ≤ k) : out = putS xs s := by
  obtain ⟨h1, h2, _⟩ := h.yes rfl
  refine ris_ext h1 (put_up s xs hr) fun z => ?_
  rw [h2 z, put_mem, List.take_of_length_le hk]
theorem PutI.end_no (h : PutI xs s k false out) (hr : risS xs) (hk : xs.length ≤ k) : out ++ [s] = putS xs s := by
  obtain ⟨h1, h2⟩ := h.no rfl
  rw [List.take_of_length_le hk] at h1 h2
  refine ris_ext ?_ (put_up s xs hr) fun z => ?_
  · rw [h1]
    refine List.pairwise_append.2 ⟨hr, List.pairwise_singleton _ _, fun a ha b hb => ?_⟩
    rw [List.mem_singleton.1 hb]; exact h2 a ha
  · rw [h1, List.mem_append, List.mem_singleton, put_mem, or_comm]
end
theorem lt_str (a b : ByteArray) : Op.bytesLess a.toList b.toList = decide (ltS a b) := by
  rw [ByteArray.toList_eq, ByteArray.toList_eq, bytesLess_eq]
  rfl
end Go.Proofs.YtdanjegnhdpnlaaGreatDoor.kit

namespace Go.Proofs.YtdanjegnhdpnlaaGreatDoor.kit
open Go.RowKit Go.PlainAid
set_option linter.unusedVariables false
set_option linter.unusedSimpArgs false
set_option maxRecDepth 100000
set_option maxHeartbeats 6400000
theorem str_len (s : ByteArray) : (strC s).length = 1 := rfl
theorem str_one (zs : List ByteArray) : ∀ u ∈ zs.flatMap strC, u.oneCell' = true := by
  intro u hu
  obtain ⟨z, _, hz⟩ := List.mem_flatMap.1 hu
  simp [strC] at hz
  subst hz
  rfl
theorem infoSt : (Tryz.prog.info? 9).map (fun i => (i.zero, i.size, i.bytes)) = some (some (.string ByteArray.empty), 1, 16) := by kernel_rfl
theorem emp_str (w : World) : (Instr.buildSlice 55 0 #[]).run Tryz.prog w = .ok (.slice (some ⟨w.heap.size, 0, none⟩) 0 0) (w.alloc (.cells #[] 9)) := by kernel_rfl
theorem reads_str (W : World) (s : ByteArray) : Reads (W.alloc (.cells #[.string s] 9)) (W.alloc (.cells #[.string s] 9)).heap.size 1 (some ⟨W.heap.size, 0, none⟩) 1 ([s].flatMap strC) :=
  (SliceOf.blk (en := strC) (Blk.new W 9 _) [s] rfl str_len rfl).reads str_len
/-- What the document's Put brings. -/
def PutP (w : World) (l : List ByteArray) (e : Ending) (w' : World) : Prop := ∃ A' c', e = .returned (.slice A' l.length c') ∧ SliceOf w' 1 strC A' l.length l ∧ Below w.heap.size w w'
theorem rput_any (A : Option Addr) (n c : Nat) (xs : List ByteArray) (s : ByteArray) (w : World) (h : SliceOf w 1 strC A n xs) (hm : n ≤ 100) (hr : risS xs) :
    Calls Tryz.prog 26 #[.slice A n c, .string s] w (PutP w (putS xs s)) := by
  have HS0 := Lib.hid h
  have HRI := Lib.hid hr
  have hl := h.len
  obtain ⟨i0, hi0, hz0, hz1, hz2⟩ := info_parts infoSt
  have hE := emp_str
  have HO0 : Hid ((w.alloc (.cells #[] 9)).ownsRow w.heap.size 9 1 (.slice (some ⟨w.heap.size, 0, none⟩) 0 0) 0 (([] : List ByteArray).flatMap strC)) := Lib.hid (own_empty (Blk.new _ _ _) (Nat.le_refl _))
  have HB0 := Lib.hid (one_alloc w (.cells #[] 9))
  clear h hr
  go_enter Tryz.func26, Tryz.ntmps26
  go_wp2_with fail
  go_loopw [5, 6, 7] (fun a d i wr => ∃ (k : Nat) (Av : Option Addr) (cv : Nat) (dn : Bool) (out : List ByteArray) (L : Nat), k ≤ n ∧ L ≤ k + 1 ∧ a = .slice Av L cv ∧ d = .bool dn ∧ i = .int .i64 k ∧ Hid (wr.ownsRow w.heap.size 9 1 (.slice Av L cv) L (out.flatMap strC)) ∧ Hid (Below w.heap.size w wr) ∧ Hid (PutI xs s k dn out ∧ out.length = L)) (fun _ _ i _ => n - (intOf i).toNat)
  case atStart => exact ⟨0, _, _, false, [], 0, by omega, by omega, rfl, rfl, rfl, HO0, HB0, Lib.hid ⟨PutI.start xs s, rfl⟩⟩
  case round =>
    obtain ⟨k, Av, cv, dn, out, L, hk, hL, rfl, rfl, rfl, HO, HB, HP⟩ := hrel
    by_cases hlt : k < n
    · obtain ⟨b, off, x, rfl, hx, c0⟩ := get_str (HS0.out.below HB.out) hlt
      have i0' : (k : Int) < (n : Int) := by omega
      have q1 := lt_str s x
      have HX := Lib.hid hx
      have HSX := Lib.hid HS0.out
      cases dn
      · rcases ltS_cases x s with hc | hc | hc
        · have b1 : Op.bytesLess s.toList x.toList = false := by rw [q1]; exact decide_eq_false (fun h => ltS_irr _ (ltS_trans h hc))
          have hne : ¬ s = x := fun h => ltS_irr x (by rw [h] at hc; exact hc)
          have b2 : (s.toList == x.toList) = false := by rw [eq_str]; exact decide_eq_false hne
          have b3 : (x.toList == s.toList) = false := by rw [eq_str]; exact decide_eq_false (fun h => hne h.symm)
          have b12 : ∀ t : TypeId, binOp .leq t (.string s) (.string x) = pure (.bool false) := fun t => by rw [binOp_string_leq, b1, b2]; rfl
          clear b1 b2
          have HP1 := HP.out.1.lt_ HX.out hc
          have HP2 : Hid (PutI xs s (k + 1) false (out ++ [x]) ∧ (out ++ [x]).length = L + 1) := Lib.hid ⟨HP1, by rw [List.length_append, HP.out.2]; rfl⟩
          have hL2 : L + 1 ≤ k + 1 + 1 := by omega
          clear q1 hx hc hne HP1
          go_wp2_with ((at_builtin; go_loud (refine wpList_append_any_s _ rfl (.tmp 35) (.tmp 40) 55 rfl w.heap.size 9 i0 _ 1 16 Tryz.underlying55 hi0 hz0 hz1 hz2 rfl (by omega) (.slice Av L cv) L _ rfl ((HO).out.alloc _) _ (some ⟨wr.heap.size, 0, none⟩) 1 1 ([x].flatMap strC) rfl (reads_str wr x) (str_one _) (by unfold maxLen; omega) (by omega) (by have := (HB).out.size; simp; omega) ?_; intro A9 c9 w9 hown hg hloc; have HB9 : Hid (Below w.heap.size w w9) := Lib.hid (((HB).out.alloc (HB).out.size _).grown hg (by have := (HB).out.size; simp; omega) (fun q hq => (((HO).out.lt q hq).1))); rw [← List.flatMap_append] at hown; have HO9 := Lib.hid hown; clear hown hg hloc)))
          go_roundw
          case rel => exact ⟨k + 1, _, _, false, _, L + 1, by omega, hL2, rfl, rfl, by go_num, HO9, HB9, HP2⟩
          case measure => simp [intOf]; omega
        · subst hc
          have b1 : Op.bytesLess x.toList x.toList = false := by rw [q1]; exact decide_eq_false (ltS_irr _)
          have b2 : (x.toList == x.toList) = true := by rw [eq_str]; exact decide_eq_true rfl
          have b12 : ∀ t : TypeId, binOp .leq t (.string x) (.string x) = pure (.bool true) := fun t => by rw [binOp_string_leq, b1, b2]; rfl
          clear b1
          have HP1 := HP.out.1.eq_ HRI.out HX.out
          have HP2 : Hid (PutI xs x (k + 1) true (out ++ [x]) ∧ (out ++ [x]).length = L + 1) := Lib.hid ⟨HP1, by rw [List.length_append, HP.out.2]; rfl⟩
          have hL2 : L + 1 ≤ k + 1 + 1 := by omega
          clear q1 hx HP1
          go_upto_region 8 with ((at_builtin; go_loud (refine wpList_append_any_s _ rfl (.tmp 25) (.tmp 27) 55 rfl w.heap.size 9 i0 _ 1 16 Tryz.underlying55 hi0 hz0 hz1 hz2 rfl (by omega) (.slice Av L cv) L _ rfl ((HO).out.alloc _) _ (some ⟨wr.heap.size, 0, none⟩) 1 1 ([x].flatMap strC) rfl (reads_str wr x) (str_one _) (by unfold maxLen; omega) (by omega) (by have := (HB).out.size; simp; omega) ?_; intro A9 c9 w9 hown hg hloc; have HB9 : Hid (Below w.heap.size w w9) := Lib.hid (((HB).out.alloc (HB).out.size _).grown hg (by have := (HB).out.size; simp; omega) (fun q hq => (((HO).out.lt q hq).1))); rw [← List.flatMap_append] at hown; have HO9 := Lib.hid hown; clear hown hg hloc)))
          have c1 : w9.cell? ⟨b, off + k, none⟩ = some (.string x) := by
            obtain ⟨b', off', x', e1, e2, e3⟩ := get_str (HSX.out.below HB9.out) hlt
            injection e1 with e1
            injection e1 with e1 e4
            rw [HX.out] at e2
            injection e2 with e2
            rw [e1, e4, e2]; exact e3
          clear c0
          go_wp2_with fail
          go_roundw
          case rel => exact ⟨k + 1, _, _, true, _, L + 1, by omega, hL2, rfl, rfl, by go_num, HO9, HB9, HP2⟩
          case measure => simp [intOf]; omega
        · have b1 : Op.bytesLess s.toList x.toList = true := by rw [q1]; exact decide_eq_true hc
          have hne : ¬ x = s := fun h => ltS_irr x (by rw [← h] at hc; exact hc)
          have b3 : (x.toList == s.toList) = false := by rw [eq_str]; exact decide_eq_false hne
          have HP1 := HP.out.1.gt_ HRI.out HX.out hc
          have HP2 : Hid (PutI xs s (k + 1) true (out ++ [s] ++ [x]) ∧ (out ++ [s] ++ [x]).length = L + 1 + 1) := Lib.hid ⟨HP1, by rw [List.length_append, List.length_append, HP.out.2]; rfl⟩
          have HL2 : Hid (out.length = k) := Lib.hid (by have := congrArg List.length (HP.out.1.no rfl).1; rw [List.length_take] at this; have := HSX.out.len; omega)
          have hL3 : L + 1 + 1 ≤ k + 1 + 1 := by have := HL2.out; have := HP.out.2; omega
          clear q1 hx hc hne HP1 HL2
          go_upto_region 8 with ((at_builtin; go_loud (refine wpList_append_any_s _ rfl (.tmp 25) (.tmp 27) 55 rfl w.heap.size 9 i0 _ 1 16 Tryz.underlying55 hi0 hz0 hz1 hz2 rfl (by omega) (.slice Av L cv) L _ rfl ((HO).out.alloc _) _ (some ⟨wr.heap.size, 0, none⟩) 1 1 ([s].flatMap strC) rfl (reads_str wr s) (str_one _) (by unfold maxLen; omega) (by omega) (by have := (HB).out.size; simp; omega) ?_; intro A9 c9 w9 hown hg hloc; have HB9 : Hid (Below w.heap.size w w9) := Lib.hid (((HB).out.alloc (HB).out.size _).grown hg (by have := (HB).out.size; simp; omega) (fun q hq => (((HO).out.lt q hq).1))); rw [← List.flatMap_append] at hown; have HO9 := Lib.hid hown; clear hown hg hloc)))
          have c1 : w9.cell? ⟨b, off + k, none⟩ = some (.string x) := by
            obtain ⟨b', off', x', e1, e2, e3⟩ := get_str (HSX.out.below HB9.out) hlt
            injection e1 with e1
            injection e1 with e1 e4
            rw [HX.out] at e2
            injection e2 with e2
            rw [e1, e4, e2]; exact e3
          clear c0
          go_wp2_with ((at_builtin; go_loud (refine wpList_append_any_s _ rfl (.tmp 35) (.tmp 40) 55 rfl w.heap.size 9 i0 _ 1 16 Tryz.underlying55 hi0 hz0 hz1 hz2 rfl (by omega) (.slice A9 (L + 1) c9) (L + 1) _ rfl ((HO9).out.alloc _) _ (some ⟨w9.heap.size, 0, none⟩) 1 1 ([x].flatMap strC) rfl (reads_str w9 x) (str_one _) (by unfold maxLen; omega) (by omega) (by have := (HB9).out.size; simp; omega) ?_; intro A8 c8 w8 hown hg hloc; have HB8 : Hid (Below w.heap.size w w8) := Lib.hid (((HB9).out.alloc (HB9).out.size _).grown hg (by have := (HB9).out.size; simp; omega) (fun q hq => (((HO9).out.lt q hq).1))); rw [← List.flatMap_append] at hown; have HO8 := Lib.hid hown; clear hown hg hloc)))
          go_roundw
          case rel => exact ⟨k + 1, _, _, true, _, L + 1 + 1, by omega, hL3, rfl, rfl, by go_num, HO8, HB8, HP2⟩
          case measure => simp [intOf]; omega
      · have hc := HP.out.1.past HRI.out HX.out
        have hne : ¬ x = s := fun h => ltS_irr x (by rw [← h] at hc; exact hc)
        have b3 : (x.toList == s.toList) = false := by rw [eq_str]; exact decide_eq_false hne
        have HP1 := HP.out.1.on HRI.out HX.out
        have HP2 : Hid (PutI xs s (k + 1) true (out ++ [x]) ∧ (out ++ [x]).length = L + 1) := Lib.hid ⟨HP1, by rw [List.length_append, HP.out.2]; rfl⟩
        have hL2 : L + 1 ≤ k + 1 + 1 := by omega
        clear q1 hx hc hne HP1
        go_wp2_with ((at_builtin; go_loud (refine wpList_append_any_s _ rfl (.tmp 35) (.tmp 40) 55 rfl w.heap.size 9 i0 _ 1 16 Tryz.underlying55 hi0 hz0 hz1 hz2 rfl (by omega) (.slice Av L cv) L _ rfl ((HO).out.alloc _) _ (some ⟨wr.heap.size, 0, none⟩) 1 1 ([x].flatMap strC) rfl (reads_str wr x) (str_one _) (by unfold maxLen; omega) (by omega) (by have := (HB).out.size; simp; omega) ?_; intro A9 c9 w9 hown hg hloc; have HB9 : Hid (Below w.heap.size w w9) := Lib.hid (((HB).out.alloc (HB).out.size _).grown hg (by have := (HB).out.size; simp; omega) (fun q hq => (((HO).out.lt q hq).1))); rw [← List.flatMap_append] at hown; have HO9 := Lib.hid hown; clear hown hg hloc)))
        go_roundw
        case rel => exact ⟨k + 1, _, _, true, _, L + 1, by omega, hL2, rfl, rfl, by go_num, HO9, HB9, HP2⟩
        case measure => simp [intOf]; omega
    · have i0' : ¬ (k : Int) < (n : Int) := by omega
      have hkn : k = n := by omega
      subst hkn
      cases dn
      · have HE : Hid (out ++ [s] = putS xs s ∧ L + 1 = (putS xs s).length) := Lib.hid ⟨HP.out.1.end_no HRI.out (by omega), by rw [← HP.out.1.end_no HRI.out (by omega), List.length_append, HP.out.2]; rfl⟩
        go_wp2_with ((at_builtin; go_loud (refine wpList_append_any_s _ rfl (.tmp 44) (.tmp 46) 55 rfl w.heap.size 9 i0 _ 1 16 Tryz.underlying55 hi0 hz0 hz1 hz2 rfl (by omega) (.slice Av L cv) L _ rfl ((HO).out.alloc _) _ (some ⟨wr.heap.size, 0, none⟩) 1 1 ([s].flatMap strC) rfl (reads_str wr s) (str_one _) (by unfold maxLen; omega) (by omega) (by have := (HB).out.size; simp; omega) ?_; intro A9 c9 w9 hown hg hloc; have HB9 : Hid (Below w.heap.size w w9) := Lib.hid (((HB).out.alloc (HB).out.size _).grown hg (by have := (HB).out.size; simp; omega) (fun q hq => (((HO).out.lt q hq).1))); rw [← List.flatMap_append] at hown; have HO9 := Lib.hid hown; clear hown hg hloc)))
        go_ret
        rw [HE.out.2] at HO9
        exact ⟨A9, c9, by rw [← HE.out.2]; rfl, SliceOf.of_own_s HO9.out str_len (by rw [HE.out.1]) rfl, HB9.out⟩
      · have HE : Hid (out = putS xs s ∧ L = (putS xs s).length) := Lib.hid ⟨HP.out.1.end_yes HRI.out (by omega), by rw [← HP.out.1.end_yes HRI.out (by omega), HP.out.2]⟩
        go_wp2_with fail
        go_ret
        rw [HE.out.2] at HO
        exact ⟨Av, cv, by rw [← HE.out.2]; rfl, SliceOf.of_own_s HO.out str_len (by rw [HE.out.1]) rfl, HB.out⟩
/-! the numbers of an office's deals -/
def numsF (nm : ByteArray) (K : Int) (xs : List Dx) : Nat → List ByteArray
  | 0 => []
  | k + 1 => match xs[k]? with
    | some x => if dealI nm K xs x.d.num = (k : Int) then putS (numsF nm K xs k) x.d.num else numsF nm K xs k
    | none => numsF nm K xs k
theorem nums_step {nm : ByteArray} {K : Int} {xs : List Dx} {k : Nat} {x : Dx} (h : xs[k]? = some x) : numsF nm K xs (k + 1) = if dealI nm K xs x.d.num = (k : Int) then putS (numsF nm K xs k) x.d.num else numsF nm K xs k := by
  rw [numsF, h]
theorem nums_ris (nm : ByteArray) (K : Int) (xs : List Dx) : ∀ k, risS (numsF nm K xs k)
  | 0 => List.Pairwise.nil
  | k + 1 => by
    rw [numsF]
    cases xs[k]? with
    | none => exact nums_ris nm K xs k
    | some x =>
      dsimp only
      split
      · exact put_up _ _ (nums_ris nm K xs k)
      · exact nums_ris nm K xs k
theorem nums_len (nm : ByteArray) (K : Int) (xs : List Dx) : ∀ k, (numsF nm K xs k).length ≤ k
  | 0 => Nat.le_refl _
  | k + 1 => by
    rw [numsF]
    cases xs[k]? with
    | none => exact Nat.le_succ_of_le (nums_len nm K xs k)
    | some x =>
      dsimp only
      split
      · exact Nat.le_trans (put_len _ _) (Nat.succ_le_succ (nums_len nm K xs k))
      · exact Nat.le_succ_of_le (nums_len nm K xs k)
theorem nums_mem (nm : ByteArray) (K : Int) (xs : List Dx) : ∀ k z, z ∈ numsF nm K xs k ↔ ∃ i : Nat, i < k ∧ i < xs.length ∧ dealI nm K xs z = (i : Int)
  | 0, z => by simp [numsF]
  | k + 1, z => by
    have ih := nums_mem nm K xs k z
    cases hx : xs[k]? with
    | none =>
      rw [numsF, hx]
      dsimp only
      rw [ih]
      have := List.getElem?_eq_none_iff.1 hx
      constructor
      · rintro ⟨i, h1, h2, h3⟩; exact ⟨i, by omega, h2, h3⟩
      · rintro ⟨i, h1, h2, h3⟩; exact ⟨i, by omega, h2, h3⟩
    | some x =>
      have hk := (List.getElem?_eq_some_iff.1 hx).1
      rw [nums_step hx]
      have key : dealI nm K xs z = (k : Int) → z = x.d.num := by
        intro h
        rcases deal_spec nm K xs z with ⟨h1, _⟩ | ⟨j, y, h1, h2, h3, _⟩
        · omega
        · have : j = k := by omega
          subst this
          rw [hx] at h2
          injection h2 with h2
          rw [h2]; exact h3.symm
      by_cases hd : dealI nm K xs x.d.num = (k : Int)
      · rw [if_pos hd, put_mem, ih]
        constructor
        · rintro (rfl | ⟨i, h1, h2, h3⟩)
          · exact ⟨k, by omega, hk, hd⟩
          · exact ⟨i, by omega, h2, h3⟩
        · rintro ⟨i, h1, h2, h3⟩
          by_cases e : i = k
          · subst e; exact .inl (key h3)
          · exact .inr ⟨i, by omega, h2, h3⟩
      · rw [if_neg hd, ih]
        constructor
        · rintro ⟨i, h1, h2, h3⟩; exact ⟨i, by omega, h2, h3⟩
        · rintro ⟨i, h1, h2, h3⟩
          by_cases e : i = k
          · subst e
            have := key h3
            rw [this] at h3
            exact absurd h3 hd
          · exact ⟨i, by omega, h2, h3⟩
/-- The numbers of its deals, rising. -/
def numsV (nm : ByteArray) (K : Int) (xs : List Dx) : List ByteArray := numsF nm K xs xs.length
theorem numsV_mem (nm : ByteArray) (K : Int) (xs : List Dx) (z : ByteArray) : z ∈ numsV nm K xs ↔ (dealsOf nm K xs z).isSome = true := by
  unfold numsV
  rw [nums_mem]
  rcases deal_spec nm K xs z with ⟨h1, h2⟩ | ⟨j, y, h1, h2, h3, h4, h5⟩
  · rw [h2]
    constructor
    · rintro ⟨i, _, _, h⟩; omega
    · intro h; cases h
  · rw [h5]
    exact ⟨fun _ => rfl, fun _ => ⟨j, (List.getElem?_eq_some_iff.1 h2).1, (List.getElem?_eq_some_iff.1 h2).1, h1⟩⟩
theorem numsV_at {nm : ByteArray} {K : Int} {xs : List Dx} {z : ByteArray} (h : z ∈ numsV nm K xs) : ∃ (i : Nat) (x : Dx), dealI nm K xs z = (i : Int) ∧ xs[i]? = some x ∧ x.d.num = z ∧ dealsOf nm K xs z = some x.d := by
  rcases deal_spec nm K xs z with ⟨h1, h2⟩ | ⟨j, y, h1, h2, h3, h4, h5⟩
  · rw [numsV_mem, h2] at h; cases h
  · exact ⟨j, y, h1, h2, h3, h5⟩
/-! the text -/
def lineV (n : ByteArray) (s : St) : ByteArray := ⟨#[100, 101, 97, 108, 32]⟩ ++ n ++ ⟨#[32, 115, 116, 97, 116, 101, 32]⟩ ++ itS s.st ++ ⟨#[32, 112, 97, 105, 100, 32]⟩ ++ itS s.paid ++ ⟨#[10]⟩
def textV (st : ByteArray → St) (l : List ByteArray) : ByteArray := l.foldl (fun a n => a ++ lineV n (st n)) ⟨#[]⟩
theorem text_snoc (st : ByteArray → St) (l : List ByteArray) (n : ByteArray) : textV st (l ++ [n]) = textV st l ++ lineV n (st n) := by
  unfold textV
  rw [List.foldl_append]
  rfl
theorem its_le {n : Int} (h : 0 ≤ n ∧ n ≤ 1099511627776) : (itS n).size ≤ 1099511627777 := by
  obtain ⟨m, rfl⟩ : ∃ m : Nat, n = (m : Int) := ⟨n.toNat, by omega⟩
  have e : itS (m : Int) = bstr (Lib.decDigits m) := by
    unfold itS bstr
    rw [itoa_nat]
  rw [e, size_bstr]
  have := dec_le m
  omega
structure StIn (s : St) : Prop where
  lo : 0 ≤ s.st
  hi : s.st ≤ 2
  ok : s.ok
theorem line_le {n : ByteArray} {s : St} (h : StIn s) (hn : n.size ≤ 2000) : (lineV n s).size ≤ 2199023260000 := by
  have h1 := its_le (n := s.st) ⟨h.lo, by have := h.hi; omega⟩
  have h2 := its_le (n := s.paid) ⟨h.ok.lo, h.ok.hi⟩
  unfold lineV
  simp only [size_app]
  have e1 : (⟨#[100, 101, 97, 108, 32]⟩ : ByteArray).size = 5 := rfl
  have e2 : (⟨#[32, 115, 116, 97, 116, 101, 32]⟩ : ByteArray).size = 7 := rfl
  have e3 : (⟨#[32, 112, 97, 105, 100, 32]⟩ : ByteArray).size = 6 := rfl
  have e4 : (⟨#[10]⟩ : ByteArray).size = 1 := rfl
  omega
theorem text_from {st : ByteArray → St} (hs : ∀ n, StIn (st n)) : ∀ (l : List ByteArray) (a : ByteArray), (∀ n ∈ l, n.size ≤ 2000) → (l.foldl (fun a n => a ++ lineV n (st n)) a).size ≤ a.size + l.length * 2199023260000
  | [], a, _ => by simp
  | n :: l, a, h => by
    rw [List.foldl_cons, List.length_cons]
    have h1 := text_from hs l (a ++ lineV n (st n)) (fun z hz => h z (List.mem_cons_of_mem _ hz))
    have h2 := line_le (hs n) (h n (by simp))
    rw [size_app] at h1
    omega
theorem text_le {st : ByteArray → St} (hs : ∀ n, StIn (st n)) (l : List ByteArray) (h : ∀ n ∈ l, n.size ≤ 2000) : (textV st l).size ≤ l.length * 2199023260000 := by
  have := text_from hs l ⟨#[]⟩ h
  have e : (⟨#[]⟩ : ByteArray).size = 0 := rfl
  rw [e, Nat.zero_add] at this
  exact this
/-- One slot is read first and written last. -/
def LateX (k z : Nat) (u : Value) (done : Nat → Bool) (vs : Nat → Value) (_ : World) : Prop := done k = true → done z = true ∧ vs k = u
theorem lateX_stab {bs : List Bool} {k z : Nat} {u : Value} (hk : isBig bs k = true) : XStab bs (LateX k z u) := by
  intro q hq done vs v W W' h hnd hb hd
  have hne : k ≠ q := by rintro rfl; rw [hk] at hq; cases hq
  rw [up_ne done hne] at hd
  obtain ⟨h1, h2⟩ := h hd
  refine ⟨?_, by rw [upv_ne vs v hne]; exact h2⟩
  unfold upDn
  split
  · rfl
  · exact h1
set_option maxHeartbeats 12800000
theorem rtext_any (s : Su) (nm : ByteArray) (ps : List Pty) (xs : List Dx) (A B : Option Addr) (n c cB : Nat) (of pa : List Int) (st : ByteArray → St) (w : World)
    (hp : SliceOf w 3 ptyC s.pA s.pn ps) (hd : SliceOf w 17 dxC s.dA s.dn xs) (h1 : s.pn ≤ maxLen) (h2 : s.dn ≤ 16) (hA : SliceOf w 1 inC A n of) (hB : SliceOf w 1 inC B n pa)
    (hst : ∀ z (i : Nat), dealI nm (whoV nm ps).1 xs z = (i : Int) → of[i]? = some (st z).st ∧ pa[i]? = some (st z).paid) (hsz : ∀ x ∈ xs, x.d.num.size ≤ 2000) (hin : ∀ z, StIn (st z)) :
    Calls Tryz.prog 10 #[.agg #[.slice s.pA s.pn s.pc, .slice s.dA s.dn s.dc, .slice s.fA s.fn s.fc, .slice s.rA s.rn s.rc, .slice s.hA s.hn s.hc], .string nm, .agg #[.slice A n c, .slice B n cB]] w fun e w' => e = .returned (.string (textV st (numsV nm (whoV nm ps).1 xs))) ∧ Below w.heap.size w w' := by
  have HDI := Lib.hid (fun num W (hb : Below w.heap.size w W) => rdeal_any s nm num ps xs W (hp.below hb) (hd.below hb) h1 (by unfold maxLen; omega))
  have hdl := hd.len
  obtain ⟨pA, pn, pc, dA, dn, dc, fA, fn, fc, rA, rn, rc, hA0, hn0, hc0⟩ := s
  dsimp only at hp hd h1 h2 hdl HDI ⊢
  have HD := Lib.hid hd; have HSA := Lib.hid hA; have HSB := Lib.hid hB; have HIN := Lib.hid hin
  obtain ⟨K, hK⟩ : ∃ K, (whoV nm ps).1 = K := ⟨_, rfl⟩
  rw [hK] at hst ⊢
  simp only [hK] at HDI
  have HST := Lib.hid hst
  have HSZ := Lib.hid hsz
  have HNS : Hid (∀ z ∈ numsV nm K xs, z.size ≤ 2000) := Lib.hid (fun z hz => by
    obtain ⟨i, x, _, hx, e, _⟩ := numsV_at hz
    rw [← e]; exact hsz x (List.mem_of_getElem? hx))
  have HNL : Hid ((numsV nm K xs).length ≤ 16) := Lib.hid (Nat.le_trans (nums_len nm K xs _) (by omega))
  have HB0 : Hid (Below w.heap.size w ((w.alloc (.cells #[.slice pA pn pc, .slice dA dn dc, .slice fA fn fc, .slice rA rn rc, .slice hA0 hn0 hc0] 29)).alloc (.cells #[.slice A n c, .slice B n cB] 37))) := Lib.hid (two_alloc w _ _)
  have HK0 : Hid (Blk ((w.alloc (.cells #[.slice pA pn pc, .slice dA dn dc, .slice fA fn fc, .slice rA rn rc, .slice hA0 hn0 hc0] 29)).alloc (.cells #[.slice A n c, .slice B n cB] 37)) w.heap.size 29 #[.slice pA pn pc, .slice dA dn dc, .slice fA fn fc, .slice rA rn rc, .slice hA0 hn0 hc0]) := Lib.hid ((Blk.new _ _ _).alloc _)
  have HT0 : Hid (Blk ((w.alloc (.cells #[.slice pA pn pc, .slice dA dn dc, .slice fA fn fc, .slice rA rn rc, .slice hA0 hn0 hc0] 29)).alloc (.cells #[.slice A n c, .slice B n cB] 37)) (w.heap.size + 1) 37 #[.slice A n c, .slice B n cB]) := Lib.hid (blk_second _ _ _ _)
  have hE := emp_str
  clear hp hd hA hB hin hst hsz hK h1
  go_enter Tryz.func10, Tryz.ntmps10
  go_upto_region 1 with (fail)
  obtain ⟨w1, hw1⟩ : ∃ W, ((w.alloc (.cells #[.slice pA pn pc, .slice dA dn dc, .slice fA fn fc, .slice rA rn rc, .slice hA0 hn0 hc0] 29)).alloc (.cells #[.slice A n c, .slice B n cB] 37)) = W := ⟨_, rfl⟩
  obtain ⟨g, hg⟩ : ∃ g, w.heap.size = g := ⟨_, rfl⟩
  have HGE := Lib.hid hg
  rw [hw1] at HB0 HK0 HT0 ⊢
  simp only [hg] at HK0 HT0 ⊢
  clear hw1 hg
  have HO1 : Hid (SliceOf (w1.alloc (.cells #[] 9)) 1 strC (some ⟨w1.heap.size, 0, none⟩) 0 (numsF nm K xs 0)) := Lib.hid ⟨rfl, .inl rfl⟩
  have HB1 := Lib.hid (HB0.out.alloc HB0.out.size (.cells #[] 9))
  have HK1 := Lib.hid (HK0.out.alloc (.cells #[] 9))
  have HT1 := Lib.hid (HT0.out.alloc (.cells #[] 9))
  go_wp2_with fail
  clear hE HB0 HK0 HT0
  go_loopw [7, 8] (fun a i wr => ∃ (k L : Nat) (A1 : Option Addr) (c1 : Nat), k ≤ dn ∧ L ≤ k ∧ a = .slice A1 L c1 ∧ i = .int .i64 k ∧ Hid (SliceOf wr 1 strC A1 L (numsF nm K xs k)) ∧ Hid (Below w.heap.size w wr) ∧ Hid (Blk wr g 29 #[.slice pA pn pc, .slice dA dn dc, .slice fA fn fc, .slice rA rn rc, .slice hA0 hn0 hc0]) ∧ Hid (Blk wr (g + 1) 37 #[.slice A n c, .slice B n cB])) (fun _ i _ => dn - (intOf i).toNat)
  case atStart => exact ⟨0, 0, _, _, by omega, by omega, rfl, rfl, HO1, HB1, HK1, HT1⟩
  case round =>
    obtain ⟨k, L, A1, c1, hk, hL, rfl, rfl, HO, HB, HKS, HKT⟩ := hrel
    have s1 := HKS.out.cell 1
    simp only [List.getElem?_toArray, List.getElem?_cons_zero, List.getElem?_cons_succ] at s1
    by_cases hlt : k < dn
    · obtain ⟨b, off, x, hdA, hxk, hc⟩ := el_at (HD.out.below HB.out) hlt
      subst hdA
      have HC := Lib.hid hc
      have HX := Lib.hid hxk
      have i0 : (k : Int) < (dn : Int) := by omega
      have HLT := Lib.hid hlt
      obtain ⟨D, hD⟩ : ∃ D, dealI nm K xs x.d.num = D := ⟨_, rfl⟩
      have HDE := Lib.hid hD
      have HDJ : Hid (∀ W, Below w.heap.size w W → Calls Tryz.prog 8 #[.agg #[.slice pA pn pc, .slice (some ⟨b, off, none⟩) dn dc, .slice fA fn fc, .slice rA rn rc, .slice hA0 hn0 hc0], .string nm, .string x.d.num] W fun e w' => e = .returned (.int .i64 D) ∧ Below W.heap.size W w') := Lib.hid (fun W hb => by have q := HDI.out x.d.num W hb; rw [hD] at q; exact q)
      clear hxk hc hD hlt
      go_upto_region 5 with (fail)
      clear s1
      refine wp_region_soft [Is (.agg #[.slice pA pn pc, .slice (some ⟨b, off, none⟩) dn dc, .slice fA fn fc, .slice rA rn rc, .slice hA0 hn0 hc0]), Is (.string nm), Is (.pointer (some ⟨g, 1, none⟩)), Is (.slice (some ⟨b, off, none⟩) dn dc), Is (.int .i64 (k : Int)), Is (.pointer (some ⟨b, off + k * 17, none⟩)), Is (.pointer (some ⟨b, off + k * 17, none⟩)), Is (.string x.d.num), Is (.int .i64 D), Is (.int .i64 (k : Int)), Is (.bool (D == (k : Int)))] ⟨stab_is _, stab_is _, stab_is _, stab_is _, stab_is _, stab_is _, stab_is _, stab_is _, stab_is _, stab_is _, stab_is _, trivial⟩ (by kernel_rfl) (by kernel_rfl) ?_ ?_
      · refine ⟨?_, ?_, ?_, ?_, ?_, ?_, ?_, ?_, ?_, ?_, ?_, trivial⟩
        all_goals intro done vs ac W1 hdep hB hR hE
        all_goals have ec : ∀ v : Value, ac.eval (.const v) = v := fun _ => rfl
        all_goals try simp [Region.binds] at hdep
        · have e3 : ac.eval (.tmp 3) = .pointer (some ⟨g, 0, none⟩) := (hE 3 (by simp)).trans (by simp [evF, Act.eval])
          exact wp_load_row 29 _ rfl (g) e3 29 _ (0, 0) _ (HKS.out.below hB HKS.out.lt) Tryz.underlying29 rfl (by kernel_rfl) ⟨_, rfl, Below.refl _ _, rfl⟩
        · have e1 : ac.eval (.tmp 1) = .string nm := (hE 1 (by simp)).trans (by simp [evF, Act.eval])
          exact soft_value (.string nm) (by unfold execOp; simp only [e1, ec]; rfl) rfl
        · have e3 : ac.eval (.tmp 3) = .pointer (some ⟨g, 0, none⟩) := (hE 3 (by simp)).trans (by simp [evF, Act.eval])
          exact soft_value (.pointer (some ⟨g, 1, none⟩)) (by unfold execOp; simp only [e3]; kernel_rfl) rfl
        · have d2 : vs 2 = .pointer (some ⟨g, 1, none⟩) := hR 2 (by simp [hdep])
          have e23 : ac.eval (.tmp 23) = .pointer (some ⟨g, 1, none⟩) := (hE 23 (by simp)).trans (by simp [evF, hdep, d2])
          have hc1 : W1.cell? ⟨g, 1, none⟩ = some (.slice (some ⟨b, off, none⟩) dn dc) := (HKS.out.below hB HKS.out.lt).cell 1
          exact soft_value (.slice (some ⟨b, off, none⟩) dn dc) (by unfold execOp; simp only [e23]; go_simp) rfl
        · have e8 : ac.eval (.tmp 8) = .int .i64 (k : Int) := (hE 8 (by simp)).trans (by simp [evF, Act.eval])
          exact soft_value (.int .i64 (k : Int)) (by unfold execOp; simp only [e8, ec]; rfl) rfl
        · have d3 : vs 3 = .slice (some ⟨b, off, none⟩) dn dc := hR 3 (by simp [hdep])
          have e24 : ac.eval (.tmp 24) = .slice (some ⟨b, off, none⟩) dn dc := (hE 24 (by simp)).trans (by simp [evF, hdep, d3])
          have d4 : vs 4 = .int .i64 (k : Int) := hR 4 (by simp [hdep])
          have e25 : ac.eval (.tmp 25) = .int .i64 (k : Int) := (hE 25 (by simp)).trans (by simp [evF, hdep, d4])
          have hix := ixk (w := W1) 23 _ 17 Tryz.underlying23 (by kernel_rfl) b off k dn dc HLT.out
          exact soft_value (.pointer (some ⟨b, off + k * 17, none⟩)) (by simp only [execOp, e24, e25]; simp [hix, Result.andThen]) rfl
        · have d5 : vs 5 = .pointer (some ⟨b, off + k * 17, none⟩) := hR 5 (by simp [hdep])
          have e26 : ac.eval (.tmp 26) = .pointer (some ⟨b, off + k * 17, none⟩) := (hE 26 (by simp)).trans (by simp [evF, hdep, d5])
          exact soft_value (.pointer (some ⟨b, off + k * 17, none⟩)) (by unfold execOp; simp only [e26]; kernel_rfl) rfl
        · have d6 : vs 6 = .pointer (some ⟨b, off + k * 17, none⟩) := hR 6 (by simp [hdep])
          have e27 : ac.eval (.tmp 27) = .pointer (some ⟨b, off + k * 17, none⟩) := (hE 27 (by simp)).trans (by simp [evF, hdep, d6])
          have hcc := (hB.cell (p := ⟨b, off + k * 17, none⟩) (World.block_lt_of_cell? _ _ (HC.out 0 _ rfl))).trans (HC.out 0 _ rfl)
          exact soft_value (.string x.d.num) (by unfold execOp; simp only [e27]; go_simp) rfl
        · have d0 : vs 0 = .agg #[.slice pA pn pc, .slice (some ⟨b, off, none⟩) dn dc, .slice fA fn fc, .slice rA rn rc, .slice hA0 hn0 hc0] := hR 0 (by simp [hdep])
          have e21 : ac.eval (.tmp 21) = .agg #[.slice pA pn pc, .slice (some ⟨b, off, none⟩) dn dc, .slice fA fn fc, .slice rA rn rc, .slice hA0 hn0 hc0] := (hE 21 (by simp)).trans (by simp [evF, hdep, d0])
          have d1 : vs 1 = .string nm := hR 1 (by simp [hdep])
          have e22 : ac.eval (.tmp 22) = .string nm := (hE 22 (by simp)).trans (by simp [evF, hdep, d1])
          have d7 : vs 7 = .string x.d.num := hR 7 (by simp [hdep])
          have e28 : ac.eval (.tmp 28) = .string x.d.num := (hE 28 (by simp)).trans (by simp [evF, hdep, d7])
          refine soft_call 8 _ _ rfl (enters_fn Tryz.func8 (by kernel_rfl) rfl) #[.agg #[.slice pA pn pc, .slice (some ⟨b, off, none⟩) dn dc, .slice fA fn fc, .slice rA rn rc, .slice hA0 hn0 hc0], .string nm, .string x.d.num] (by simp [e21, e22, e28, ec]) ?_
          refine (HDJ.out W1 (HB.out.trans (hB.mono HB.out.size))).mono ?_
          rintro e9 w9 ⟨rfl, hb9⟩
          exact ⟨_, rfl, hb9, rfl⟩
        · have e8 : ac.eval (.tmp 8) = .int .i64 (k : Int) := (hE 8 (by simp)).trans (by simp [evF, Act.eval])
          exact soft_value (.int .i64 (k : Int)) (by unfold execOp; simp only [e8, ec]; rfl) rfl
        · have d8 : vs 8 = .int .i64 D := hR 8 (by simp [hdep])
          have e29 : ac.eval (.tmp 29) = .int .i64 D := (hE 29 (by simp)).trans (by simp [evF, hdep, d8])
          have d9 : vs 9 = .int .i64 (k : Int) := hR 9 (by simp [hdep])
          have e30 : ac.eval (.tmp 30) = .int .i64 (k : Int) := (hE 30 (by simp)).trans (by simp [evF, hdep, d9])
          exact soft_value (.bool (D == (k : Int))) (by unfold execOp; simp only [e29, e30]; go_simp) rfl
      · intro vs W hB hR
        have r10 : vs 10 = .bool (D == (k : Int)) := hR 10 (by simp)
        have HB2 := Lib.hid (HB.out.trans (hB.mono HB.out.size))
        have HK2 := Lib.hid (HKS.out.below hB HKS.out.lt)
        have HT2 := Lib.hid (HKT.out.below hB HKT.out.lt)
        have HO2 := Lib.hid (HO.out.below hB)
        clear hR hB HB HKS HKT HO
        simp only [fillA, Act.put, List.setIfInBounds_toArray, List.set_cons_zero, List.set_cons_succ, if_true, r10]
        clear r10
        by_cases hDk : D = (k : Int)
        · have q1 : (D == (k : Int)) = true := by simp [hDk]
          have HE : Hid (numsF nm K xs (k + 1) = putS (numsF nm K xs k) x.d.num) := Lib.hid (by rw [nums_step HX.out, if_pos (HDE.out.trans hDk)])
          have HPU := Lib.hid (rput_any A1 L c1 (numsF nm K xs k) x.d.num W HO2.out (by omega) (nums_ris nm K xs k))
          clear hDk
          have s1 := HK2.out.cell 1
          have x0 : W.cell? ⟨b, off + k * 17, none⟩ = some (.string x.d.num) := by
            obtain ⟨b', off', x', e1, e2, e3⟩ := el_at (HD.out.below HB2.out) HLT.out
            injection e1 with e1
            injection e1 with e1 e4
            rw [HX.out] at e2
            injection e2 with e2
            rw [e1, e4, e2]; exact e3 0 _ rfl
          simp only [List.getElem?_toArray, List.getElem?_cons_zero, List.getElem?_cons_succ] at s1
          go_wp2_with fail
          refine HPU.out.mono ?_
          rintro e w6 ⟨A6, c6, rfl, hs6, hb6⟩
          have HO6 : Hid (SliceOf w6 1 strC A6 (putS (numsF nm K xs k) x.d.num).length (numsF nm K xs (k + 1))) := Lib.hid (by rw [HE.out]; exact hs6)
          have HB6 := Lib.hid (HB2.out.trans (hb6.mono HB2.out.size))
          have HK6 := Lib.hid (HK2.out.below hb6 HK2.out.lt)
          have HT6 := Lib.hid (HT2.out.below hb6 HT2.out.lt)
          have hL6 : (putS (numsF nm K xs k) x.d.num).length ≤ k + 1 := by rw [← HE.out]; exact nums_len nm K xs (k + 1)
          obtain ⟨L6, hL7⟩ : ∃ L6, (putS (numsF nm K xs k) x.d.num).length = L6 := ⟨_, rfl⟩
          rw [hL7] at HO6 hL6
          simp only [hL7]
          clear hs6 hb6 x0 s1 HPU hL7
          go_wp2_with fail
          go_roundw
          case rel => exact ⟨k + 1, L6, A6, c6, by omega, hL6, rfl, by go_num, HO6, HB6, HK6, HT6⟩
          case measure => simp [intOf]; omega
        · have q1 : (D == (k : Int)) = false := by simpa using hDk
          have HO3 : Hid (SliceOf W 1 strC A1 L (numsF nm K xs (k + 1))) := Lib.hid (by rw [nums_step HX.out, if_neg (fun h => hDk (HDE.out.symm.trans h))]; exact HO2.out)
          clear hDk
          go_wp2_with fail
          go_roundw
          case rel => exact ⟨k + 1, L, A1, c1, by omega, by omega, rfl, by go_num, HO3, HB2, HK2, HT2⟩
          case measure => simp [intOf]; omega
    · have i0 : ¬ (k : Int) < (dn : Int) := by omega
      have hkd : dn = k := by omega
      subst hkd
      have HV : Hid (numsF nm K xs dn = numsV nm K xs) := Lib.hid (by unfold numsV; rw [hdl])
      rw [HV.out] at HO
      obtain ⟨l, hl⟩ : ∃ l, numsV nm K xs = l := ⟨_, rfl⟩
      rw [hl] at HO HNS HNL
      have HLE : Hid (∀ z ∈ l, z ∈ numsV nm K xs) := Lib.hid (fun z hz => by rw [hl]; exact hz)
      have HLV := Lib.hid hl
      have hll := HO.out.len
      clear hl HV
      go_wp2_with fail
      clear s1
      go_loopw [9, 42] (fun a i wr => ∃ (j : Nat) (out : ByteArray), j ≤ L ∧ a = .string out ∧ i = .int .i64 j ∧ Hid (out = textV st (l.take j)) ∧ Hid (Below w.heap.size w wr) ∧ Hid (SliceOf wr 1 strC A1 L l) ∧ Hid (Blk wr g 29 #[.slice pA pn pc, .slice dA dn dc, .slice fA fn fc, .slice rA rn rc, .slice hA0 hn0 hc0]) ∧ Hid (Blk wr (g + 1) 37 #[.slice A n c, .slice B n cB])) (fun _ i _ => L - (intOf i).toNat)
      case atStart => exact ⟨0, _, by omega, rfl, rfl, Lib.hid rfl, HB, HO, HKS, HKT⟩
      case round =>
        clear HO HB HKS HKT
        obtain ⟨j, out, hj, rfl, rfl, hout, HB, HO, HKS, HKT⟩ := hrel
        by_cases hlt : j < L
        · obtain ⟨b, off, z, rfl, hz, z0⟩ := get_str HO.out hlt
          have i0' : (j : Int) < (L : Int) := by omega
          obtain ⟨iz, x, hiz, hxz, hxn, _⟩ := numsV_at (HLE.out z (List.mem_of_getElem? hz))
          obtain ⟨f1, f2⟩ := HST.out z iz hiz
          have hizn : iz < n := by have := (List.getElem?_eq_some_iff.1 f1).1; have := HSA.out.len; omega
          obtain ⟨bA, oA, rfl, hAL, hcA⟩ := HSA.out.at_ (by omega)
          obtain ⟨bB, oB, rfl, hBL, hcB⟩ := HSB.out.at_ (by omega)
          have HCA : Hid (w.cell? ⟨bA, oA + iz, none⟩ = some (.int .i64 (st z).st)) := Lib.hid (by have := hcA iz _ f1 0 _ rfl; simpa using this)
          have HCB : Hid (w.cell? ⟨bB, oB + iz, none⟩ = some (.int .i64 (st z).paid)) := Lib.hid (by have := hcB iz _ f2 0 _ rfl; simpa using this)
          have HAL := Lib.hid hAL; have HBL := Lib.hid hBL; have HIZ := Lib.hid hizn
          have HDJ : Hid (∀ W, Below w.heap.size w W → Calls Tryz.prog 8 #[.agg #[.slice pA pn pc, .slice dA dn dc, .slice fA fn fc, .slice rA rn rc, .slice hA0 hn0 hc0], .string nm, .string z] W fun e w' => e = .returned (.int .i64 (iz : Int)) ∧ Below W.heap.size W w') := Lib.hid (fun W hb => by have q := HDI.out z W hb; rw [hiz] at q; exact q)
          have HTK : Hid (textV st (l.take (j + 1)) = out ++ lineV z (st z)) := Lib.hid (by rw [hout.out, takeSn hz, text_snoc])
          obtain ⟨S, hS⟩ : ∃ S, st z = S := ⟨_, rfl⟩
          rw [hS] at HCA HCB HTK
          have HSI : Hid (StIn S) := Lib.hid (by rw [← hS]; exact HIN.out z)
          have HSL : Hid (z.size ≤ 2000 ∧ (itS S.st).size ≤ 1099511627777 ∧ (itS S.paid).size ≤ 1099511627777 ∧ out.size ≤ 16 * 2199023260000) := Lib.hid ⟨HNS.out z (List.mem_of_getElem? hz), its_le ⟨HSI.out.lo, by have := HSI.out.hi; omega⟩, its_le ⟨HSI.out.ok.lo, HSI.out.ok.hi⟩, by
            rw [hout.out]
            refine Nat.le_trans (text_le HIN.out (l.take j) (fun y hy => HNS.out y (List.mem_of_mem_take hy))) (Nat.mul_le_mul_right _ ?_)
            rw [List.length_take]; have := HNL.out; omega⟩
          clear hz hiz hxz hxn f1 f2 hcA hcB hS hAL hBL hizn hout
          go_wp2_with ((refine stop_load 29 _ rfl ?_; refine wpList_load_want rfl 29 _ rfl g rfl 29 _ _ HKS.out Tryz.underlying29 rfl (by kernel_rfl) ?_))
          refine (HDJ.out _ HB.out).mono ?_
          rintro e w7 ⟨rfl, hb7⟩
          have HB7 := Lib.hid (HB.out.trans (hb7.mono HB.out.size))
          have HK7 := Lib.hid (HKS.out.below hb7 HKS.out.lt)
          have HT7 := Lib.hid (HKT.out.below hb7 HKT.out.lt)
          have HO7 := Lib.hid (HO.out.below hb7)
          clear hb7 z0 HB HKS HKT HO
          go_upto_region 12 with (fail)
          refine wp_region_softX [Is (.string out), Is (.string z), Is (.string ((⟨#[100, 101, 97, 108, 32]⟩ : ByteArray) ++ (z : ByteArray))), Is (.string ((((⟨#[100, 101, 97, 108, 32]⟩ : ByteArray) ++ (z : ByteArray)) : ByteArray) ++ (⟨#[32, 115, 116, 97, 116, 101, 32]⟩ : ByteArray))), Is (.pointer (some ⟨g + 1, 0, none⟩)), Is (.slice (some ⟨bA, oA, none⟩) n c), Is (.int .i64 (iz : Int)), Is (.pointer (some ⟨bA, oA + iz, none⟩)), Is (.int .i64 S.st), Is (.string (itS S.st)), Is (.string ((((((⟨#[100, 101, 97, 108, 32]⟩ : ByteArray) ++ (z : ByteArray)) : ByteArray) ++ (⟨#[32, 115, 116, 97, 116, 101, 32]⟩ : ByteArray)) : ByteArray) ++ ((itS S.st) : ByteArray))), Is (.string ((((((((⟨#[100, 101, 97, 108, 32]⟩ : ByteArray) ++ (z : ByteArray)) : ByteArray) ++ (⟨#[32, 115, 116, 97, 116, 101, 32]⟩ : ByteArray)) : ByteArray) ++ ((itS S.st) : ByteArray)) : ByteArray) ++ (⟨#[32, 112, 97, 105, 100, 32]⟩ : ByteArray))), Is (.pointer (some ⟨g + 1, 1, none⟩)), Is (.slice (some ⟨bB, oB, none⟩) n cB), Is (.int .i64 (iz : Int)), Is (.pointer (some ⟨bB, oB + iz, none⟩)), Is (.int .i64 S.paid), Is (.string (itS S.paid)), Is (.string ((((((((((⟨#[100, 101, 97, 108, 32]⟩ : ByteArray) ++ (z : ByteArray)) : ByteArray) ++ (⟨#[32, 115, 116, 97, 116, 101, 32]⟩ : ByteArray)) : ByteArray) ++ ((itS S.st) : ByteArray)) : ByteArray) ++ (⟨#[32, 112, 97, 105, 100, 32]⟩ : ByteArray)) : ByteArray) ++ ((itS S.paid) : ByteArray))), Is (.string ((((((((((((⟨#[100, 101, 97, 108, 32]⟩ : ByteArray) ++ (z : ByteArray)) : ByteArray) ++ (⟨#[32, 115, 116, 97, 116, 101, 32]⟩ : ByteArray)) : ByteArray) ++ ((itS S.st) : ByteArray)) : ByteArray) ++ (⟨#[32, 112, 97, 105, 100, 32]⟩ : ByteArray)) : ByteArray) ++ ((itS S.paid) : ByteArray)) : ByteArray) ++ (⟨#[10]⟩ : ByteArray))), Is (.string ((out : ByteArray) ++ (((((((((((((⟨#[100, 101, 97, 108, 32]⟩ : ByteArray) ++ (z : ByteArray)) : ByteArray) ++ (⟨#[32, 115, 116, 97, 116, 101, 32]⟩ : ByteArray)) : ByteArray) ++ ((itS S.st) : ByteArray)) : ByteArray) ++ (⟨#[32, 112, 97, 105, 100, 32]⟩ : ByteArray)) : ByteArray) ++ ((itS S.paid) : ByteArray)) : ByteArray) ++ (⟨#[10]⟩ : ByteArray)) : ByteArray))), AnyV] ⟨stab_is _, stab_is _, stab_is _, stab_is _, stab_is _, stab_is _, stab_is _, stab_is _, stab_is _, stab_is _, stab_is _, stab_is _, stab_is _, stab_is _, stab_is _, stab_is _, stab_is _, stab_is _, stab_is _, stab_is _, stab_is _, stab_anyv, trivial⟩ (fun _ => False) ⟨stabf_is _ _, stabf_is _ _, stabf_is _ _, stabf_is _ _, stabf_is _ _, stabf_is _ _, stabf_is _ _, stabf_is _ _, stabf_is _ _, stabf_is _ _, stabf_is _ _, stabf_is _ _, stabf_is _ _, stabf_is _ _, stabf_is _ _, stabf_is _ _, stabf_is _ _, stabf_is _ _, stabf_is _ _, stabf_is _ _, stabf_is _ _, stabf_anyv _, trivial⟩ [false, false, false, false, false, false, false, false, false, false, false, false, false, false, false, false, false, false, false, false, false, true] (LateX 21 0 (.string (out ++ lineV z S))) (lateX_stab rfl) (fun h => (by cases h)) (by kernel_rfl) (by kernel_rfl) ?_ ?_
          · refine ⟨?_, ?_, ?_, ?_, ?_, ?_, ?_, ?_, ?_, ?_, ?_, ?_, ?_, ?_, ?_, ?_, ?_, ?_, ?_, ?_, ?_, ?_, trivial⟩
            all_goals intro done vs ac W1 hdep hnd hB hR hX hE
            all_goals try simp only [Nat.zero_add, Nat.reduceAdd] at hnd ⊢
            all_goals have ec : ∀ v : Value, ac.eval (.const v) = v := fun _ => rfl
            all_goals try simp [Region.binds] at hdep
            · have h21 : done 21 = false := not_of (fun h => (hX h).1) hnd
              have e9 : ac.eval (.tmp 9) = .string out := (hE 9 (by simp)).trans (by simp [evF, Act.eval, h21])
              exact soft_value (.string out) (by unfold execOp; simp only [e9, ec]; rfl) rfl
            · have e11 : ac.eval (.tmp 11) = .string z := (hE 11 (by simp)).trans (by simp [evF, Act.eval])
              exact soft_value (.string z) (by unfold execOp; simp only [e11, ec]; rfl) rfl
            · have d1 : vs 1 = .string z := hR 1 (by simp [hdep])
              have e51 : ac.eval (.tmp 51) = .string z := (hE 51 (by simp)).trans (by simp [evF, hdep, d1])
              exact soft_value (.string ((⟨#[100, 101, 97, 108, 32]⟩ : ByteArray) ++ (z : ByteArray))) (by have := HSL.out; unfold execOp; simp only [e51, ec]; go_simp; omega) rfl
            · have d2 : vs 2 = .string ((⟨#[100, 101, 97, 108, 32]⟩ : ByteArray) ++ (z : ByteArray)) := hR 2 (by simp [hdep])
              have e52 : ac.eval (.tmp 52) = .string ((⟨#[100, 101, 97, 108, 32]⟩ : ByteArray) ++ (z : ByteArray)) := (hE 52 (by simp)).trans (by simp [evF, hdep, d2])
              exact soft_value (.string ((((⟨#[100, 101, 97, 108, 32]⟩ : ByteArray) ++ (z : ByteArray)) : ByteArray) ++ (⟨#[32, 115, 116, 97, 116, 101, 32]⟩ : ByteArray))) (by have := HSL.out; unfold execOp; simp only [e52, ec]; go_simp; omega) rfl
            · have e5 : ac.eval (.tmp 5) = .pointer (some ⟨g + 1, 0, none⟩) := (hE 5 (by simp)).trans (by simp [evF, Act.eval])
              exact soft_value (.pointer (some ⟨g + 1, 0, none⟩)) (by unfold execOp; simp only [e5]; kernel_rfl) rfl
            · have d4 : vs 4 = .pointer (some ⟨g + 1, 0, none⟩) := hR 4 (by simp [hdep])
              have e54 : ac.eval (.tmp 54) = .pointer (some ⟨g + 1, 0, none⟩) := (hE 54 (by simp)).trans (by simp [evF, hdep, d4])
              have hc0 : W1.cell? ⟨g + 1, 0, none⟩ = some (.slice (some ⟨bA, oA, none⟩) n c) := (HT7.out.fr hB (fun h => h)).cell 0
              exact soft_value (.slice (some ⟨bA, oA, none⟩) n c) (by unfold execOp; simp only [e54]; go_simp) rfl
            · have e12 : ac.eval (.tmp 12) = .int .i64 (iz : Int) := (hE 12 (by simp)).trans (by simp [evF, Act.eval])
              exact soft_value (.int .i64 (iz : Int)) (by unfold execOp; simp only [e12, ec]; rfl) rfl
            · have d5 : vs 5 = .slice (some ⟨bA, oA, none⟩) n c := hR 5 (by simp [hdep])
              have e55 : ac.eval (.tmp 55) = .slice (some ⟨bA, oA, none⟩) n c := (hE 55 (by simp)).trans (by simp [evF, hdep, d5])
              have d6 : vs 6 = .int .i64 (iz : Int) := hR 6 (by simp [hdep])
              have e56 : ac.eval (.tmp 56) = .int .i64 (iz : Int) := (hE 56 (by simp)).trans (by simp [evF, hdep, d6])
              have hix := ixk (w := W1) 25 _ 1 Tryz.underlying25 (by kernel_rfl) bA oA iz n c HIZ.out
              rw [Nat.mul_one] at hix
              exact soft_value (.pointer (some ⟨bA, oA + iz, none⟩)) (by simp only [execOp, e55, e56]; simp [hix, Result.andThen]) rfl
            · have d7 : vs 7 = .pointer (some ⟨bA, oA + iz, none⟩) := hR 7 (by simp [hdep])
              have e57 : ac.eval (.tmp 57) = .pointer (some ⟨bA, oA + iz, none⟩) := (hE 57 (by simp)).trans (by simp [evF, hdep, d7])
              have hcc := cell_fr ((HB7.out.cell (p := ⟨bA, oA + iz, none⟩) HAL.out).trans HCA.out) hB (fun h => h)
              exact soft_value (.int .i64 S.st) (by unfold execOp; simp only [e57]; go_simp) rfl
            · have d8 : vs 8 = .int .i64 S.st := hR 8 (by simp [hdep])
              have e58 : ac.eval (.tmp 58) = .int .i64 S.st := (hE 58 (by simp)).trans (by simp [evF, hdep, d8])
              refine soft_call 27 _ _ rfl (enters_fn Tryz.func27 (by kernel_rfl) rfl) #[.int .i64 S.st] (by simp [e58, ec]) ?_
              refine (rdig_any S.st ⟨by have := HSI.out.lo; omega, by have := HSI.out.hi; omega⟩ W1).mono ?_
              rintro e9 w9 ⟨rfl, hb9⟩
              exact ⟨_, rfl, hb9, rfl⟩
            · have d3 : vs 3 = .string ((((⟨#[100, 101, 97, 108, 32]⟩ : ByteArray) ++ (z : ByteArray)) : ByteArray) ++ (⟨#[32, 115, 116, 97, 116, 101, 32]⟩ : ByteArray)) := hR 3 (by simp [hdep])
              have e53 : ac.eval (.tmp 53) = .string ((((⟨#[100, 101, 97, 108, 32]⟩ : ByteArray) ++ (z : ByteArray)) : ByteArray) ++ (⟨#[32, 115, 116, 97, 116, 101, 32]⟩ : ByteArray)) := (hE 53 (by simp)).trans (by simp [evF, hdep, d3])
              have d9 : vs 9 = .string (itS S.st) := hR 9 (by simp [hdep])
              have e59 : ac.eval (.tmp 59) = .string (itS S.st) := (hE 59 (by simp)).trans (by simp [evF, hdep, d9])
              exact soft_value (.string ((((((⟨#[100, 101, 97, 108, 32]⟩ : ByteArray) ++ (z : ByteArray)) : ByteArray) ++ (⟨#[32, 115, 116, 97, 116, 101, 32]⟩ : ByteArray)) : ByteArray) ++ ((itS S.st) : ByteArray))) (by have := HSL.out; unfold execOp; simp only [e53, e59, ec]; go_simp; omega) rfl
            · have d10 : vs 10 = .string ((((((⟨#[100, 101, 97, 108, 32]⟩ : ByteArray) ++ (z : ByteArray)) : ByteArray) ++ (⟨#[32, 115, 116, 97, 116, 101, 32]⟩ : ByteArray)) : ByteArray) ++ ((itS S.st) : ByteArray)) := hR 10 (by simp [hdep])
              have e60 : ac.eval (.tmp 60) = .string ((((((⟨#[100, 101, 97, 108, 32]⟩ : ByteArray) ++ (z : ByteArray)) : ByteArray) ++ (⟨#[32, 115, 116, 97, 116, 101, 32]⟩ : ByteArray)) : ByteArray) ++ ((itS S.st) : ByteArray)) := (hE 60 (by simp)).trans (by simp [evF, hdep, d10])
              exact soft_value (.string ((((((((⟨#[100, 101, 97, 108, 32]⟩ : ByteArray) ++ (z : ByteArray)) : ByteArray) ++ (⟨#[32, 115, 116, 97, 116, 101, 32]⟩ : ByteArray)) : ByteArray) ++ ((itS S.st) : ByteArray)) : ByteArray) ++ (⟨#[32, 112, 97, 105, 100, 32]⟩ : ByteArray))) (by have := HSL.out; unfold execOp; simp only [e60, ec]; go_simp; omega) rfl
            · have e5 : ac.eval (.tmp 5) = .pointer (some ⟨g + 1, 0, none⟩) := (hE 5 (by simp)).trans (by simp [evF, Act.eval])
              exact soft_value (.pointer (some ⟨g + 1, 1, none⟩)) (by unfold execOp; simp only [e5]; kernel_rfl) rfl
            · have d12 : vs 12 = .pointer (some ⟨g + 1, 1, none⟩) := hR 12 (by simp [hdep])
              have e62 : ac.eval (.tmp 62) = .pointer (some ⟨g + 1, 1, none⟩) := (hE 62 (by simp)).trans (by simp [evF, hdep, d12])
              have hc1 : W1.cell? ⟨g + 1, 1, none⟩ = some (.slice (some ⟨bB, oB, none⟩) n cB) := (HT7.out.fr hB (fun h => h)).cell 1
              exact soft_value (.slice (some ⟨bB, oB, none⟩) n cB) (by unfold execOp; simp only [e62]; go_simp) rfl
            · have e12 : ac.eval (.tmp 12) = .int .i64 (iz : Int) := (hE 12 (by simp)).trans (by simp [evF, Act.eval])
              exact soft_value (.int .i64 (iz : Int)) (by unfold execOp; simp only [e12, ec]; rfl) rfl
            · have d13 : vs 13 = .slice (some ⟨bB, oB, none⟩) n cB := hR 13 (by simp [hdep])
              have e63 : ac.eval (.tmp 63) = .slice (some ⟨bB, oB, none⟩) n cB := (hE 63 (by simp)).trans (by simp [evF, hdep, d13])
              have d14 : vs 14 = .int .i64 (iz : Int) := hR 14 (by simp [hdep])
              have e64 : ac.eval (.tmp 64) = .int .i64 (iz : Int) := (hE 64 (by simp)).trans (by simp [evF, hdep, d14])
              have hix := ixk (w := W1) 35 _ 1 Tryz.underlying35 (by kernel_rfl) bB oB iz n cB HIZ.out
              rw [Nat.mul_one] at hix
              exact soft_value (.pointer (some ⟨bB, oB + iz, none⟩)) (by simp only [execOp, e63, e64]; simp [hix, Result.andThen]) rfl
            · have d15 : vs 15 = .pointer (some ⟨bB, oB + iz, none⟩) := hR 15 (by simp [hdep])
              have e65 : ac.eval (.tmp 65) = .pointer (some ⟨bB, oB + iz, none⟩) := (hE 65 (by simp)).trans (by simp [evF, hdep, d15])
              have hcc := cell_fr ((HB7.out.cell (p := ⟨bB, oB + iz, none⟩) HBL.out).trans HCB.out) hB (fun h => h)
              exact soft_value (.int .i64 S.paid) (by unfold execOp; simp only [e65]; go_simp) rfl
            · have d16 : vs 16 = .int .i64 S.paid := hR 16 (by simp [hdep])
              have e66 : ac.eval (.tmp 66) = .int .i64 S.paid := (hE 66 (by simp)).trans (by simp [evF, hdep, d16])
              refine soft_call 27 _ _ rfl (enters_fn Tryz.func27 (by kernel_rfl) rfl) #[.int .i64 S.paid] (by simp [e66, ec]) ?_
              refine (rdig_any S.paid ⟨by have := HSI.out.ok.lo; omega, by have := HSI.out.ok.hi; omega⟩ W1).mono ?_
              rintro e9 w9 ⟨rfl, hb9⟩
              exact ⟨_, rfl, hb9, rfl⟩
            · have d11 : vs 11 = .string ((((((((⟨#[100, 101, 97, 108, 32]⟩ : ByteArray) ++ (z : ByteArray)) : ByteArray) ++ (⟨#[32, 115, 116, 97, 116, 101, 32]⟩ : ByteArray)) : ByteArray) ++ ((itS S.st) : ByteArray)) : ByteArray) ++ (⟨#[32, 112, 97, 105, 100, 32]⟩ : ByteArray)) := hR 11 (by simp [hdep])
              have e61 : ac.eval (.tmp 61) = .string ((((((((⟨#[100, 101, 97, 108, 32]⟩ : ByteArray) ++ (z : ByteArray)) : ByteArray) ++ (⟨#[32, 115, 116, 97, 116, 101, 32]⟩ : ByteArray)) : ByteArray) ++ ((itS S.st) : ByteArray)) : ByteArray) ++ (⟨#[32, 112, 97, 105, 100, 32]⟩ : ByteArray)) := (hE 61 (by simp)).trans (by simp [evF, hdep, d11])
              have d17 : vs 17 = .string (itS S.paid) := hR 17 (by simp [hdep])
              have e67 : ac.eval (.tmp 67) = .string (itS S.paid) := (hE 67 (by simp)).trans (by simp [evF, hdep, d17])
              exact soft_value (.string ((((((((((⟨#[100, 101, 97, 108, 32]⟩ : ByteArray) ++ (z : ByteArray)) : ByteArray) ++ (⟨#[32, 115, 116, 97, 116, 101, 32]⟩ : ByteArray)) : ByteArray) ++ ((itS S.st) : ByteArray)) : ByteArray) ++ (⟨#[32, 112, 97, 105, 100, 32]⟩ : ByteArray)) : ByteArray) ++ ((itS S.paid) : ByteArray))) (by have := HSL.out; unfold execOp; simp only [e61, e67, ec]; go_simp; omega) rfl
            · have d18 : vs 18 = .string ((((((((((⟨#[100, 101, 97, 108, 32]⟩ : ByteArray) ++ (z : ByteArray)) : ByteArray) ++ (⟨#[32, 115, 116, 97, 116, 101, 32]⟩ : ByteArray)) : ByteArray) ++ ((itS S.st) : ByteArray)) : ByteArray) ++ (⟨#[32, 112, 97, 105, 100, 32]⟩ : ByteArray)) : ByteArray) ++ ((itS S.paid) : ByteArray)) := hR 18 (by simp [hdep])
              have e68 : ac.eval (.tmp 68) = .string ((((((((((⟨#[100, 101, 97, 108, 32]⟩ : ByteArray) ++ (z : ByteArray)) : ByteArray) ++ (⟨#[32, 115, 116, 97, 116, 101, 32]⟩ : ByteArray)) : ByteArray) ++ ((itS S.st) : ByteArray)) : ByteArray) ++ (⟨#[32, 112, 97, 105, 100, 32]⟩ : ByteArray)) : ByteArray) ++ ((itS S.paid) : ByteArray)) := (hE 68 (by simp)).trans (by simp [evF, hdep, d18])
              exact soft_value (.string ((((((((((((⟨#[100, 101, 97, 108, 32]⟩ : ByteArray) ++ (z : ByteArray)) : ByteArray) ++ (⟨#[32, 115, 116, 97, 116, 101, 32]⟩ : ByteArray)) : ByteArray) ++ ((itS S.st) : ByteArray)) : ByteArray) ++ (⟨#[32, 112, 97, 105, 100, 32]⟩ : ByteArray)) : ByteArray) ++ ((itS S.paid) : ByteArray)) : ByteArray) ++ (⟨#[10]⟩ : ByteArray))) (by have := HSL.out; unfold execOp; simp only [e68, ec]; go_simp; omega) rfl
            · have d0 : vs 0 = .string out := hR 0 (by simp [hdep])
              have e50 : ac.eval (.tmp 50) = .string out := (hE 50 (by simp)).trans (by simp [evF, hdep, d0])
              have d19 : vs 19 = .string ((((((((((((⟨#[100, 101, 97, 108, 32]⟩ : ByteArray) ++ (z : ByteArray)) : ByteArray) ++ (⟨#[32, 115, 116, 97, 116, 101, 32]⟩ : ByteArray)) : ByteArray) ++ ((itS S.st) : ByteArray)) : ByteArray) ++ (⟨#[32, 112, 97, 105, 100, 32]⟩ : ByteArray)) : ByteArray) ++ ((itS S.paid) : ByteArray)) : ByteArray) ++ (⟨#[10]⟩ : ByteArray)) := hR 19 (by simp [hdep])
              have e69 : ac.eval (.tmp 69) = .string ((((((((((((⟨#[100, 101, 97, 108, 32]⟩ : ByteArray) ++ (z : ByteArray)) : ByteArray) ++ (⟨#[32, 115, 116, 97, 116, 101, 32]⟩ : ByteArray)) : ByteArray) ++ ((itS S.st) : ByteArray)) : ByteArray) ++ (⟨#[32, 112, 97, 105, 100, 32]⟩ : ByteArray)) : ByteArray) ++ ((itS S.paid) : ByteArray)) : ByteArray) ++ (⟨#[10]⟩ : ByteArray)) := (hE 69 (by simp)).trans (by simp [evF, hdep, d19])
              exact soft_value (.string ((out : ByteArray) ++ (((((((((((((⟨#[100, 101, 97, 108, 32]⟩ : ByteArray) ++ (z : ByteArray)) : ByteArray) ++ (⟨#[32, 115, 116, 97, 116, 101, 32]⟩ : ByteArray)) : ByteArray) ++ ((itS S.st) : ByteArray)) : ByteArray) ++ (⟨#[32, 112, 97, 105, 100, 32]⟩ : ByteArray)) : ByteArray) ++ ((itS S.paid) : ByteArray)) : ByteArray) ++ (⟨#[10]⟩ : ByteArray)) : ByteArray))) (by have := HSL.out; unfold execOp; simp only [e50, e69, ec]; go_simp; omega) rfl
            · have d20 : vs 20 = .string ((out : ByteArray) ++ (((((((((((((⟨#[100, 101, 97, 108, 32]⟩ : ByteArray) ++ (z : ByteArray)) : ByteArray) ++ (⟨#[32, 115, 116, 97, 116, 101, 32]⟩ : ByteArray)) : ByteArray) ++ ((itS S.st) : ByteArray)) : ByteArray) ++ (⟨#[32, 112, 97, 105, 100, 32]⟩ : ByteArray)) : ByteArray) ++ ((itS S.paid) : ByteArray)) : ByteArray) ++ (⟨#[10]⟩ : ByteArray)) : ByteArray)) := hR 20 (by simp [hdep])
              have e70 : ac.eval (.tmp 70) = .string ((out : ByteArray) ++ (((((((((((((⟨#[100, 101, 97, 108, 32]⟩ : ByteArray) ++ (z : ByteArray)) : ByteArray) ++ (⟨#[32, 115, 116, 97, 116, 101, 32]⟩ : ByteArray)) : ByteArray) ++ ((itS S.st) : ByteArray)) : ByteArray) ++ (⟨#[32, 112, 97, 105, 100, 32]⟩ : ByteArray)) : ByteArray) ++ ((itS S.paid) : ByteArray)) : ByteArray) ++ (⟨#[10]⟩ : ByteArray)) : ByteArray)) := (hE 70 (by simp)).trans (by simp [evF, hdep, d20])
              exact wp_value (.string (out ++ lineV z S)) (by unfold execOp; simp only [e70]; rfl) ⟨_, rfl, Fr.refl _ _, (fun _ => ⟨(up_ne done (by decide)).trans (by simp [hdep]), upv_same _ _ _⟩), trivial⟩
          · intro done vs W hall hB0 hR hX
            have hB : Below w7.heap.size w7 W := hB0.bel (Below.refl _ _) (fun k h => h.elim) (Nat.le_refl _)
            have r21 : vs 21 = .string (out ++ lineV z S) := (hX (hall 21 (by simp))).2
            rw [← HTK.out] at r21
            have HB8 := Lib.hid (HB7.out.trans (hB.mono HB7.out.size))
            have HK8 := Lib.hid (HK7.out.below hB HK7.out.lt)
            have HT8 := Lib.hid (HT7.out.below hB HT7.out.lt)
            have HO8 := Lib.hid (HO7.out.below hB)
            clear hR hB hB0 hX hall HB7 HK7 HT7 HO7
            simp only [fillA, Act.put, List.setIfInBounds_toArray, List.set_cons_zero, List.set_cons_succ, if_true, r21]
            clear r21
            go_wp2_with fail
            go_roundw
            case rel => exact ⟨j + 1, _, by omega, rfl, by go_num, Lib.hid rfl, HB8, HO8, HK8, HT8⟩
            case measure => simp [intOf]; omega
        · have i0' : ¬ (j : Int) < (L : Int) := by omega
          have HE : Hid (out = textV st l) := Lib.hid (by rw [hout.out, List.take_of_length_le (by omega)])
          go_wp2_with fail
          go_ret
          exact ⟨by rw [HLV.out, ← HE.out]; rfl, HB.out⟩
end Go.Proofs.YtdanjegnhdpnlaaGreatDoor.kit

namespace Go.Proofs.YtdanjegnhdpnlaaGreatDoor.kit
open Go.RowKit Go.PlainAid
set_option linter.unusedVariables false
set_option linter.unusedSimpArgs false
set_option maxRecDepth 100000
set_option maxHeartbeats 6400000
theorem rtake_none (s : Su) (nm : ByteArray) (ps : List Pty) (xs : List Dx) (A B : Option Addr) (n c cB : Nat) (l : Lt) (dy : Int) (w : World)
    (hp : SliceOf w 3 ptyC s.pA s.pn ps) (hd : SliceOf w 17 dxC s.dA s.dn xs) (h1 : s.pn ≤ maxLen) (h2 : s.dn ≤ maxLen) (hi : dealI nm (whoV nm ps).1 xs l.deal = -1) :
    Calls Tryz.prog 18 #[.agg #[.slice s.pA s.pn s.pc, .slice s.dA s.dn s.dc, .slice s.fA s.fn s.fc, .slice s.rA s.rn s.rc, .slice s.hA s.hn s.hc], .string nm, .agg #[.slice A n c, .slice B n cB], .agg #[.string l.fr, .string l.to, .int .i64 l.num, .int .i64 l.kind, .int .i64 l.ack, .string l.deal, .string l.text, .string l.party, .int .i64 l.idx, .int .i64 l.day, .string l.cur, .int .i64 l.amt, .slice l.A1 l.n1 l.c1, .slice l.A2 l.n2 l.c2], .int .i64 dy] w fun e w' => e = .returned (.tuple #[.agg #[.slice A n c, .slice B n cB], .slice none 0 0]) ∧ Below w.heap.size w w' := by
  have HDI := Lib.hid (fun W (hb : Below w.heap.size w W) => rdeal_any s nm l.deal ps xs W (hp.below hb) (hd.below hb) h1 h2)
  have HB0 : Hid (Below w.heap.size w ((((w.alloc (.cells #[.slice s.pA s.pn s.pc, .slice s.dA s.dn s.dc, .slice s.fA s.fn s.fc, .slice s.rA s.rn s.rc, .slice s.hA s.hn s.hc] 29)).alloc (.cells #[.slice A n c, .slice B n cB] 37)).alloc (.cells #[.string l.fr, .string l.to, .int .i64 l.num, .int .i64 l.kind, .int .i64 l.ack, .string l.deal, .string l.text, .string l.party, .int .i64 l.idx, .int .i64 l.day, .string l.cur, .int .i64 l.amt, .slice l.A1 l.n1 l.c1, .slice l.A2 l.n2 l.c2] 57)).alloc (.cells #[.slice none 0 0, .slice none 0 0] 37))) := Lib.hid (((two_alloc w _ _).alloc (by simp; omega) _).alloc (by simp; omega) _)
  have HKS0 : Hid (Blk ((((w.alloc (.cells #[.slice s.pA s.pn s.pc, .slice s.dA s.dn s.dc, .slice s.fA s.fn s.fc, .slice s.rA s.rn s.rc, .slice s.hA s.hn s.hc] 29)).alloc (.cells #[.slice A n c, .slice B n cB] 37)).alloc (.cells #[.string l.fr, .string l.to, .int .i64 l.num, .int .i64 l.kind, .int .i64 l.ack, .string l.deal, .string l.text, .string l.party, .int .i64 l.idx, .int .i64 l.day, .string l.cur, .int .i64 l.amt, .slice l.A1 l.n1 l.c1, .slice l.A2 l.n2 l.c2] 57)).alloc (.cells #[.slice none 0 0, .slice none 0 0] 37)) w.heap.size 29 #[.slice s.pA s.pn s.pc, .slice s.dA s.dn s.dc, .slice s.fA s.fn s.fc, .slice s.rA s.rn s.rc, .slice s.hA s.hn s.hc]) := Lib.hid ((((Blk.new _ _ _).alloc _).alloc _).alloc _)
  have HKT0 : Hid (Blk ((((w.alloc (.cells #[.slice s.pA s.pn s.pc, .slice s.dA s.dn s.dc, .slice s.fA s.fn s.fc, .slice s.rA s.rn s.rc, .slice s.hA s.hn s.hc] 29)).alloc (.cells #[.slice A n c, .slice B n cB] 37)).alloc (.cells #[.string l.fr, .string l.to, .int .i64 l.num, .int .i64 l.kind, .int .i64 l.ack, .string l.deal, .string l.text, .string l.party, .int .i64 l.idx, .int .i64 l.day, .string l.cur, .int .i64 l.amt, .slice l.A1 l.n1 l.c1, .slice l.A2 l.n2 l.c2] 57)).alloc (.cells #[.slice none 0 0, .slice none 0 0] 37)) (w.heap.size + 1) 37 #[.slice A n c, .slice B n cB]) := Lib.hid (((blk_second _ _ _ _).alloc _).alloc _)
  have HKL0 : Hid (Blk ((((w.alloc (.cells #[.slice s.pA s.pn s.pc, .slice s.dA s.dn s.dc, .slice s.fA s.fn s.fc, .slice s.rA s.rn s.rc, .slice s.hA s.hn s.hc] 29)).alloc (.cells #[.slice A n c, .slice B n cB] 37)).alloc (.cells #[.string l.fr, .string l.to, .int .i64 l.num, .int .i64 l.kind, .int .i64 l.ack, .string l.deal, .string l.text, .string l.party, .int .i64 l.idx, .int .i64 l.day, .string l.cur, .int .i64 l.amt, .slice l.A1 l.n1 l.c1, .slice l.A2 l.n2 l.c2] 57)).alloc (.cells #[.slice none 0 0, .slice none 0 0] 37)) (w.heap.size + 1 + 1) 57 #[.string l.fr, .string l.to, .int .i64 l.num, .int .i64 l.kind, .int .i64 l.ack, .string l.deal, .string l.text, .string l.party, .int .i64 l.idx, .int .i64 l.day, .string l.cur, .int .i64 l.amt, .slice l.A1 l.n1 l.c1, .slice l.A2 l.n2 l.c2]) := Lib.hid ((Blk.new_at _ _ _ _ (by simp)).alloc _)
  have HKR0 : Hid (Blk ((((w.alloc (.cells #[.slice s.pA s.pn s.pc, .slice s.dA s.dn s.dc, .slice s.fA s.fn s.fc, .slice s.rA s.rn s.rc, .slice s.hA s.hn s.hc] 29)).alloc (.cells #[.slice A n c, .slice B n cB] 37)).alloc (.cells #[.string l.fr, .string l.to, .int .i64 l.num, .int .i64 l.kind, .int .i64 l.ack, .string l.deal, .string l.text, .string l.party, .int .i64 l.idx, .int .i64 l.day, .string l.cur, .int .i64 l.amt, .slice l.A1 l.n1 l.c1, .slice l.A2 l.n2 l.c2] 57)).alloc (.cells #[.slice none 0 0, .slice none 0 0] 37)) (w.heap.size + 1 + 1 + 1) 37 #[.slice none 0 0, .slice none 0 0]) := Lib.hid (Blk.new_at _ _ _ _ (by simp))
  rw [hi] at HDI
  obtain ⟨g, hg⟩ : ∃ g, w.heap.size = g := ⟨_, rfl⟩
  have HGE := Lib.hid hg
  clear hp hd hi h1 h2
  go_enter Tryz.func18, Tryz.ntmps18
  go_upto_region 1 with (fail)
  obtain ⟨w1, hw1⟩ : ∃ W, ((((w.alloc (.cells #[.slice s.pA s.pn s.pc, .slice s.dA s.dn s.dc, .slice s.fA s.fn s.fc, .slice s.rA s.rn s.rc, .slice s.hA s.hn s.hc] 29)).alloc (.cells #[.slice A n c, .slice B n cB] 37)).alloc (.cells #[.string l.fr, .string l.to, .int .i64 l.num, .int .i64 l.kind, .int .i64 l.ack, .string l.deal, .string l.text, .string l.party, .int .i64 l.idx, .int .i64 l.day, .string l.cur, .int .i64 l.amt, .slice l.A1 l.n1 l.c1, .slice l.A2 l.n2 l.c2] 57)).alloc (.cells #[.slice none 0 0, .slice none 0 0] 37)) = W := ⟨_, rfl⟩
  rw [hw1] at HB0 HKS0 HKT0 HKL0 HKR0 ⊢
  simp only [hg] at HKS0 HKT0 HKL0 HKR0 ⊢
  clear hw1 hg
  have a5 := HKL0.out.cell 5
  simp only [List.getElem?_toArray, List.getElem?_cons_zero, List.getElem?_cons_succ] at a5
  go_wp2_with ((refine stop_load 29 _ rfl ?_; refine wpList_load_want rfl 29 _ rfl g rfl 29 _ _ HKS0.out Tryz.underlying29 rfl (by kernel_rfl) ?_))
  refine (HDI.out _ HB0.out).mono ?_
  rintro e w2 ⟨rfl, hb2⟩
  have HKT2 := Lib.hid (HKT0.out.below hb2 HKT0.out.lt)
  have HKR2 := Lib.hid (HKR0.out.below hb2 HKR0.out.lt)
  have HB2 := Lib.hid (HB0.out.trans (hb2.mono HB0.out.size))
  clear a5 hb2
  have t0 := HKT2.out.cell 0; have t1 := HKT2.out.cell 1
  simp only [List.getElem?_toArray, List.getElem?_cons_zero, List.getElem?_cons_succ] at t0 t1
  go_wp2_with (refine stop_store 37 _ _ rfl ?_; refine wpList_store_fr rfl 37 _ _ rfl _ rfl rfl HKR2.out (by kernel_rfl) rfl rfl ?_; intro w9 hm9 fr9)
  have r0 := hm9.cell 0; have r1 := hm9.cell 1
  simp only [List.getElem?_toArray, List.getElem?_cons_zero, List.getElem?_cons_succ] at r0 r1
  have hb9 : Below w.heap.size w w9 := fr9.bel HB2.out (fun k e => by have := HGE.out; omega) HB2.out.size
  refine bodyPost_ret (v := .tuple #[.agg #[.slice A n c, .slice B n cB], .slice none 0 0]) (by simp [results, Tryz.results18, go_sem, r0, r1]) rfl ⟨rfl, hb9⟩
/-- Two rows tell how each of the office's deals stands. -/
structure RelS (nm : ByteArray) (K : Int) (xs : List Dx) (of pa : List Int) (st : ByteArray → St) : Prop where
  lo : of.length = xs.length
  lp : pa.length = xs.length
  at_ : ∀ z (i : Nat), dealI nm K xs z = (i : Int) → of[i]? = some (st z).st ∧ pa[i]? = some (st z).paid
theorem RelS.set {nm : ByteArray} {K : Int} {xs : List Dx} {of pa : List Int} {st : ByteArray → St} (h : RelS nm K xs of pa st) {z : ByteArray} {i : Nat} (hi : dealI nm K xs z = (i : Int)) (hx : i < xs.length) (s : St) : RelS nm K xs (of.set i s.st) (pa.set i s.paid) (setS st z s) := by
  refine ⟨by rw [List.length_set, h.lo], by rw [List.length_set, h.lp], fun y j hj => ?_⟩
  unfold setS
  by_cases e : y = z
  · subst e
    have : j = i := by omega
    subst this
    rw [if_pos rfl]
    exact ⟨List.getElem?_set_self (by rw [h.lo]; exact hx), List.getElem?_set_self (by rw [h.lp]; exact hx)⟩
  · rw [if_neg e]
    have hji : i ≠ j := by
      rintro rfl
      rcases deal_spec nm K xs y with ⟨h1, _⟩ | ⟨a, u, h1, h2, h3, _⟩
      · omega
      · rcases deal_spec nm K xs z with ⟨h4, _⟩ | ⟨b, v, h4, h5, h6, _⟩
        · omega
        · have e1 : a = i := by omega
          have e2 : b = i := by omega
          subst e1
          subst e2
          rw [h2] at h5
          injection h5 with h5
          exact e (by rw [← h3, ← h6, h5])
    rw [List.getElem?_set_ne hji, List.getElem?_set_ne hji]
    exact h.at_ y j hj
theorem take_in {kind : Int} {bank : ByteArray} {d : Dl} {s : St} {l : Lt} (h : StIn s) : StIn (takeV kind bank d s l).2 := by
  refine ⟨?_, ?_, take_ok h.ok⟩
  · have := h.lo
    unfold takeV declV credV covrV
    repeat' split
    all_goals first | exact this | (show (0 : Int) ≤ 1; omega) | (show (0 : Int) ≤ 2; omega)
  · have := h.hi
    unfold takeV declV credV covrV
    repeat' split
    all_goals first | exact this | (show (1 : Int) ≤ 2; omega) | (show (2 : Int) ≤ 2; omega)
theorem take_four {bank : ByteArray} {d : Dl} {s : St} {l : Lt} (h : s.paid = 0) : (takeV 4 bank d s l).2.paid = 0 := by
  unfold takeV covrV
  rw [if_neg (by omega), if_neg (by omega)]
  repeat' split
  all_goals exact h
/-- What the document's Take brings, of any letter. -/
def RTk (w : World) (A0 B0 : Option Addr) (nm : ByteArray) (K : Int) (xs : List Dx) (st : ByteArray → St) (dl : ByteArray) (dy : Int) (r : List Ol × St) (e : Ending) (w' : World) : Prop :=
  ∃ A c B d v of pa, e = .returned (.tuple #[.agg #[.slice A xs.length c, .slice B xs.length d], v]) ∧ Below w.heap.size w w' ∧ SliceOf w' 1 inC A xs.length of ∧ SliceOf w' 1 inC B xs.length pa ∧ RelS nm K xs of pa (setS st dl r.2) ∧ OlAt w' w.heap.size v dl dy r.1 ∧ (∀ x off, A = some ⟨x, off, none⟩ → w.heap.size ≤ x ∨ A = A0) ∧ ∀ x off, B = some ⟨x, off, none⟩ → w.heap.size ≤ x ∨ B = B0
theorem rtake_any (s : Su) (nm : ByteArray) (ps : List Pty) (xs : List Dx) (A B : Option Addr) (c cB : Nat) (of pa : List Int) (st : ByteArray → St) (l : Lt) (dy : Int) (w : World)
    (hp : SliceOf w 3 ptyC s.pA s.pn ps) (hd : SliceOf w 17 dxC s.dA s.dn xs) (h1 : s.pn ≤ maxLen) (h2 : s.dn ≤ 16) (hA : SliceOf w 1 inC A xs.length of) (hB : SliceOf w 1 inC B xs.length pa) (hR : RelS nm (whoV nm ps).1 xs of pa st)
    (hok : ∀ x ∈ xs, x.d.ok) (hS : ∀ z, StIn (st z)) (h0 : (whoV nm ps).1 = 4 → ∀ z, (st z).paid = 0) (hl : I64 l.amt) :
    Calls Tryz.prog 18 #[.agg #[.slice s.pA s.pn s.pc, .slice s.dA s.dn s.dc, .slice s.fA s.fn s.fc, .slice s.rA s.rn s.rc, .slice s.hA s.hn s.hc], .string nm, .agg #[.slice A xs.length c, .slice B xs.length cB], .agg #[.string l.fr, .string l.to, .int .i64 l.num, .int .i64 l.kind, .int .i64 l.ack, .string l.deal, .string l.text, .string l.party, .int .i64 l.idx, .int .i64 l.day, .string l.cur, .int .i64 l.amt, .slice l.A1 l.n1 l.c1, .slice l.A2 l.n2 l.c2], .int .i64 dy] w (RTk w A B nm (whoV nm ps).1 xs st l.deal dy (outV (whoV nm ps).1 (whoV nm ps).2 (dealsOf nm (whoV nm ps).1 xs l.deal) (st l.deal) l)) := by
  have hdl := hd.len
  rcases deal_spec nm (whoV nm ps).1 xs l.deal with ⟨hi, hn⟩ | ⟨i, x, hi, hx, hnum, hm, hds⟩
  · refine (rtake_none s nm ps xs A B xs.length c cB l dy w hp hd h1 (by unfold maxLen; omega) hi).mono ?_
    rintro e w' ⟨rfl, hb⟩
    refine ⟨A, c, B, cB, _, of, pa, rfl, hb, hA.below hb, hB.below hb, ?_, ?_, fun _ _ _ => .inr rfl, fun _ _ _ => .inr rfl⟩
    · rw [hn]
      show RelS _ _ _ _ _ (setS st l.deal (st l.deal))
      rw [setS_id]
      exact hR
    · rw [hn]
      exact .inl ⟨rfl, rfl⟩
  · have hil : i < xs.length := (List.getElem?_eq_some_iff.1 hx).1
    obtain ⟨bA, oA, rfl, _⟩ := hA.at_ (by omega)
    obtain ⟨bB, oB, rfl, _⟩ := hB.at_ (by omega)
    obtain ⟨hof, hpa⟩ := hR.at_ l.deal i hi
    have hk : (whoV nm ps).1 = 3 ∨ (whoV nm ps).1 = 4 := by
      simp only [mineB, Bool.or_eq_true, Bool.and_eq_true, decide_eq_true_eq] at hm
      exact hm.elim (fun h => .inl h.1) (fun h => .inr h.1)
    refine (rtake_some s nm ps xs bA oA bB oB xs.length c cB of pa l dy i x (st l.deal) w hp hd h1 (by unfold maxLen; omega) hA hB (by omega) hil hi hx hnum hof hpa (hok x (List.mem_of_getElem? hx)) (hS l.deal).ok (fun h => h0 h l.deal) hk hl).mono ?_
    rintro e w' ⟨A', c', B', d', v, rfl, hb, h3, h4, h5, h6, h7⟩
    rw [hR.lo] at h3
    rw [hR.lp] at h4
    refine ⟨A', c', B', d', v, _, _, by rw [hR.lo, hR.lp], hb, h3, h4, ?_, ?_, h6, h7⟩
    · rw [hds]
      exact hR.set hi hil _
    · rw [hds]
      exact h5
end Go.Proofs.YtdanjegnhdpnlaaGreatDoor.kit

namespace Go.Proofs.YtdanjegnhdpnlaaGreatDoor.kit
open Go.RowKit
set_option linter.unusedVariables false

theorem bsize : (Tryz.prog.info? 68).map (·.size) = some 2 := by kernel_rfl
theorem blies : liesAt Tryz.prog Tryz.prog.depth 68 (2 / Tryz.prog.cellsOf 68) 0 68 1 = true := by kernel_rfl
theorem binfo : (Tryz.prog.info? 5).map (fun i => (i.zero, i.size, i.bytes)) = some (some (.int .u8 0), 1, 1) := by kernel_rfl
set_option maxHeartbeats 1000000 in
set_option maxRecDepth 100000 in
theorem check_used (b : Nat) (w : World) (h0 : w.cell? ⟨b, 0, none⟩ = some (.pointer (some ⟨b, 0, none⟩))) :
    Calls Tryz.prog 41 #[.pointer (some ⟨b, 0, none⟩)] w fun e w' => e = .returned (.tuple #[]) ∧ w' = w := by
  obtain ⟨j, hj, _⟩ := Option.map_eq_some_iff.1 bsize
  go_enter Tryz.func41, Tryz.ntmps41
  go_wp2
  rw [Lib.run_neq_ptr_same w _ Tryz.underlying65 hj]
  go_wp2
  go_end0
  exact ⟨rfl, rfl⟩
set_option maxHeartbeats 1000000 in
set_option maxRecDepth 100000 in
theorem check_fresh (b : Nat) (w : World) (h0 : w.cell? ⟨b, 0, none⟩ = some (.pointer none)) (hsh : w.shape? b = some (68, 2)) (hfz : w.frozen? ⟨b, 0, none⟩ = false) :
    Calls Tryz.prog 41 #[.pointer (some ⟨b, 0, none⟩)] w fun e w' => e = .returned (.tuple #[]) ∧ w' = w.setCell ⟨b, 0, none⟩ (.pointer (some ⟨b, 0, none⟩)) := by
  obtain ⟨j, hj, hjs⟩ := Option.map_eq_some_iff.1 bsize
  go_enter Tryz.func41, Tryz.ntmps41
  go_wp2
  rw [Lib.run_to_unsafe w ⟨b, 0, none⟩ Tryz.underlying65 Tryz.underlying131 hj (by rw [hjs]; decide) hsh (Nat.zero_lt_succ 1)]
  simp only [Result.andThen]
  rw [Oper.upon_value]
  go_wp2
  rw [run_callFunc_extern Tryz.func56 (by kernel_rfl) (by kernel_rfl) (by kernel_rfl) (e := Extern.AbiNoEscape.same) (by kernel_rfl)]
  rw [Lib.run_noEscape]
  simp only [Result.andThen]
  rw [Oper.upon_value]
  go_wp2
  rw [Lib.run_from_unsafe w ⟨b, 0, none⟩ Tryz.underlying131 Tryz.underlying65 hj hsh blies]
  simp only [Result.andThen]
  rw [Oper.upon_value]
  go_wp2
  go_end0
  exact ⟨rfl, rfl⟩
/-- A builder, holding a list of bytes (as cells). -/
abbrev Bd (B b : Nat) (bs : List Value) (w : World) : Prop := Lib.IsBuilder 68 5 B b bs w
theorem Bd.below {B b : Nat} {bs : List Value} {w w' : World} (h : Bd B b bs w) (hb : Below w.heap.size w w') : Bd B b bs w' := by
  have key : ∀ p, Lib.BuilderAt 68 5 B b p bs w → Lib.BuilderAt 68 5 B b p bs w' := by
    rintro p ⟨hB, v, hk, hown, hne⟩
    have hlt : b < w.heap.size := (Array.getElem?_eq_some_iff.1 hk).1
    exact ⟨hB, v, (hb.block b hlt).trans hk, hown.kept (row := none) ⟨hb.os, hb.tape, hb.output, hb.size, fun k hk _ => hb.block k hk⟩ (by cases v.ownBlock <;> simp), hne⟩
  rcases h with h | h
  · exact .inl (key _ h)
  · exact .inr (key _ h)
theorem check_any (B b : Nat) (bs : List Value) (w : World) (h : Bd B b bs w) :
    Calls Tryz.prog 41 #[.pointer (some ⟨b, 0, none⟩)] w fun e w' => e = .returned (.tuple #[]) ∧ Lib.BuilderAt 68 5 B b (.pointer (some ⟨b, 0, none⟩)) bs w' ∧ Below B w w' ∧ ∀ k t cs, Blk w k t cs → t ≠ 68 → Blk w' k t cs := by
  rcases h with h | h
  · refine (check_fresh b w h.cell0 h.shape h.frozen0).mono ?_
    rintro e w' ⟨rfl, rfl⟩
    refine ⟨rfl, h.used _, (Below.refl B w).setCell (p := ⟨b, 0, none⟩) h.1 _, fun k t cs hk ht => hk.far (p := ⟨b, 0, none⟩) ?_ _⟩
    obtain ⟨_, v, hkb, _⟩ := h
    exact hk.ne_ (t' := 68) hkb ht
  · refine (check_used b w h.cell0).mono ?_
    rintro e w' ⟨rfl, rfl⟩
    exact ⟨rfl, h, Below.refl B _, fun _ _ _ hk _ => hk⟩
set_option maxHeartbeats 2000000 in
set_option maxRecDepth 100000 in
theorem wstr_any (B b : Nat) (bs : List Value) (s : ByteArray) (w : World) (h : Bd B b bs w) (hlen : bs.length + s.size ≤ 140737488355328) (hBw : B ≤ w.heap.size) :
    Calls Tryz.prog 22 #[.pointer (some ⟨b, 0, none⟩), .string s] w fun e w' => e = .returned (.tuple #[.int .i64 s.size, .nilIface]) ∧ Bd B b (bs ++ Lib.strCells s) w' ∧ Below B w w' ∧ ∀ k t cs, Blk w k t cs → t ≠ 68 → t ≠ 5 → Blk w' k t cs := by
  obtain ⟨i0, hi, hz0, hz1, hz2⟩ := info_parts binfo
  go_enter Tryz.func22, Tryz.ntmps22
  go_wp2_with fail
  refine (check_any B b bs _ h).mono ?_
  rintro e w1 ⟨rfl, h1, hb1, hkeep⟩
  have HKP := Lib.hid hkeep
  clear hkeep
  obtain ⟨hB, v, hbk, hown, hne⟩ := h1
  have c0 : w1.cell? ⟨b, 0, none⟩ = some (.pointer (some ⟨b, 0, none⟩)) := by rw [Lib.cell_of_heap hbk]; rfl
  have c1 : w1.cell? ⟨b, 1, none⟩ = some v := by rw [Lib.cell_of_heap hbk]; rfl
  go_wp2_with (at_builtin; refine Lib.wpList_append_own_string _ rfl _ _ 66 9 rfl B 5 i0 Tryz.underlying66 Tryz.underlying9 hi hz0 hz1 hz2 _ _ _ rfl hown s rfl ?c3 ?c4 ?c5 ?_)
  case c3 => unfold maxLen; omega
  case c4 => omega
  case c5 => have := hb1.size; omega
  intro v' w2 hown' hgrow _
  have hlt : b < w1.heap.size := by
    rcases Nat.lt_or_ge b w1.heap.size with h' | h'
    · exact h'
    · simp [Array.getElem?_eq_none h'] at hbk
  have hb2 : w2.heap[b]? = some (.cells #[.pointer (some ⟨b, 0, none⟩), v] 68 (0, 0)) := by
    rw [hgrow.block b hlt (fun e => hne e.symm)]
    exact hbk
  have d0 : w2.cell? ⟨b, 0, none⟩ = some (.pointer (some ⟨b, 0, none⟩)) := by rw [Lib.cell_of_heap hb2]; rfl
  have d1 : w2.cell? ⟨b, 1, none⟩ = some v := by rw [Lib.cell_of_heap hb2]; rfl
  have f1 : w2.frozen? ⟨b, 1, none⟩ = false := Lib.frozen_of_heap hb2 1
  obtain ⟨ao, n', cap, rfl⟩ : ∃ ao n' cap, v' = .slice ao n' cap := by
    rcases hown'.2 with ⟨hv, _⟩ | ⟨g, cap, cur, hv, _⟩
    · exact ⟨_, _, _, hv⟩
    · exact ⟨_, _, _, hv⟩
  go_wp2
  go_ret2
  refine ⟨rfl, .inr ?_, ?_, ?_⟩
  · exact Lib.BuilderAt.put (T := 68) (e := 5) hB hb2 (bs' := bs ++ Lib.strCells s) (by simpa [Lib.strCells_length] using hown') (by decide)
  · exact (hb1.grown hgrow (by have := hb1.size; omega) (fun k hk => (hown.lt k hk).1)).setCell (p := ⟨b, 1, none⟩) hB _
  · intro k t cs hk ht1 ht2
    have q1 := HKP.out k t cs hk ht1
    have q2 : Blk w2 k t cs := q1.grown hgrow (fun e => own_blk_ne hown q1 (fun e2 => ht2 e2.symm) e.symm)
    exact q2.far (p := ⟨b, 1, none⟩) (q2.ne_ (t' := 68) hb2 ht1) _
end Go.Proofs.YtdanjegnhdpnlaaGreatDoor.kit

namespace Go.Proofs
open Go.Shelf
def Tryz.keysB_ren : Go.Shelf.Ren := ⟨fun | 7 => 21 | 10 => 40 | n => n, fun | 23 => 73 | 26 => 9 | 3 => 74 | 28 => 71 | 0 => 0 | 27 => 70 | 33 => 115 | 4 => 4 | n => n, fun | n => n⟩
theorem Tryz.keysB : Go.Proofs.SlLaysZ.n7 Tryz.prog Tryz.keysB_ren := {
  mixed := by kernel_rfl
  f7 := ⟨Tryz.f21.name, by decide, Tryz.func21.trans (congrArg some (by kernel_rfl))⟩
  f10 := ⟨Tryz.f40.name, by decide, Tryz.func40.trans (congrArg some (by kernel_rfl))⟩
  t0 := Tryz.underlying0
  a0 := Tryz.isAgg0
  z0 := Tryz.sizeOf0
  v0 := Tryz.zeroValue0
  t4 := Tryz.underlying4
  a4 := Tryz.isAgg4
  z4 := Tryz.sizeOf4
  v4 := Tryz.zeroValue4
  t23 := Tryz.underlying73
  a23 := Tryz.isAgg73
  z23 := Tryz.sizeOf73
  v23 := Tryz.zeroValue73
  t26 := Tryz.underlying9
  a26 := Tryz.isAgg9
  z26 := Tryz.sizeOf9
  v26 := Tryz.zeroValue9
  t27 := Tryz.underlying70
  a27 := Tryz.isAgg70
  z27 := Tryz.sizeOf70
  v27 := Tryz.zeroValue70
  t28 := Tryz.underlying71
  a28 := Tryz.isAgg71
  z28 := Tryz.sizeOf71
  v28 := Tryz.zeroValue71
  t33 := Tryz.underlying115
  a33 := Tryz.isAgg115
  z33 := Tryz.sizeOf115
  v33 := Tryz.zeroValue115 }
def Tryz.sortedB_ren : Go.Shelf.Ren := ⟨fun | 6 => 20 | 8 => 38 | 9 => 39 | 11 => 53 | 13 => 55 | 12 => 54 | 23 => 76 | 24 => 77 | 14 => 67 | 15 => 68 | 16 => 69 | 17 => 70 | 18 => 71 | 19 => 72 | 20 => 73 | 21 => 74 | 22 => 75 | 25 => 90 | 26 => 91 | 27 => 92 | 28 => 93 | 29 => 94 | 30 => 95 | 31 => 103 | n => n, fun | 26 => 9 | 28 => 71 | 24 => 55 | 0 => 0 | 3 => 3 | 37 => 130 | 48 => 151 | 50 => 121 | 4 => 4 | 40 => 143 | 39 => 142 | 45 => 148 | 5 => 5 | 9 => 9 | 51 => 164 | 55 => 168 | 57 => 170 | 58 => 171 | 33 => 115 | n => n, fun | n => n⟩
theorem Tryz.sortedB : Go.Proofs.SlLaysZ.n6 Tryz.prog Tryz.sortedB_ren := {
  mixed := by kernel_rfl
  f6 := ⟨Tryz.f20.name, by decide, Tryz.func20.trans (congrArg some (by kernel_rfl))⟩
  f8 := ⟨Tryz.f38.name, by decide, Tryz.func38.trans (congrArg some (by kernel_rfl))⟩
  f11 := ⟨Tryz.f53.name, by decide, Tryz.func53.trans (congrArg some (by kernel_rfl))⟩
  t0 := Tryz.underlying0
  a0 := Tryz.isAgg0
  z0 := Tryz.sizeOf0
  v0 := Tryz.zeroValue0
  t24 := Tryz.underlying55
  a24 := Tryz.isAgg55
  z24 := Tryz.sizeOf55
  v24 := Tryz.zeroValue55
  t26 := Tryz.underlying9
  a26 := Tryz.isAgg9
  z26 := Tryz.sizeOf9
  v26 := Tryz.zeroValue9
  t28 := Tryz.underlying71
  a28 := Tryz.isAgg71
  z28 := Tryz.sizeOf71
  v28 := Tryz.zeroValue71
  i26 := by kernel_rfl }
def Tryz.sortB_ren : Go.Shelf.Ren := ⟨fun | 6 => 39 | 8 => 55 | 9 => 54 | 19 => 76 | 20 => 77 | 21 => 67 | 22 => 68 | 23 => 69 | 24 => 70 | 25 => 71 | 26 => 72 | 27 => 73 | 28 => 74 | 29 => 75 | 36 => 90 | 31 => 91 | 32 => 92 | 37 => 93 | 38 => 94 | 39 => 95 | 41 => 103 | n => n, fun | 27 => 55 | 29 => 9 | 3 => 3 | 32 => 130 | 26 => 55 | 0 => 0 | 44 => 151 | 46 => 121 | 4 => 4 | 36 => 143 | 35 => 142 | 41 => 148 | 5 => 5 | 9 => 9 | 53 => 164 | 57 => 168 | 63 => 170 | 64 => 171 | n => n, fun | n => n⟩
theorem Tryz.sortB : Go.Proofs.SlLaysM.n6 Tryz.prog Tryz.sortB_ren := {
  mixed := by kernel_rfl
  f6 := ⟨Tryz.f39.name, by decide, Tryz.func39.trans (congrArg some (by kernel_rfl))⟩
  f8 := Tryz.func55.trans (congrArg some (by kernel_rfl))
  f9 := ⟨Tryz.f54.name, by decide, Tryz.func54.trans (congrArg some (by kernel_rfl))⟩
  f19 := Tryz.func76.trans (congrArg some (by kernel_rfl))
  f20 := Tryz.func77.trans (congrArg some (by kernel_rfl))
  f21 := ⟨Tryz.f67.name, by decide, Tryz.func67.trans (congrArg some (by kernel_rfl))⟩
  f22 := ⟨Tryz.f68.name, by decide, Tryz.func68.trans (congrArg some (by kernel_rfl))⟩
  f23 := ⟨Tryz.f69.name, by decide, Tryz.func69.trans (congrArg some (by kernel_rfl))⟩
  f24 := ⟨Tryz.f70.name, by decide, Tryz.func70.trans (congrArg some (by kernel_rfl))⟩
  f25 := ⟨Tryz.f71.name, by decide, Tryz.func71.trans (congrArg some (by kernel_rfl))⟩
  f26 := ⟨Tryz.f72.name, by decide, Tryz.func72.trans (congrArg some (by kernel_rfl))⟩
  f27 := ⟨Tryz.f73.name, by decide, Tryz.func73.trans (congrArg some (by kernel_rfl))⟩
  f28 := ⟨Tryz.f74.name, by decide, Tryz.func74.trans (congrArg some (by kernel_rfl))⟩
  f29 := ⟨Tryz.f75.name, by decide, Tryz.func75.trans (congrArg some (by kernel_rfl))⟩
  f31 := Tryz.func91.trans (congrArg some (by kernel_rfl))
  f32 := Tryz.func92.trans (congrArg some (by kernel_rfl))
  f36 := ⟨Tryz.f90.name, by decide, Tryz.func90.trans (congrArg some (by kernel_rfl))⟩
  f37 := ⟨Tryz.f93.name, by decide, Tryz.func93.trans (congrArg some (by kernel_rfl))⟩
  f38 := ⟨Tryz.f94.name, by decide, Tryz.func94.trans (congrArg some (by kernel_rfl))⟩
  f39 := ⟨Tryz.f95.name, by decide, Tryz.func95.trans (congrArg some (by kernel_rfl))⟩
  f41 := ⟨Tryz.f103.name, by decide, Tryz.func103.trans (congrArg some (by kernel_rfl))⟩
  t0 := Tryz.underlying0
  a0 := Tryz.isAgg0
  z0 := Tryz.sizeOf0
  v0 := Tryz.zeroValue0
  t3 := Tryz.underlying3
  a3 := Tryz.isAgg3
  z3 := Tryz.sizeOf3
  v3 := Tryz.zeroValue3
  t4 := Tryz.underlying4
  a4 := Tryz.isAgg4
  z4 := Tryz.sizeOf4
  v4 := Tryz.zeroValue4
  t5 := Tryz.underlying5
  a5 := Tryz.isAgg5
  z5 := Tryz.sizeOf5
  v5 := Tryz.zeroValue5
  t9 := Tryz.underlying9
  a9 := Tryz.isAgg9
  z9 := Tryz.sizeOf9
  v9 := Tryz.zeroValue9
  t26 := Tryz.underlying55
  a26 := Tryz.isAgg55
  z26 := Tryz.sizeOf55
  v26 := Tryz.zeroValue55
  t27 := Tryz.underlying55
  a27 := Tryz.isAgg55
  z27 := Tryz.sizeOf55
  v27 := Tryz.zeroValue55
  t29 := Tryz.underlying9
  a29 := Tryz.isAgg9
  z29 := Tryz.sizeOf9
  v29 := Tryz.zeroValue9
  t32 := Tryz.underlying130
  a32 := Tryz.isAgg130
  z32 := Tryz.sizeOf130
  v32 := Tryz.zeroValue130
  t35 := Tryz.underlying142
  a35 := Tryz.isAgg142
  z35 := Tryz.sizeOf142
  v35 := Tryz.zeroValue142
  t36 := Tryz.underlying143
  a36 := Tryz.isAgg143
  z36 := Tryz.sizeOf143
  v36 := Tryz.zeroValue143
  t41 := Tryz.underlying148
  a41 := Tryz.isAgg148
  z41 := Tryz.sizeOf148
  v41 := Tryz.zeroValue148
  t44 := Tryz.underlying151
  a44 := Tryz.isAgg151
  z44 := Tryz.sizeOf151
  v44 := Tryz.zeroValue151
  t46 := Tryz.underlying121
  a46 := Tryz.isAgg121
  z46 := Tryz.sizeOf121
  v46 := Tryz.zeroValue121
  t53 := Tryz.underlying164
  a53 := Tryz.isAgg164
  z53 := Tryz.sizeOf164
  v53 := Tryz.zeroValue164
  t57 := Tryz.underlying168
  a57 := Tryz.isAgg168
  z57 := Tryz.sizeOf168
  v57 := Tryz.zeroValue168
  t63 := Tryz.underlying170
  a63 := Tryz.isAgg170
  z63 := Tryz.sizeOf170
  v63 := Tryz.zeroValue170
  t64 := Tryz.underlying171
  a64 := Tryz.isAgg171
  z64 := Tryz.sizeOf171
  v64 := Tryz.zeroValue171 }
end Go.Proofs

namespace Go.Proofs.YtdanjegnhdpnlaaGreatDoor.kit
open Go.RowKit Go.PlainAid Go.Maps Go.Sort Go.Shelf Go.ChangeMaps Go.MapKept Go.WideElems
set_option linter.unusedVariables false
set_option linter.unusedSimpArgs false
set_option maxRecDepth 100000
set_option maxHeartbeats 6400000
theorem itoa_any (n : Int) (h : I64 n) (w : World) (ht : PowTab w) : Calls Tryz.prog 23 #[.int .i64 n] w fun e w' => e = .returned (.string (itS n)) ∧ Below w.heap.size w w' :=
  (Tryz.strconv_Itoa n h.1 h.2 w ht).mono fun e w' h => ⟨h.1, by obtain ⟨k, os, rfl⟩ := h.2; exact Lib.below_grow _ _ (Nat.le_refl _) _ _⟩
/-! the keys of a map, sorted -/
theorem sortsB (m : Nat) : AnyZ.SortsIn Tryz.prog Tryz.sortedB_ren Fence.wide m :=
  ⟨fun blk off cap ss W hH hblk hsz => callsIn_wide.2 (AnyM.slices_Sort_string Tryz.sortB blk off cap ss W hH hblk hsz),
   fun p cap W => callsIn_wide.2 (AnyM.slices_Sort_string_none Tryz.sortB p cap W)⟩
theorem keysB_any (mb : Option Nat) (W : World) : Calls Tryz.prog 21 #[.map mb] W fun e w' => e = .returned (.func (.func 40) #[] #[.pointer (some ⟨W.heap.size, 0, none⟩)]) ∧ w' = W.alloc (.cells #[.map mb] 73) :=
  callsIn_wide.1 (AnyZ.keys_in Tryz.keysB Fence.wide 5 trivial rfl mb W)
theorem sortedB_any {H : Type} (b nn : Nat) (D0 : DataW H) (R : Value → Option (DataW H × List MemPlace)) (w : World) (hown : w.ownsMap Tryz.prog 9 R b nn D0) (hmax : Maps.size D0 ≤ maxLen) (hbytes : Maps.size D0 * 16 ≤ 140737488355328) :
    Calls Tryz.prog 20 #[.func (.func 40) #[] #[.pointer (some ⟨w.heap.size, 0, none⟩)]] (w.alloc (.cells #[.map (some b)] 73)) fun e w' => ∃ (v : Value) (ss : List (List UInt8)), e = .returned v ∧ ss.Perm (strKeys D0) ∧
      w'.ownsRow (w.alloc (.cells #[.map (some b)] 73)).heap.size 9 1 v ss.length ((ss.mergeSort (fun x y => decide (x ≤ y))).map encStr) ∧ (v = .slice none 0 0 ↔ ss = []) ∧ Below (w.alloc (.cells #[.map (some b)] 73)).heap.size (w.alloc (.cells #[.map (some b)] 73)) w' := by
  have hbl := hown.lt
  have hseq : SeqGives Fence.wide 2 Tryz.prog 40 #[.pointer (some ⟨w.heap.size, 0, none⟩)] encStr (fun ss => ss.Perm (strKeys D0)) (Maps.size D0) (w.alloc (.cells #[.map (some b)] 73)) :=
    AnyZ.keys_gives (ρ := Tryz.keysB_ren) { Tryz.keysB with } Fence.wide _ trivial rfl (by omega) w.heap.size b nn D0 _ (by simp) (by simp) (by
      obtain ⟨es, clock, hb, Ft, hs, hD⟩ := hown
      exact ⟨es, clock, (Below.heap_alloc _ _ b hbl).trans hb, Ft, hs, hD⟩)
  exact callsIn_wide.1 (AnyZ.sorted_in Tryz.sortedB Fence.wide 5 trivial trivial trivial trivial rfl (by omega) (sortsB _) (enters_of Tryz.func39 (by kernel_rfl) rfl) 40 #[.pointer (some ⟨w.heap.size, 0, none⟩)] trivial (enters_of Tryz.func40 (by kernel_rfl) rfl) _ _ hmax hbytes _ hseq)
theorem map_enc (l : List (List UInt8)) : l.map encStr = (l.map bstr).flatMap strC := by
  induction l with
  | nil => rfl
  | cons x l ih => rw [List.map_cons, List.map_cons, List.flatMap_cons, ih]; rfl
theorem nodup_le {α : Type} [DecidableEq α] : ∀ {a b : List α}, a.Nodup → (∀ x ∈ a, x ∈ b) → a.length ≤ b.length
  | [], _, _, _ => Nat.zero_le _
  | x :: a, b, hn, hs => by
    have hn' := List.nodup_cons.1 hn
    have hx := hs x (List.mem_cons_self ..)
    have h1 := nodup_le (b := b.erase x) hn'.2 (fun y hy => (List.mem_erase_of_ne (fun e => hn'.1 (by rw [← e]; exact hy))).2 (hs y (List.mem_cons_of_mem _ hy)))
    rw [List.length_erase_of_mem hx] at h1
    have := List.length_pos_of_mem hx
    rw [List.length_cons]
    omega
def RU : Value → Option (DataW Unit × List MemPlace) := fun _ => some (.lit (.bool true), [])
def strKey : Value → List UInt8
  | .string s => s.data.toList
  | _ => []
/-- A map of texts, as the kit's map; its keys are those that it knows. -/
theorem TMap.sorted {W : World} {b n : Nat} {α : Type} {vC : α → Value} {m : ByteArray → Option α} {l : List ByteArray} (h : TMap W b .string (fun s : ByteArray => .string s) vC n m) (hsz : ∀ k v, m k = some v → k.size ≤ maxLen) (hr : risS l) (hl : ∀ z, z ∈ l ↔ (m z).isSome = true) (hll : l.length ≤ maxLen) :
    ∃ D0 : DataW Unit, W.ownsMap Tryz.prog 9 RU b n D0 ∧ Maps.size D0 = l.length ∧ ∀ ss : List (List UInt8), ss.Perm (strKeys D0) → (ss.mergeSort fun x y => decide (x ≤ y)).map bstr = l := by
  obtain ⟨es, ck, ys, h1, h2, h3, h4, h5⟩ := h
  have hk : es.toList.map (fun e => e.key) = ys.map (fun p => Value.string p.1) := by
    have := congrArg (List.map Prod.fst) h3
    rw [List.map_map, List.map_map] at this
    exact this
  have hnd : (ys.map (fun p => p.1)).Nodup := by
    have q := h2.2.2
    rw [hk] at q
    have q2 : ((ys.map (fun p => p.1)).map (fun s => Value.string s)).Nodup := by rw [List.map_map]; exact q
    exact List.Pairwise.of_map _ (fun a b e h => e (by rw [h])) q2
  have hmem : ∀ z, z ∈ ys.map (fun p => p.1) ↔ (m z).isSome = true := by
    intro z
    rw [List.mem_map]
    constructor
    · rintro ⟨p, hp, rfl⟩
      rw [(h5 p.1 p.2).2 hp]; rfl
    · intro hz
      obtain ⟨v, hv⟩ := Option.isSome_iff_exists.1 hz
      exact ⟨(z, v), (h5 z v).1 hv, rfl⟩
  have hlen : ys.length ≤ l.length := by
    have := nodup_le hnd (b := l) (fun z hz => (hl z).2 ((hmem z).1 hz))
    rwa [List.length_map] at this
  have hes : es.size = ys.length := by
    have := congrArg List.length h3
    simpa using this
  have hks : ∀ x ∈ es.toList, ∃ s : ByteArray, x.key = .string s ∧ s.size ≤ maxLen := by
    intro x hx
    have q : x.key ∈ es.toList.map (fun e => e.key) := List.mem_map.2 ⟨x, hx, rfl⟩
    rw [hk] at q
    obtain ⟨p, hp, e⟩ := List.mem_map.1 q
    exact ⟨p.1, e.symm, hsz p.1 p.2 ((h5 p.1 p.2).2 hp)⟩
  have hrd : ∀ x ∈ es.toList, ∀ s, x.key = .string s → s.size ≤ maxLen → rd Tryz.prog 9 RU x = some (.string s.data.toList, .lit (.bool true)) := by
    intro x hx s e hs
    unfold WideElems.rd
    rw [e, show keyOf Tryz.prog 9 (.string s) = some (.string s.data.toList) by simp [keyOf, Tryz.underlying9, mapKey, hs]]
    rfl
  have ho : W.ownsMap Tryz.prog 9 RU b n (.map ((es.toList.map (rg Tryz.prog 9 RU)).foldr DataW.insert [])) :=
    ⟨es, ck, h1, ⟨by omega, h2, fun x hx => (hks x hx).elim fun s q => ⟨_, hrd x hx s q.1 q.2⟩⟩, by omega, rfl⟩
  have hperm : (strKeys (.map ((es.toList.map (rg Tryz.prog 9 RU)).foldr DataW.insert []) : DataW Unit)).Perm (ys.map (fun p => p.1.data.toList)) := by
    have q1 : (strKeys (.map ((es.toList.map (rg Tryz.prog 9 RU)).foldr DataW.insert []) : DataW Unit)).Perm ((es.toList.map (rg Tryz.prog 9 RU)).map fun p => strOf p.1) := (WideShapes.sorted_perm _).map _
    have q2 : (es.toList.map (rg Tryz.prog 9 RU)).map (fun p => strOf p.1) = ys.map (fun p => p.1.data.toList) := by
      have q3 : (es.toList.map (rg Tryz.prog 9 RU)).map (fun p => strOf p.1) = (es.toList.map (fun e => e.key)).map strKey := by
        rw [List.map_map, List.map_map]
        refine List.map_congr_left fun x hx => ?_
        obtain ⟨s, e, hs⟩ := hks x hx
        show strOf (rg Tryz.prog 9 RU x).1 = strKey x.key
        unfold WideElems.rg
        rw [hrd x hx s e hs, e]
        rfl
      rw [q3, hk, List.map_map]
      rfl
    rw [← q2]
    exact q1
  have hnk : (ys.map (fun p => p.1.data.toList)).Nodup := by
    have : ys.map (fun p => p.1.data.toList) = (ys.map (fun p => p.1)).map (fun s => s.data.toList) := by rw [List.map_map]; rfl
    rw [this]
    exact List.Pairwise.map _ (fun a b hab e => hab (ba_ext e)) hnd
  have hsr : ∀ ss : List (List UInt8), ss.Perm (strKeys (.map ((es.toList.map (rg Tryz.prog 9 RU)).foldr DataW.insert []) : DataW Unit)) → (ss.mergeSort fun x y => decide (x ≤ y)).map bstr = l := fun ss hs => by
    have hs2 := hs.trans hperm
    refine sorted_ris (hs2.nodup_iff.2 hnk) hr fun x => ?_
    rw [hs2.mem_iff, List.mem_map, hl, ← hmem, List.mem_map]
    constructor
    · rintro ⟨p, hp, rfl⟩; exact ⟨p, hp, (bstr_list p.1).symm⟩
    · rintro ⟨p, hp, e⟩; exact ⟨p, hp, by rw [e, data_bstr]⟩
  refine ⟨_, ho, ?_, hsr⟩
  have q := congrArg List.length (hsr _ (List.Perm.refl _))
  rw [List.length_map, List.length_mergeSort] at q
  rw [← q]
  unfold strKeys
  rw [List.length_map]
  rfl
theorem kind_any (lo hi o mb n : Nat) (nm bank : ByteArray) (kind : Int) (m : ByteArray → Option Nat) (ds : ByteArray → Option Dl) (st : ByteArray → St) (w : World) (h : Off w lo hi o nm bank kind mb n m ds st) :
    Calls Tryz.prog 12 #[(.pointer (some ⟨o, 0, none⟩))] w fun e w' => e = .returned (.int .i64 kind) ∧ w' = w := by
  have c2 := h.blk.cell 2
  simp only [List.getElem?_toArray, List.getElem?_cons_zero, List.getElem?_cons_succ] at c2
  clear h
  go_enter Tryz.func12, Tryz.ntmps12
  go_wp2_with fail
  go_ret
  exact ⟨rfl, rfl⟩
theorem own_other {W W' : World} {B n : Nat} {e : TypeId} {v : Value} {xs : List Value} (h : W.ownsRow B e 1 v n xs) (hk : ∀ k cs, Blk W k e cs → Blk W' k e cs) : W'.ownsRow B e 1 v n xs := by
  refine ⟨h.1, ?_⟩
  rcases h.2 with h0 | ⟨g, cap, cur, hv, hg, hh, hr⟩
  · exact .inl h0
  · exact .inr ⟨g, cap, cur, hv, hg, hk g cur hh, hr⟩
theorem cells_app (a b : ByteArray) : Lib.byteCells a.data.toList ++ Lib.strCells b = Lib.byteCells (a ++ b).data.toList := by
  rw [app_list]
  simp [Lib.byteCells, Lib.strCells]
theorem bytes_len (a : ByteArray) : (Lib.byteCells a.data.toList).length = a.size := by
  first
    | (simp [Lib.byteCells]; done)
    | (rw [← len_list]; simp [Lib.byteCells])
theorem ba_back (a : ByteArray) : (⟨a.data.toList.toArray⟩ : ByteArray) = a := ba_ext (by simp)
set_option maxHeartbeats 12800000
theorem otext_any (lo hi o mb n : Nat) (nm bank : ByteArray) (kind : Int) (m : ByteArray → Option Nat) (ds : ByteArray → Option Dl) (st : ByteArray → St) (l : List ByteArray) (w : World) (h : Off w lo hi o nm bank kind mb n m ds st)
    (hsz : ∀ k p, m k = some p → k.size ≤ 2000) (hr : risS l) (hl : ∀ z, z ∈ l ↔ (m z).isSome = true) (hll : l.length ≤ 16) (hin : ∀ z, StIn (st z)) (ht : PowTab w) :
    Calls Tryz.prog 9 #[(.pointer (some ⟨o, 0, none⟩))] w fun e w' => e = .returned (.string (textV st l)) ∧ Below w.heap.size w w' := by
  obtain ⟨D0, hown, hsize, hsrt⟩ := h.map.sorted (fun k v hv => by have := hsz k v hv; unfold maxLen; omega) hr hl (by unfold maxLen; omega)
  have HTB := Lib.hid (Lib.tabBelow_of_tabIs ht)
  have HZ := Lib.hid h; have HSZ := Lib.hid hsz; have HLM := Lib.hid hl; have HIN := Lib.hid hin
  have HNS : Hid (∀ z ∈ l, z.size ≤ 2000) := Lib.hid (fun z hz => (Option.isSome_iff_exists.1 ((hl z).1 hz)).elim fun p q => hsz z p q)
  have HOW := Lib.hid hown; have HSR := Lib.hid hsrt; have HDS := Lib.hid hsize
  have HF0 := Lib.hid (Lib.fresh_isBuilder 68 5 w)
  have HB0 := Lib.hid (one_alloc w (.cells #[.pointer none, .slice none 0 0] 68))
  clear h hsz hr hl hin ht hown hsize hsrt
  go_enter Tryz.func9, Tryz.ntmps9
  go_upto_region 2 with (fail)
  obtain ⟨w0, hw0⟩ : ∃ W, w.alloc (.cells #[.pointer none, .slice none 0 0] 68) = W := ⟨_, rfl⟩
  obtain ⟨g, hg⟩ : ∃ g, w.heap.size = g := ⟨_, rfl⟩
  have HGE := Lib.hid hg
  rw [hw0] at HF0 HB0 ⊢
  rw [hg] at HF0
  simp only [hg]
  clear hw0 hg
  have hof := HZ.out.blk.below HB0.out HZ.out.blk.lt
  have c3 := hof.cell 3
  simp only [List.getElem?_toArray, List.getElem?_cons_zero, List.getElem?_cons_succ] at c3
  clear hof
  go_wp2_with fail
  refine (keysB_any _ _).mono ?_
  rintro e w1 ⟨rfl, rfl⟩
  have HSO := Lib.hid (sortedB_any mb n D0 RU w0 (by
    obtain ⟨es, clock, hb, Ft, hs, hD⟩ := HOW.out
    exact ⟨es, clock, (HB0.out.block mb HOW.out.lt).trans hb, Ft, hs, hD⟩) (by rw [HDS.out]; unfold maxLen; omega) (by rw [HDS.out]; omega))
  clear c3
  go_wp2_with fail
  refine HSO.out.mono ?_
  rintro e w2 ⟨v, ss, rfl, hperm, hrow, hnil, hb2⟩
  have hk := HSR.out ss hperm
  have hlen : ss.length = l.length := by rw [← hk, List.length_map, List.length_mergeSort]
  rw [hlen, map_enc, hk] at hrow
  obtain ⟨A1, c1, rfl⟩ := own_form hrow
  obtain ⟨L, hL⟩ : ∃ L, l.length = L := ⟨_, rfl⟩
  obtain ⟨B1, hB1⟩ : ∃ B1, (w0.alloc (.cells #[.map (some mb)] 73)).heap.size = B1 := ⟨_, rfl⟩
  have HB2 : Hid (Below w.heap.size w w2) := Lib.hid ((HB0.out.alloc HB0.out.size _).trans (hb2.mono (HB0.out.alloc HB0.out.size _).size))
  have HF2 : Hid (Bd g g (Lib.byteCells (textV st (l.take 0)).data.toList) w2) := Lib.hid ((Bd.below HF0.out (one_alloc _ _)).below hb2)
  rw [hB1] at hrow
  simp only [hL] at hrow ⊢
  have HO2 := Lib.hid hrow
  have HLL := Lib.hid hL
  have hl16 : L ≤ 16 := by omega
  clear hperm hrow hnil hb2 hk hlen hL hB1 HSO HSR HF0 hll
  go_wp2_with fail
  go_loopw [14] (fun i wr => ∃ j : Nat, j ≤ L ∧ i = .int .i64 j ∧ Hid (Bd g g (Lib.byteCells (textV st (l.take j)).data.toList) wr) ∧ Hid (Below w.heap.size w wr) ∧ Hid (wr.ownsRow B1 9 1 (.slice A1 L c1) L (l.flatMap strC))) (fun i _ => L - (intOf i).toNat)
  case atStart => exact ⟨0, by omega, rfl, HF2, HB2, HO2⟩
  case round =>
    clear HF2 HB2 HO2
    obtain ⟨j, hj, rfl, HBD, HB, HO⟩ := hrel
    have HGS : Hid (g ≤ wr.heap.size) := Lib.hid (by have := HB.out.size; have := HGE.out; omega)
    by_cases hlt : j < L
    · obtain ⟨b, off, z, rfl, hz, z0⟩ := get_str (SliceOf.of_own_s HO.out str_len rfl HLL.out) hlt
      have i0' : (j : Int) < (L : Int) := by omega
      obtain ⟨p, hmp⟩ := Option.isSome_iff_exists.1 ((HLM.out z).1 (List.mem_of_getElem? hz))
      obtain ⟨d, bx, A, nb, c, hd, rfl, hDe, _⟩ := (HZ.out.below HB.out).deal z p hmp
      obtain ⟨S, hS⟩ : ∃ S, st z = S := ⟨_, rfl⟩
      rw [hS] at hDe
      have HSI : Hid (StIn S) := Lib.hid (by rw [← hS]; exact HIN.out z)
      have HTK : Hid (textV st (l.take (j + 1)) = textV st (l.take j) ++ lineV z S) := Lib.hid (by rw [takeSn hz, text_snoc, hS])
      have HD6 : Hid (Blk wr p 83 #[.string d.num, .string d.sel, .string d.buy, .string d.car, .string d.iss, .string d.hou, .string d.ins, .string d.fr, .string d.dst, .string d.cur, .int .i64 d.amt, .slice A nb c, .int .i64 d.term, .int .i64 d.lat, .int .i64 d.exp, .int .i64 d.ten, .int .i64 d.dut, .int .i64 S.st, .int .i64 S.paid]) := Lib.hid hDe
      have HSL : Hid (z.size ≤ 2000 ∧ (itS S.st).size ≤ 1099511627777 ∧ (itS S.paid).size ≤ 1099511627777) := Lib.hid ⟨HNS.out z (List.mem_of_getElem? hz), its_le ⟨HSI.out.lo, by have := HSI.out.hi; omega⟩, its_le ⟨HSI.out.ok.lo, HSI.out.ok.hi⟩⟩
      have HTS : Hid ((textV st (l.take j)).size ≤ 16 * 2199023260000 ∧ (lineV z S).size ≤ 2199023260000) := Lib.hid ⟨by
        refine Nat.le_trans (text_le HIN.out (l.take j) (fun y hy => HNS.out y (List.mem_of_mem_take hy))) (Nat.mul_le_mul_right _ ?_)
        rw [List.length_take]; omega, line_le HSI.out (HNS.out z (List.mem_of_getElem? hz))⟩
      have hlk := (HZ.out.map.below HB.out HZ.out.map.lt).look keyStr (P := Tryz.prog) (mty := 73) Tryz.underlying73 Tryz.underlying9 _ zero_de z false
      rw [hmp] at hlk
      simp only [Option.map_some, Option.getD_some, ptC, Bool.false_eq_true, if_false] at hlk
      have hof := HZ.out.blk.below HB.out HZ.out.blk.lt
      have c3 := hof.cell 3
      simp only [List.getElem?_toArray, List.getElem?_cons_zero, List.getElem?_cons_succ] at c3
      clear hz hmp hd hDe hS hof
      go_upto_region 6 with (fail)
      clear hlk c3 z0
      refine wp_region_soft_last [Is (.string z), Is (.string ((⟨#[100, 101, 97, 108, 32]⟩ : ByteArray) ++ (z : ByteArray))), Is (.string ((((⟨#[100, 101, 97, 108, 32]⟩ : ByteArray) ++ (z : ByteArray)) : ByteArray) ++ (⟨#[32, 115, 116, 97, 116, 101, 32]⟩ : ByteArray))), Is (.pointer (some ⟨p, 0, none⟩)), Is (.pointer (some ⟨p, 0, none⟩)), Is (.pointer (some ⟨p, 17, none⟩)), Is (.int .i64 S.st), Is (.string (itS S.st)), Is (.string ((((((⟨#[100, 101, 97, 108, 32]⟩ : ByteArray) ++ (z : ByteArray)) : ByteArray) ++ (⟨#[32, 115, 116, 97, 116, 101, 32]⟩ : ByteArray)) : ByteArray) ++ ((itS S.st) : ByteArray))), Is (.string ((((((((⟨#[100, 101, 97, 108, 32]⟩ : ByteArray) ++ (z : ByteArray)) : ByteArray) ++ (⟨#[32, 115, 116, 97, 116, 101, 32]⟩ : ByteArray)) : ByteArray) ++ ((itS S.st) : ByteArray)) : ByteArray) ++ (⟨#[32, 112, 97, 105, 100, 32]⟩ : ByteArray))), Is (.pointer (some ⟨p, 0, none⟩)), Is (.pointer (some ⟨p, 0, none⟩)), Is (.pointer (some ⟨p, 18, none⟩)), Is (.int .i64 S.paid), Is (.string (itS S.paid)), Is (.string ((((((((((⟨#[100, 101, 97, 108, 32]⟩ : ByteArray) ++ (z : ByteArray)) : ByteArray) ++ (⟨#[32, 115, 116, 97, 116, 101, 32]⟩ : ByteArray)) : ByteArray) ++ ((itS S.st) : ByteArray)) : ByteArray) ++ (⟨#[32, 112, 97, 105, 100, 32]⟩ : ByteArray)) : ByteArray) ++ ((itS S.paid) : ByteArray))), Is (.string ((((((((((((⟨#[100, 101, 97, 108, 32]⟩ : ByteArray) ++ (z : ByteArray)) : ByteArray) ++ (⟨#[32, 115, 116, 97, 116, 101, 32]⟩ : ByteArray)) : ByteArray) ++ ((itS S.st) : ByteArray)) : ByteArray) ++ (⟨#[32, 112, 97, 105, 100, 32]⟩ : ByteArray)) : ByteArray) ++ ((itS S.paid) : ByteArray)) : ByteArray) ++ (⟨#[10]⟩ : ByteArray)))] ⟨stab_is _, stab_is _, stab_is _, stab_is _, stab_is _, stab_is _, stab_is _, stab_is _, stab_is _, stab_is _, stab_is _, stab_is _, stab_is _, stab_is _, stab_is _, stab_is _, stab_is _, trivial⟩ (by kernel_rfl) (by kernel_rfl) (by kernel_rfl) (by simp) ?_
      refine ⟨?_, ?_, ?_, ?_, ?_, ?_, ?_, ?_, ?_, ?_, ?_, ?_, ?_, ?_, ?_, ?_, ?_, ?_⟩
      all_goals intro done vs ac W1 hdep hB hR hE
      all_goals have ec : ∀ v : Value, ac.eval (.const v) = v := fun _ => rfl
      all_goals try simp [Region.binds] at hdep
      · have e5 : ac.eval (.tmp 5) = .string z := (hE 5 (by simp)).trans (by simp [evF, Act.eval])
        exact soft_value (.string z) (by unfold execOp; simp only [e5, ec]; rfl) rfl
      · have d0 : vs 0 = .string z := hR 0 (by simp [hdep])
        have e24 : ac.eval (.tmp 24) = .string z := (hE 24 (by simp)).trans (by simp [evF, hdep, d0])
        exact soft_value (.string ((⟨#[100, 101, 97, 108, 32]⟩ : ByteArray) ++ (z : ByteArray))) (by have := HSL.out; unfold execOp; simp only [e24, ec]; go_simp; omega) rfl
      · have d1 : vs 1 = .string ((⟨#[100, 101, 97, 108, 32]⟩ : ByteArray) ++ (z : ByteArray)) := hR 1 (by simp [hdep])
        have e25 : ac.eval (.tmp 25) = .string ((⟨#[100, 101, 97, 108, 32]⟩ : ByteArray) ++ (z : ByteArray)) := (hE 25 (by simp)).trans (by simp [evF, hdep, d1])
        exact soft_value (.string ((((⟨#[100, 101, 97, 108, 32]⟩ : ByteArray) ++ (z : ByteArray)) : ByteArray) ++ (⟨#[32, 115, 116, 97, 116, 101, 32]⟩ : ByteArray))) (by have := HSL.out; unfold execOp; simp only [e25, ec]; go_simp; omega) rfl
      · have e6 : ac.eval (.tmp 6) = .pointer (some ⟨p, 0, none⟩) := (hE 6 (by simp)).trans (by simp [evF, Act.eval])
        exact soft_value (.pointer (some ⟨p, 0, none⟩)) (by unfold execOp; simp only [e6, ec]; rfl) rfl
      · have d3 : vs 3 = .pointer (some ⟨p, 0, none⟩) := hR 3 (by simp [hdep])
        have e27 : ac.eval (.tmp 27) = .pointer (some ⟨p, 0, none⟩) := (hE 27 (by simp)).trans (by simp [evF, hdep, d3])
        exact soft_value (.pointer (some ⟨p, 0, none⟩)) (by unfold execOp; simp only [e27]; go_simp) rfl
      · have d4 : vs 4 = .pointer (some ⟨p, 0, none⟩) := hR 4 (by simp [hdep])
        have e28 : ac.eval (.tmp 28) = .pointer (some ⟨p, 0, none⟩) := (hE 28 (by simp)).trans (by simp [evF, hdep, d4])
        exact soft_value (.pointer (some ⟨p, 17, none⟩)) (by unfold execOp; simp only [e28]; kernel_rfl) rfl
      · have d5 : vs 5 = .pointer (some ⟨p, 17, none⟩) := hR 5 (by simp [hdep])
        have e29 : ac.eval (.tmp 29) = .pointer (some ⟨p, 17, none⟩) := (hE 29 (by simp)).trans (by simp [evF, hdep, d5])
        have hc17 : W1.cell? ⟨p, 17, none⟩ = some (.int .i64 S.st) := (HD6.out.below hB HD6.out.lt).cell 17
        exact soft_value (.int .i64 S.st) (by unfold execOp; simp only [e29]; go_simp) rfl
      · have d6 : vs 6 = .int .i64 S.st := hR 6 (by simp [hdep])
        have e30 : ac.eval (.tmp 30) = .int .i64 S.st := (hE 30 (by simp)).trans (by simp [evF, hdep, d6])
        refine soft_call 23 _ _ rfl (enters_fn Tryz.func23 (by kernel_rfl) rfl) #[.int .i64 S.st] (by simp [e30, ec]) ?_
        refine (itoa_any S.st ⟨by have := HSI.out.lo; omega, by have := HSI.out.hi; omega⟩ W1 (HTB.out.on (HB.out.trans (hB.mono HB.out.size))).here).mono ?_
        rintro e9 w9 ⟨rfl, hb9⟩
        exact ⟨_, rfl, hb9, rfl⟩
      · have d2 : vs 2 = .string ((((⟨#[100, 101, 97, 108, 32]⟩ : ByteArray) ++ (z : ByteArray)) : ByteArray) ++ (⟨#[32, 115, 116, 97, 116, 101, 32]⟩ : ByteArray)) := hR 2 (by simp [hdep])
        have e26 : ac.eval (.tmp 26) = .string ((((⟨#[100, 101, 97, 108, 32]⟩ : ByteArray) ++ (z : ByteArray)) : ByteArray) ++ (⟨#[32, 115, 116, 97, 116, 101, 32]⟩ : ByteArray)) := (hE 26 (by simp)).trans (by simp [evF, hdep, d2])
        have d7 : vs 7 = .string (itS S.st) := hR 7 (by simp [hdep])
        have e31 : ac.eval (.tmp 31) = .string (itS S.st) := (hE 31 (by simp)).trans (by simp [evF, hdep, d7])
        exact soft_value (.string ((((((⟨#[100, 101, 97, 108, 32]⟩ : ByteArray) ++ (z : ByteArray)) : ByteArray) ++ (⟨#[32, 115, 116, 97, 116, 101, 32]⟩ : ByteArray)) : ByteArray) ++ ((itS S.st) : ByteArray))) (by have := HSL.out; unfold execOp; simp only [e26, e31, ec]; go_simp; omega) rfl
      · have d8 : vs 8 = .string ((((((⟨#[100, 101, 97, 108, 32]⟩ : ByteArray) ++ (z : ByteArray)) : ByteArray) ++ (⟨#[32, 115, 116, 97, 116, 101, 32]⟩ : ByteArray)) : ByteArray) ++ ((itS S.st) : ByteArray)) := hR 8 (by simp [hdep])
        have e32 : ac.eval (.tmp 32) = .string ((((((⟨#[100, 101, 97, 108, 32]⟩ : ByteArray) ++ (z : ByteArray)) : ByteArray) ++ (⟨#[32, 115, 116, 97, 116, 101, 32]⟩ : ByteArray)) : ByteArray) ++ ((itS S.st) : ByteArray)) := (hE 32 (by simp)).trans (by simp [evF, hdep, d8])
        exact soft_value (.string ((((((((⟨#[100, 101, 97, 108, 32]⟩ : ByteArray) ++ (z : ByteArray)) : ByteArray) ++ (⟨#[32, 115, 116, 97, 116, 101, 32]⟩ : ByteArray)) : ByteArray) ++ ((itS S.st) : ByteArray)) : ByteArray) ++ (⟨#[32, 112, 97, 105, 100, 32]⟩ : ByteArray))) (by have := HSL.out; unfold execOp; simp only [e32, ec]; go_simp; omega) rfl
      · have e6 : ac.eval (.tmp 6) = .pointer (some ⟨p, 0, none⟩) := (hE 6 (by simp)).trans (by simp [evF, Act.eval])
        exact soft_value (.pointer (some ⟨p, 0, none⟩)) (by unfold execOp; simp only [e6, ec]; rfl) rfl
      · have d10 : vs 10 = .pointer (some ⟨p, 0, none⟩) := hR 10 (by simp [hdep])
        have e34 : ac.eval (.tmp 34) = .pointer (some ⟨p, 0, none⟩) := (hE 34 (by simp)).trans (by simp [evF, hdep, d10])
        exact soft_value (.pointer (some ⟨p, 0, none⟩)) (by unfold execOp; simp only [e34]; go_simp) rfl
      · have d11 : vs 11 = .pointer (some ⟨p, 0, none⟩) := hR 11 (by simp [hdep])
        have e35 : ac.eval (.tmp 35) = .pointer (some ⟨p, 0, none⟩) := (hE 35 (by simp)).trans (by simp [evF, hdep, d11])
        exact soft_value (.pointer (some ⟨p, 18, none⟩)) (by unfold execOp; simp only [e35]; kernel_rfl) rfl
      · have d12 : vs 12 = .pointer (some ⟨p, 18, none⟩) := hR 12 (by simp [hdep])
        have e36 : ac.eval (.tmp 36) = .pointer (some ⟨p, 18, none⟩) := (hE 36 (by simp)).trans (by simp [evF, hdep, d12])
        have hc18 : W1.cell? ⟨p, 18, none⟩ = some (.int .i64 S.paid) := (HD6.out.below hB HD6.out.lt).cell 18
        exact soft_value (.int .i64 S.paid) (by unfold execOp; simp only [e36]; go_simp) rfl
      · have d13 : vs 13 = .int .i64 S.paid := hR 13 (by simp [hdep])
        have e37 : ac.eval (.tmp 37) = .int .i64 S.paid := (hE 37 (by simp)).trans (by simp [evF, hdep, d13])
        refine soft_call 24 _ _ rfl (enters_fn Tryz.func24 (by kernel_rfl) rfl) #[.int .i64 S.paid, .int .i64 10] (by simp [e37, ec]) ?_
        refine (fint_any S.paid ⟨by have := HSI.out.ok.lo; omega, by have := HSI.out.ok.hi; omega⟩ W1 (HTB.out.on (HB.out.trans (hB.mono HB.out.size))).here).mono ?_
        rintro e9 w9 ⟨rfl, hb9⟩
        exact ⟨_, rfl, hb9, rfl⟩
      · have d9 : vs 9 = .string ((((((((⟨#[100, 101, 97, 108, 32]⟩ : ByteArray) ++ (z : ByteArray)) : ByteArray) ++ (⟨#[32, 115, 116, 97, 116, 101, 32]⟩ : ByteArray)) : ByteArray) ++ ((itS S.st) : ByteArray)) : ByteArray) ++ (⟨#[32, 112, 97, 105, 100, 32]⟩ : ByteArray)) := hR 9 (by simp [hdep])
        have e33 : ac.eval (.tmp 33) = .string ((((((((⟨#[100, 101, 97, 108, 32]⟩ : ByteArray) ++ (z : ByteArray)) : ByteArray) ++ (⟨#[32, 115, 116, 97, 116, 101, 32]⟩ : ByteArray)) : ByteArray) ++ ((itS S.st) : ByteArray)) : ByteArray) ++ (⟨#[32, 112, 97, 105, 100, 32]⟩ : ByteArray)) := (hE 33 (by simp)).trans (by simp [evF, hdep, d9])
        have d14 : vs 14 = .string (itS S.paid) := hR 14 (by simp [hdep])
        have e38 : ac.eval (.tmp 38) = .string (itS S.paid) := (hE 38 (by simp)).trans (by simp [evF, hdep, d14])
        exact soft_value (.string ((((((((((⟨#[100, 101, 97, 108, 32]⟩ : ByteArray) ++ (z : ByteArray)) : ByteArray) ++ (⟨#[32, 115, 116, 97, 116, 101, 32]⟩ : ByteArray)) : ByteArray) ++ ((itS S.st) : ByteArray)) : ByteArray) ++ (⟨#[32, 112, 97, 105, 100, 32]⟩ : ByteArray)) : ByteArray) ++ ((itS S.paid) : ByteArray))) (by have := HSL.out; unfold execOp; simp only [e33, e38, ec]; go_simp; omega) rfl
      · have d15 : vs 15 = .string ((((((((((⟨#[100, 101, 97, 108, 32]⟩ : ByteArray) ++ (z : ByteArray)) : ByteArray) ++ (⟨#[32, 115, 116, 97, 116, 101, 32]⟩ : ByteArray)) : ByteArray) ++ ((itS S.st) : ByteArray)) : ByteArray) ++ (⟨#[32, 112, 97, 105, 100, 32]⟩ : ByteArray)) : ByteArray) ++ ((itS S.paid) : ByteArray)) := hR 15 (by simp [hdep])
        have e39 : ac.eval (.tmp 39) = .string ((((((((((⟨#[100, 101, 97, 108, 32]⟩ : ByteArray) ++ (z : ByteArray)) : ByteArray) ++ (⟨#[32, 115, 116, 97, 116, 101, 32]⟩ : ByteArray)) : ByteArray) ++ ((itS S.st) : ByteArray)) : ByteArray) ++ (⟨#[32, 112, 97, 105, 100, 32]⟩ : ByteArray)) : ByteArray) ++ ((itS S.paid) : ByteArray)) := (hE 39 (by simp)).trans (by simp [evF, hdep, d15])
        exact soft_value (.string ((((((((((((⟨#[100, 101, 97, 108, 32]⟩ : ByteArray) ++ (z : ByteArray)) : ByteArray) ++ (⟨#[32, 115, 116, 97, 116, 101, 32]⟩ : ByteArray)) : ByteArray) ++ ((itS S.st) : ByteArray)) : ByteArray) ++ (⟨#[32, 112, 97, 105, 100, 32]⟩ : ByteArray)) : ByteArray) ++ ((itS S.paid) : ByteArray)) : ByteArray) ++ (⟨#[10]⟩ : ByteArray))) (by have := HSL.out; unfold execOp; simp only [e39, ec]; go_simp; omega) rfl
      · have hall := hdep
        have e3 : ac.eval (.tmp 3) = .pointer (some ⟨g, 0, none⟩) := (hE 3 (by simp)).trans (by simp [evF, Act.eval])
        have d16 : vs 16 = .string ((((((((((((⟨#[100, 101, 97, 108, 32]⟩ : ByteArray) ++ (z : ByteArray)) : ByteArray) ++ (⟨#[32, 115, 116, 97, 116, 101, 32]⟩ : ByteArray)) : ByteArray) ++ ((itS S.st) : ByteArray)) : ByteArray) ++ (⟨#[32, 112, 97, 105, 100, 32]⟩ : ByteArray)) : ByteArray) ++ ((itS S.paid) : ByteArray)) : ByteArray) ++ (⟨#[10]⟩ : ByteArray)) := hR 16 (by omega)
        have e40 : ac.eval (.tmp 40) = .string ((((((((((((⟨#[100, 101, 97, 108, 32]⟩ : ByteArray) ++ (z : ByteArray)) : ByteArray) ++ (⟨#[32, 115, 116, 97, 116, 101, 32]⟩ : ByteArray)) : ByteArray) ++ ((itS S.st) : ByteArray)) : ByteArray) ++ (⟨#[32, 112, 97, 105, 100, 32]⟩ : ByteArray)) : ByteArray) ++ ((itS S.paid) : ByteArray)) : ByteArray) ++ (⟨#[10]⟩ : ByteArray)) := (hE 40 (by simp)).trans (by simp [evF, hall 16 (by omega), d16])
        have hline : (((((((((((((⟨#[100, 101, 97, 108, 32]⟩ : ByteArray) ++ (z : ByteArray)) : ByteArray) ++ (⟨#[32, 115, 116, 97, 116, 101, 32]⟩ : ByteArray)) : ByteArray) ++ ((itS S.st) : ByteArray)) : ByteArray) ++ (⟨#[32, 112, 97, 105, 100, 32]⟩ : ByteArray)) : ByteArray) ++ ((itS S.paid) : ByteArray)) : ByteArray) ++ (⟨#[10]⟩ : ByteArray)) : ByteArray) = lineV z S := rfl
        rw [hline] at e40
        refine wp_call_fn 22 _ _ rfl (enters_fn Tryz.func22 (by kernel_rfl) rfl) #[.pointer (some ⟨g, 0, none⟩), .string (lineV z S)] (by simp [e3, e40]) ?_
        refine (wstr_any g g _ (lineV z S) W1 (Bd.below HBD.out hB) (by have h1 := HTS.out; have h2 := bytes_len (textV st (l.take j)); omega) (Nat.le_trans HGS.out hB.size)).mono ?_
        rintro e9 w9 ⟨rfl, hbd9, hb9, hkp9⟩
        refine ⟨_, rfl, _, rfl, ?_⟩
        rw [cells_app, ← HTK.out] at hbd9
        have HBD9 := Lib.hid hbd9
        have HB9 : Hid (Below w.heap.size w w9) := Lib.hid ((HB.out.trans (hB.mono HB.out.size)).trans (hb9.mono (by have := HGE.out; omega)))
        have HO9 : Hid (w9.ownsRow B1 9 1 (.slice (some ⟨b, off, none⟩) L c1) L (l.flatMap strC)) := Lib.hid (own_other (own_on HO.out hB) (fun k cs hk => hkp9 k _ cs hk (by decide) (by decide)))
        simp only [fillA, Act.put, List.setIfInBounds_toArray, List.set_cons_zero, List.set_cons_succ, if_true]
        clear hbd9 hb9 hkp9 hB hR hE hdep hall
        go_wp2_with fail
        go_roundw
        case rel => exact ⟨j + 1, by omega, by go_num, HBD9, HB9, HO9⟩
        case measure => simp [intOf]; omega
    · have i0' : ¬ (j : Int) < (L : Int) := by omega
      have HE : Hid (textV st (l.take j) = textV st l) := Lib.hid (by rw [List.take_of_length_le (by have := HLL.out; omega)])
      have HST := Lib.hid (Tryz.Builder_String_any g g (textV st (l.take j)).data.toList wr HBD.out HGS.out)
      go_wp2_with fail
      refine HST.out.mono ?_
      rintro e w4 ⟨rfl, hb4⟩
      have HB4 : Hid (Below w.heap.size w w4) := Lib.hid (HB.out.trans (hb4.mono (by have := HGE.out; omega)))
      clear hb4
      go_wp2_with fail
      go_ret
      exact ⟨by rw [← HE.out, ← ba_back (textV st (l.take j))]; rfl, HB4.out⟩
end Go.Proofs.YtdanjegnhdpnlaaGreatDoor.kit

