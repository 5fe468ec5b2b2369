/- Drafts in plain words: which may be, what is done, who is liable. No condition. -/
import Derived.Test.YtlaclkiedjhphaaGreatDoorNum
namespace Go.Proofs.YtlaclkiedjhphaaGreatDoor.kit
open Go.RowKit Go.PlainAid
set_option linter.unusedVariables false

structure Dr where
  num : ByteArray
  drw : ByteArray
  dre : ByteArray
  pay : ByteArray
  cur : ByteArray
  amt : Int
  kind : Int
  days : Int
  fr : Int
structure Dr.ok (d : Dr) : Prop where
  n : d.num.size ≤ maxLen
  w : d.drw.size ≤ maxLen
  e : d.dre.size ≤ maxLen
  p : d.pay.size ≤ maxLen
  c : d.cur.size ≤ maxLen
structure Bl where
  d : Dr
  st : Int
  acc : Bool
  hol : ByteArray
  pas : List ByteArray
  last : Int

/-! texts in order -/
def ltS (a b : ByteArray) : Prop := a.data.toList < b.data.toList
instance (a b : ByteArray) : Decidable (ltS a b) := inferInstanceAs (Decidable (a.data.toList < b.data.toList))
theorem ba_ext {a b : ByteArray} (h : a.data.toList = b.data.toList) : a = b := ByteArray.ext (Array.toList_inj.1 h)
theorem ltS_irr (a : ByteArray) : ¬ ltS a a := List.lt_irrefl _
theorem ltS_trans {a b c : ByteArray} (h : ltS a b) (h' : ltS b c) : ltS a c := List.lt_trans h h'
theorem ltS_cases (a b : ByteArray) : ltS a b ∨ a = b ∨ ltS b a := by
  by_cases h : ltS a b
  · exact .inl h
  by_cases h' : ltS b a
  · exact .inr (.inr h')
  · exact .inr (.inl (ba_ext (List.le_antisymm (List.not_lt.1 h') (List.not_lt.1 h))))
def risS (l : List ByteArray) : Prop := l.Pairwise ltS
def putS : List ByteArray → ByteArray → List ByteArray
  | [], s => [s]
  | x :: l, s => if ltS x s then x :: putS l s else if x = s then x :: l else s :: x :: l
theorem put_mem (s z : ByteArray) : ∀ l, z ∈ putS l s ↔ z = s ∨ z ∈ l
  | [] => by simp [putS]
  | x :: l => by
    unfold putS
    by_cases h : ltS x s
    · rw [if_pos h, List.mem_cons, put_mem s z l, List.mem_cons]
      constructor
      · rintro (h | h | h)
        · exact .inr (.inl h)
        · exact .inl h
        · exact .inr (.inr h)
      · rintro (h | h | h)
        · exact .inr (.inl h)
        · exact .inl h
        · exact .inr (.inr h)
    · rw [if_neg h]
      by_cases h' : x = s
      · rw [if_pos h', h']
        simp
      · rw [if_neg h', List.mem_cons, List.mem_cons]
theorem put_up (s : ByteArray) : ∀ l, risS l → risS (putS l s)
  | [], _ => by simp [putS, risS]
  | x :: l, h => by
    have h' := List.pairwise_cons.1 h
    unfold putS
    by_cases hx : ltS x s
    · rw [if_pos hx]
      refine List.pairwise_cons.2 ⟨fun z hz => ?_, put_up s l h'.2⟩
      rcases (put_mem s z l).1 hz with h1 | h1
      · rw [h1]; exact hx
      · exact h'.1 z h1
    · rw [if_neg hx]
      by_cases hs : x = s
      · rw [if_pos hs]; exact h
      · rw [if_neg hs]
        have hsx : ltS s x := by
          rcases ltS_cases x s with h1 | h1 | h1
          · exact (hx h1).elim
          · exact (hs h1).elim
          · exact h1
        refine List.pairwise_cons.2 ⟨fun z hz => ?_, h⟩
        rcases List.mem_cons.1 hz with h1 | h1
        · rw [h1]; exact hsx
        · exact ltS_trans hsx (h'.1 z h1)
theorem put_len (s : ByteArray) : ∀ l, (putS l s).length ≤ l.length + 1
  | [] => by simp [putS]
  | x :: l => by
    unfold putS
    by_cases h : ltS x s
    · rw [if_pos h, List.length_cons, List.length_cons]
      have := put_len s l
      omega
    · rw [if_neg h]
      by_cases h' : x = s
      · rw [if_pos h']; omega
      · rw [if_neg h']; simp
theorem ris_ext : ∀ {a b : List ByteArray}, risS a → risS b → (∀ z, z ∈ a ↔ z ∈ b) → a = b
  | [], [], _, _, _ => rfl
  | [], y :: b, _, _, h => by have := (h y).2 (List.mem_cons_self ..); cases this
  | x :: a, [], _, _, h => by have := (h x).1 (List.mem_cons_self ..); cases this
  | x :: a, y :: b, ha, hb, h => by
    have ha' := List.pairwise_cons.1 ha
    have hb' := List.pairwise_cons.1 hb
    have hxy : x = y := by
      rcases List.mem_cons.1 ((h x).1 (List.mem_cons_self ..)) with h1 | h1
      · exact h1
      · rcases List.mem_cons.1 ((h y).2 (List.mem_cons_self ..)) with h3 | h3
        · exact h3.symm
        · exact (ltS_irr _ (ltS_trans (ha'.1 y h3) (hb'.1 x h1))).elim
    subst hxy
    congr 1
    refine ris_ext ha'.2 hb'.2 fun z => ?_
    constructor
    · intro hz
      have h1 := ha'.1 z hz
      rcases List.mem_cons.1 ((h z).1 (List.mem_cons_of_mem _ hz)) with h2 | h2
      · rw [h2] at h1; exact (ltS_irr _ h1).elim
      · exact h2
    · intro hz
      have h1 := hb'.1 z hz
      rcases List.mem_cons.1 ((h z).2 (List.mem_cons_of_mem _ hz)) with h2 | h2
      · rw [h2] at h1; exact (ltS_irr _ h1).elim
      · exact h2
/-- Sorted keys, each once, are the rising list of the same texts. -/
theorem sorted_ris {ss : List (List UInt8)} {l : List ByteArray} (hn : ss.Nodup) (hl : risS l) (h : ∀ x, x ∈ ss ↔ bstr x ∈ l) : (ss.mergeSort fun x y => decide (x ≤ y)).map bstr = l := by
  have hs : (ss.mergeSort fun x y => decide (x ≤ y)).Pairwise (· ≤ ·) := by
    have h := List.pairwise_mergeSort (le := fun (x y : List UInt8) => decide (x ≤ y)) (fun x y z h1 h2 => by simp at h1 h2 ⊢; exact List.le_trans h1 h2) (fun x y => by simp; exact List.le_total x y) ss
    exact h.imp (fun h => by simpa using h)
  have hnd : (ss.mergeSort fun x y => decide (x ≤ y)).Nodup := (List.mergeSort_perm ss _).nodup_iff.2 hn
  refine ris_ext ?_ hl fun z => ?_
  · unfold risS
    rw [List.pairwise_map]
    have h2 := hs.and hnd
    refine h2.imp fun {a b} hab => ?_
    show (bstr a).data.toList < (bstr b).data.toList
    rw [data_bstr, data_bstr]
    rcases List.le_iff_lt_or_eq.1 hab.1 with h3 | h3
    · exact h3
    · exact (hab.2 h3).elim
  · rw [List.mem_map]
    constructor
    · rintro ⟨x, hx, rfl⟩
      exact (h x).1 (List.mem_mergeSort.1 hx)
    · intro hz
      refine ⟨z.data.toList, List.mem_mergeSort.2 ((h _).2 ?_), ba_ext (data_bstr _)⟩
      rw [show bstr z.data.toList = z from ba_ext (data_bstr _)]
      exact hz

/-! what may be -/
def isDay (n : Int) : Bool := decide (0 ≤ n ∧ n ≤ 1048576)
def upB (c : Int) : Bool := decide (65 ≤ c) && decide (c ≤ 90)
def curF (s : ByteArray) : Nat → Bool
  | 0 => true
  | k + 1 => curF s k && upB (bt s k)
def curB (s : ByteArray) : Bool := decide (s.size = 3) && curF s 3
def kindB (k n : Int) : Bool := if k = 0 then decide (n = 0) else decide ((k = 1 ∨ k = 2) ∧ 1 ≤ n ∧ n ≤ 1000)
def nmB (s : ByteArray) : Bool := nameB s.data.toList
def mayD (d : Dr) : Bool :=
  nmB d.num && (nmB d.drw && (nmB d.dre && (nmB d.pay && (!decide (d.drw = d.dre) && (!decide (d.pay = d.dre) && (curB d.cur && (decide (1 ≤ d.amt ∧ d.amt ≤ 1099511627776) && (isDay d.fr && kindB d.kind d.days))))))))

/-! what is done -/
def owers (b : Bl) : List ByteArray := b.pas ++ b.d.drw :: (if b.acc then [b.d.dre] else [])
def addS (h : ByteArray) (o : List ByteArray) (s : ByteArray) : List ByteArray := if s = h then o else putS o s
def liaF (h : ByteArray) (l : List ByteArray) : List ByteArray := l.foldl (addS h) []
def liaV (b : Bl) : List ByteArray := if b.st = 2 then [] else liaF b.hol (owers b)
theorem add_mem (h s z : ByteArray) (o : List ByteArray) : z ∈ addS h o s ↔ (z = s ∧ z ≠ h) ∨ z ∈ o := by
  unfold addS
  by_cases e : s = h
  · rw [if_pos e]
    constructor
    · exact .inr
    · rintro (⟨h1, h2⟩ | h1)
      · exact (h2 (h1.trans e)).elim
      · exact h1
  · rw [if_neg e, put_mem]
    constructor
    · rintro (h1 | h1)
      · exact .inl ⟨h1, by rw [h1]; exact e⟩
      · exact .inr h1
    · rintro (h1 | h1)
      · exact .inl h1.1
      · exact .inr h1
theorem fold_mem (h z : ByteArray) : ∀ (l o : List ByteArray), z ∈ l.foldl (addS h) o ↔ (z ∈ l ∧ z ≠ h) ∨ z ∈ o
  | [], o => by simp
  | s :: l, o => by
    rw [List.foldl_cons, fold_mem h z l, add_mem, List.mem_cons]
    constructor
    · rintro (h1 | h1 | h1)
      · exact .inl ⟨.inr h1.1, h1.2⟩
      · exact .inl ⟨.inl h1.1, h1.2⟩
      · exact .inr h1
    · rintro (⟨h1 | h1, h2⟩ | h1)
      · exact .inr (.inl ⟨h1, h2⟩)
      · exact .inl ⟨h1, h2⟩
      · exact .inr (.inr h1)
theorem add_up (h s : ByteArray) (o : List ByteArray) (ho : risS o) : risS (addS h o s) := by
  unfold addS
  by_cases e : s = h
  · rw [if_pos e]; exact ho
  · rw [if_neg e]; exact put_up s o ho
theorem fold_up (h : ByteArray) : ∀ (l o : List ByteArray), risS o → risS (l.foldl (addS h) o)
  | [], o, ho => ho
  | s :: l, o, ho => fold_up h l _ (add_up h s o ho)
theorem add_len (h s : ByteArray) (o : List ByteArray) : (addS h o s).length ≤ o.length + 1 := by
  unfold addS
  by_cases e : s = h
  · rw [if_pos e]; omega
  · rw [if_neg e]; exact put_len s o
theorem fold_len (h : ByteArray) : ∀ (l o : List ByteArray), (l.foldl (addS h) o).length ≤ o.length + l.length
  | [], o => by simp
  | s :: l, o => by
    rw [List.foldl_cons, List.length_cons]
    have h1 := fold_len h l (addS h o s)
    have h2 := add_len h s o
    omega
theorem lia_up (b : Bl) : risS (liaV b) := by
  unfold liaV
  by_cases h : b.st = 2
  · rw [if_pos h]; exact .nil
  · rw [if_neg h]; exact fold_up _ _ _ .nil
theorem lia_mem {b : Bl} (h : b.st ≠ 2) (z : ByteArray) : z ∈ liaV b ↔ z ∈ owers b ∧ z ≠ b.hol := by
  unfold liaV liaF
  rw [if_neg h, fold_mem]
  simp
theorem owers_len (b : Bl) : (owers b).length ≤ b.pas.length + 2 := by
  unfold owers
  cases b.acc <;> simp
theorem lia_len (b : Bl) : (liaV b).length ≤ b.pas.length + 2 := by
  unfold liaV liaF
  by_cases h : b.st = 2
  · rw [if_pos h]; simp
  · rw [if_neg h]
    have h1 := fold_len b.hol (owers b) []
    have h2 := owers_len b
    simp only [List.length_nil] at h1
    omega
def memS (l : List ByteArray) (s : ByteArray) : Bool := l.any fun x => decide (x = s)
theorem memS_iff {l : List ByteArray} {s : ByteArray} : memS l s = true ↔ s ∈ l := by
  unfold memS
  rw [List.any_eq_true]
  constructor
  · rintro ⟨x, hx, h⟩
    rw [← of_decide_eq_true h]; exact hx
  · intro h
    exact ⟨s, h, decide_eq_true rfl⟩
def newV (d : Dr) : Bl := ⟨d, 0, false, d.pay, [], d.fr⟩
/-- What is wrong with something that is done, by the first of four questions. -/
def stepV (b : Bl) (by_ : ByteArray) (on : Int) (st ho : Bool) : Int :=
  if (nmB by_ && isDay on) = false then 1 else if on < b.last then 6 else if st = false then 9 else if ho = false then 8 else 0
def canV (b : Bl) (call : Int) : Bool :=
  if call = 0 then decide (b.st = 0) && !decide (b.d.kind = 0) else if call = 1 ∨ call = 3 then decide (b.st = 0 ∨ b.st = 1) else decide (b.st = 1 ∨ b.st = 3) || (decide (b.st = 0) && decide (b.d.kind = 0))
def whoV (b : Bl) (call : Int) (s : ByteArray) : Bool :=
  if call = 1 ∨ call = 3 then decide (s = b.hol) else if call = 2 ∧ b.st = 3 then memS (liaV b) s else decide (s = b.d.dre)
def codeV (b : Bl) (call : Int) (s t : ByteArray) (day : Int) : Int :=
  if call = 1 ∧ (nmB t && !decide (t = s)) = false then 1 else stepV b s day (canV b call) (whoV b call s)
def doneV (b : Bl) (call : Int) (s t : ByteArray) (day : Int) : Bl :=
  if call = 0 then { b with st := 1, acc := true, last := day } else if call = 1 then { b with pas := b.pas ++ [s], hol := t, last := day } else if call = 2 then { b with st := 2, last := day } else { b with st := 3, last := day }
def nextV (b : Bl) (call : Int) (s t : ByteArray) (day : Int) : Bl := if codeV b call s t day = 0 then doneV b call s t day else b
end Go.Proofs.YtlaclkiedjhphaaGreatDoor.kit
