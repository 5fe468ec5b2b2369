/- A new office in plain words; copies of boxes and of lots. No condition. -/
import Derived.Test.YtdanjegnhdpnlaaGreatDoorOfM
import Derived.Deep.Cut
import Derived.Lib.Slices
namespace Go.Proofs.YtdanjegnhdpnlaaGreatDoor.kit
open Go.RowKit
set_option linter.unusedVariables false
set_option linter.unusedSimpArgs false
structure Pty where
  nm : ByteArray
  bank : ByteArray
  kind : Int
def ptyC (x : Pty) : List Value := [.string x.nm, .string x.bank, .int .i64 x.kind]
theorem pty_len (x : Pty) : (ptyC x).length = 3 := rfl
abbrev Lo := ByteArray × Int
def loC (x : Lo) : List Value := [.string x.1, .int .i64 x.2]
theorem lo_len (x : Lo) : (loC x).length = 2 := rfl
structure Bx where
  mark : ByteArray
  kind : Int
  A : Option Addr
  n : Nat
  c : Nat
def bxC (x : Bx) : List Value := [.string x.mark, .int .i64 x.kind, .slice x.A x.n x.c]
theorem bx_len (x : Bx) : (bxC x).length = 3 := rfl
/-- A deal that is handed in: its data, its boxes as a slice. -/
structure Dx where
  d : Dl
  A : Option Addr
  n : Nat
  c : Nat
def dxC (x : Dx) : List Value := dlC x.d (.slice x.A x.n x.c)
theorem dx_len (x : Dx) : (dxC x).length = 17 := rfl
def LotOK (W : World) (b : Bx) : Prop := b.n * 24 ≤ 140737488355328 ∧ ∃ ls : List Lo, SliceOf W 2 loC b.A b.n ls
def BoxOK (W : World) (x : Dx) : Prop := x.n * 48 ≤ 140737488355328 ∧ ∃ bs : List Bx, SliceOf W 3 bxC x.A x.n bs ∧ ∀ b ∈ bs, LotOK W b
theorem LotOK.below {W W' : World} {b : Bx} (h : LotOK W b) (hb : Below W.heap.size W W') : LotOK W' b := ⟨h.1, h.2.elim fun ls q => ⟨ls, q.below hb⟩⟩
theorem BoxOK.below {W W' : World} {x : Dx} (h : BoxOK W x) (hb : Below W.heap.size W W') : BoxOK W' x := ⟨h.1, h.2.elim fun bs q => ⟨bs, q.1.below hb, fun b hm => (q.2 b hm).below hb⟩⟩
theorem bx_one (xs : List Bx) : ∀ u ∈ xs.flatMap bxC, u.oneCell' = true := by
  intro u hu
  obtain ⟨x, _, hx⟩ := List.mem_flatMap.1 hu
  simp [bxC] at hx
  rcases hx with rfl | rfl | rfl <;> rfl
theorem lo_one (xs : List Lo) : ∀ u ∈ xs.flatMap loC, u.oneCell' = true := by
  intro u hu
  obtain ⟨x, _, hx⟩ := List.mem_flatMap.1 hu
  simp [loC] at hx
  rcases hx with rfl | rfl <;> rfl
theorem infoBx : (Tryz.prog.info? 92).map (fun i => (i.zero, i.size, i.bytes)) = some (some (.agg #[.string ⟨#[]⟩, .int .i64 0, .slice none 0 0]), 3, 48) := by kernel_rfl
theorem infoLo : (Tryz.prog.info? 95).map (fun i => (i.zero, i.size, i.bytes)) = some (some (.agg #[.string ⟨#[]⟩, .int .i64 0]), 2, 24) := by kernel_rfl
/-- What an office is, by its name. -/
def whoV (nm : ByteArray) : List Pty → Int × ByteArray
  | [] => (-1, ⟨#[]⟩)
  | p :: l => if p.nm = nm then (if p.kind = 3 ∨ p.kind = 4 then (p.kind, p.bank) else (-1, ⟨#[]⟩)) else whoV nm l
def mineB (nm : ByteArray) (kind : Int) (d : Dl) : Bool := (decide (kind = 3) && decide (d.hou = nm)) || (decide (kind = 4) && decide (d.ins = nm))
/-- Its deals: the first of each number, if it is its own. -/
def dealsOf (nm : ByteArray) (kind : Int) (xs : List Dx) (k : ByteArray) : Option Dl := match xs.find? (fun x => decide (x.d.num = k)) with
  | some x => if mineB nm kind x.d = true then some x.d else none
  | none => none
def seenB (xs : List Dx) (k : ByteArray) : Bool := xs.any (fun x => decide (x.d.num = k))
theorem deals_seen {nm : ByteArray} {kind : Int} {xs : List Dx} {x : Dx} (h : seenB xs x.d.num = true) (k : ByteArray) : dealsOf nm kind (xs ++ [x]) k = dealsOf nm kind xs k := by
  unfold dealsOf
  rw [List.find?_append]
  cases hf : xs.find? (fun x => decide (x.d.num = k)) with
  | some y => rfl
  | none =>
    have : ¬ x.d.num = k := by
      rintro rfl
      unfold seenB at h
      rw [List.any_eq_true] at h
      obtain ⟨y, hy, he⟩ := h
      have := List.find?_eq_none.1 hf y hy
      exact this he
    simp [this]
theorem deals_new {nm : ByteArray} {kind : Int} {xs : List Dx} {x : Dx} (h : seenB xs x.d.num = false) (k : ByteArray) : dealsOf nm kind (xs ++ [x]) k = if k = x.d.num then (if mineB nm kind x.d = true then some x.d else none) else dealsOf nm kind xs k := by
  unfold dealsOf
  rw [List.find?_append]
  by_cases e : k = x.d.num
  · subst e
    rw [if_pos rfl]
    have hf : xs.find? (fun y => decide (y.d.num = x.d.num)) = none := by
      rw [List.find?_eq_none]
      intro y hy he
      unfold seenB at h
      rw [List.any_eq_false] at h
      exact h y hy he
    rw [hf]
    simp
  · rw [if_neg e]
    have : ¬ x.d.num = k := fun h => e h.symm
    cases hf : xs.find? (fun x => decide (x.d.num = k)) with
    | some y => rfl
    | none => simp [this]
theorem deals_none {nm : ByteArray} {kind : Int} {xs : List Dx} {x : Dx} (h : seenB xs x.d.num = false) : dealsOf nm kind xs x.d.num = none := by
  unfold dealsOf
  have hf : xs.find? (fun y => decide (y.d.num = x.d.num)) = none := by
    rw [List.find?_eq_none]
    intro y hy he
    unfold seenB at h
    rw [List.any_eq_false] at h
    exact h y hy he
  rw [hf]
theorem seen_app (xs : List Dx) (x : Dx) (k : ByteArray) : seenB (xs ++ [x]) k = (seenB xs k || decide (x.d.num = k)) := by
  unfold seenB
  simp
theorem takeDx {xs : List Dx} {k : Nat} {x : Dx} (h : xs[k]? = some x) : xs.take (k + 1) = xs.take k ++ [x] := by rw [List.take_add_one, h]; rfl
theorem who_from {nm : ByteArray} {ps : List Pty} {k : Nat} {p : Pty} (h : ps[k]? = some p) : whoV nm (ps.drop k) = if p.nm = nm then (if p.kind = 3 ∨ p.kind = 4 then (p.kind, p.bank) else (-1, ⟨#[]⟩)) else whoV nm (ps.drop (k + 1)) := by
  have hk := (List.getElem?_eq_some_iff.1 h).1
  rw [List.drop_eq_getElem_cons hk, (List.getElem?_eq_some_iff.1 h).2]
  rfl
/-- The cells of an element of a slice. -/
theorem el_at {α : Type} {w : World} {C n : Nat} {en : α → List Value} {A : Option Addr} {xs : List α} (h : SliceOf w C en A n xs) {k : Nat} (hk : k < n) : ∃ b off x, A = some ⟨b, off, none⟩ ∧ xs[k]? = some x ∧ ∀ j v, (en x)[j]? = some v → w.cell? ⟨b, off + k * C + j, none⟩ = some v := by
  have hl := h.len
  obtain ⟨x, hxk⟩ : ∃ x, xs[k]? = some x := ⟨_, List.getElem?_eq_getElem (by omega)⟩
  obtain ⟨b, off, rfl, hb, hc⟩ := h.at_ (by omega)
  exact ⟨b, off, x, rfl, hxk, fun j v hv => by have := hc k _ hxk j v hv; rwa [← Nat.add_assoc] at this⟩
set_option maxRecDepth 100000
set_option maxHeartbeats 3200000
/-- Boxes that a clone copies: a row of one's own. -/
theorem clone_bxs (A : Option Addr) (n c : Nat) (xs : List Bx) (w : World) (hx : SliceOf w 3 bxC A n xs) (hm : n * 48 ≤ 140737488355328) :
    Calls Tryz.prog 28 #[.slice A n c] w fun e w' => ∃ v, e = .returned v ∧ w'.ownsRow w.heap.size 92 3 v n (xs.flatMap bxC) ∧ Below w.heap.size w w' := by
  have q : ∀ (w : World) (a : Option Addr) (n c n' c' : Nat), (binOp .eql 51 (.slice a n c) (.slice none n' c')).run Tryz.prog w = .ok (.bool a.isNone) w := fun w a n c n' c' => Lib.run_eql_slice_nil w _ _ a n c n' c' Tryz.underlying51
  cases A with
  | none =>
    have hn : n = 0 := by
      rcases Nat.eq_zero_or_pos n with h | h
      · exact h
      · obtain ⟨b, off, h2, _⟩ := hx.at_ h
        cases h2
    subst hn
    have hxs : xs = [] := List.eq_nil_of_length_eq_zero hx.len
    subst hxs
    clear hx
    go_enter Tryz.func28, Tryz.ntmps28
    go_wp2_with fail
    go_ret
    exact ⟨_, rfl, World.ownsRow_nil _ _ _ _, Below.refl _ _⟩
  | some a =>
    have HR := Lib.hid ((hx.below (one_alloc w (.cells #[] 92))).reads bx_len)
    have HO := Lib.hid (own_first0 (e := 92) (C := 3) w)
    have HB := Lib.hid (one_alloc w (.cells #[] 92))
    have hbs : (Instr.buildSlice 51 0 #[]).run Tryz.prog w = .ok (.slice (some ⟨w.heap.size, 0, none⟩) 0 0) (w.alloc (.cells #[] 92)) := by kernel_rfl
    obtain ⟨i0, hi, hz0, hz1, hz2⟩ := info_parts infoBx
    have HS : Hid (w.heap.size ≤ (w.alloc (.cells #[] 92)).heap.size) := Lib.hid (size_first0 _ _)
    clear hx
    go_enter Tryz.func28, Tryz.ntmps28
    go_wp2_with (at_builtin; refine wpList_append_any_s _ rfl (.tmp 5) (.tmp 6) 51 rfl w.heap.size 92 i0 _ 3 48 Tryz.underlying51 hi hz0 hz1 hz2 rfl (by omega) _ 0 [] rfl HO.out _ (some a) n c (xs.flatMap bxC) rfl HR.out (bx_one xs) (by unfold maxLen; omega) (by omega) HS.out ?_; intro A9 c9 w9 hown9 hg9 hl9; have HB9 := Lib.hid (grown_emp0 HB.out hg9 (Nat.le_refl _)); have HO9 := Lib.hid hown9; clear hown9 hg9 hl9)
    go_ret
    exact ⟨_, rfl, by simpa using HO9.out, HB9.out⟩
/-- Lots that a clone copies: a row of one's own. -/
theorem clone_los (A : Option Addr) (n c : Nat) (xs : List Lo) (w : World) (hx : SliceOf w 2 loC A n xs) (hm : n * 24 ≤ 140737488355328) :
    Calls Tryz.prog 29 #[.slice A n c] w fun e w' => ∃ v, e = .returned v ∧ w'.ownsRow w.heap.size 95 2 v n (xs.flatMap loC) ∧ Below w.heap.size w w' := by
  have q : ∀ (w : World) (a : Option Addr) (n c n' c' : Nat), (binOp .eql 90 (.slice a n c) (.slice none n' c')).run Tryz.prog w = .ok (.bool a.isNone) w := fun w a n c n' c' => Lib.run_eql_slice_nil w _ _ a n c n' c' Tryz.underlying90
  cases A with
  | none =>
    have hn : n = 0 := by
      rcases Nat.eq_zero_or_pos n with h | h
      · exact h
      · obtain ⟨b, off, h2, _⟩ := hx.at_ h
        cases h2
    subst hn
    have hxs : xs = [] := List.eq_nil_of_length_eq_zero hx.len
    subst hxs
    clear hx
    go_enter Tryz.func29, Tryz.ntmps29
    go_wp2_with fail
    go_ret
    exact ⟨_, rfl, World.ownsRow_nil _ _ _ _, Below.refl _ _⟩
  | some a =>
    have HR := Lib.hid ((hx.below (one_alloc w (.cells #[] 95))).reads lo_len)
    have HO := Lib.hid (own_first0 (e := 95) (C := 2) w)
    have HB := Lib.hid (one_alloc w (.cells #[] 95))
    have hbs : (Instr.buildSlice 90 0 #[]).run Tryz.prog w = .ok (.slice (some ⟨w.heap.size, 0, none⟩) 0 0) (w.alloc (.cells #[] 95)) := by kernel_rfl
    obtain ⟨i0, hi, hz0, hz1, hz2⟩ := info_parts infoLo
    have HS : Hid (w.heap.size ≤ (w.alloc (.cells #[] 95)).heap.size) := Lib.hid (size_first0 _ _)
    clear hx
    go_enter Tryz.func29, Tryz.ntmps29
    go_wp2_with (at_builtin; refine wpList_append_any_s _ rfl (.tmp 5) (.tmp 6) 90 rfl w.heap.size 95 i0 _ 2 24 Tryz.underlying90 hi hz0 hz1 hz2 rfl (by omega) _ 0 [] rfl HO.out _ (some a) n c (xs.flatMap loC) rfl HR.out (lo_one xs) (by unfold maxLen; omega) (by omega) HS.out ?_; intro A9 c9 w9 hown9 hg9 hl9; have HB9 := Lib.hid (grown_emp0 HB.out hg9 (Nat.le_refl _)); have HO9 := Lib.hid hown9; clear hown9 hg9 hl9)
    go_ret
    exact ⟨_, rfl, by simpa using HO9.out, HB9.out⟩
end Go.Proofs.YtdanjegnhdpnlaaGreatDoor.kit
