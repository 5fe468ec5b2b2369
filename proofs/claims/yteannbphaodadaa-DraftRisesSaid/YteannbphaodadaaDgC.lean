/- The document's bill turned; small laws. No condition. -/
import Derived.Test.YteannbphaodadaaDgB
import Derived.Test.YteannbphaodadaaDfF
namespace Go.Proofs.Yteannbphaodadaa.kit
open Go.RowKit Go.PlainAid Go.Maps
set_option linter.unusedVariables false

theorem SliceOf.farSet {w : World} {A : Option Addr} {n g i : Nat} {xs : List ByteArray} {v : Value} (h : SliceOf w 1 strC A n xs) (ap : ∀ x off, A = some ⟨x, off, none⟩ → x ≠ g) : SliceOf (w.setCell ⟨g, i, none⟩ v) 1 strC A n xs := by
  refine ⟨h.len, ?_⟩
  rcases h.cells with h0 | ⟨b, off, rfl, hb, hc⟩
  · exact .inl h0
  · refine .inr ⟨b, off, rfl, by simpa [World.setCell] using hb, fun k x hx j u hu => ?_⟩
    rw [World.cell?_setCell_far _ _ _ _ (fun e => ap b off rfl e.symm)]
    exact hc k x hx j u hu
theorem IsRef.set3 {w : World} {g n c : Nat} {A : Option Addr} {b b' : Bl} {i j k : Nat} {u v x : Value} (h : IsRef w g A n c b) (hc : (((#[.string b.d.num, .string b.d.drw, .string b.d.dre, .string b.d.pay, .string b.d.cur, .int .i64 b.d.amt, .int .i64 b.d.kind, .int .i64 b.d.days, .int .i64 b.d.fr, .int .i64 b.st, .bool b.acc, .string b.hol, .slice A n c, .int .i64 b.last]).setIfInBounds i u).setIfInBounds j v).setIfInBounds k x = #[.string b'.d.num, .string b'.d.drw, .string b'.d.dre, .string b'.d.pay, .string b'.d.cur, .int .i64 b'.d.amt, .int .i64 b'.d.kind, .int .i64 b'.d.days, .int .i64 b'.d.fr, .int .i64 b'.st, .bool b'.acc, .string b'.hol, .slice A n c, .int .i64 b'.last]) (hd : b'.d = b.d) (hp : b'.pas = b.pas) (hh : b'.hol.size ≤ maxLen) (hs : 0 ≤ b'.st) :
    IsRef (((w.setCell ⟨g, i, none⟩ u).setCell ⟨g, j, none⟩ v).setCell ⟨g, k, none⟩ x) g A n c b' := by
  refine ⟨?_, by rw [hp]; exact SliceOf.farSet (SliceOf.farSet (SliceOf.farSet h.sl h.ap) h.ap) h.ap, h.nc, h.cm, h.ap, by rw [hd]; exact h.dok, hh, by rw [hp]; exact h.pas, by rw [hp]; exact h.len, hs⟩
  rw [← hc]
  exact ((h.blk.set_ i u).set_ j v).set_ k x
theorem IsRef.set2 {w : World} {g n c : Nat} {A : Option Addr} {b b' : Bl} {i j : Nat} {u v : Value} (h : IsRef w g A n c b) (hc : ((#[.string b.d.num, .string b.d.drw, .string b.d.dre, .string b.d.pay, .string b.d.cur, .int .i64 b.d.amt, .int .i64 b.d.kind, .int .i64 b.d.days, .int .i64 b.d.fr, .int .i64 b.st, .bool b.acc, .string b.hol, .slice A n c, .int .i64 b.last]).setIfInBounds i u).setIfInBounds j v = #[.string b'.d.num, .string b'.d.drw, .string b'.d.dre, .string b'.d.pay, .string b'.d.cur, .int .i64 b'.d.amt, .int .i64 b'.d.kind, .int .i64 b'.d.days, .int .i64 b'.d.fr, .int .i64 b'.st, .bool b'.acc, .string b'.hol, .slice A n c, .int .i64 b'.last]) (hd : b'.d = b.d) (hp : b'.pas = b.pas) (hh : b'.hol.size ≤ maxLen) (hs : 0 ≤ b'.st) :
    IsRef ((w.setCell ⟨g, i, none⟩ u).setCell ⟨g, j, none⟩ v) g A n c b' := by
  refine ⟨?_, by rw [hp]; exact SliceOf.farSet (SliceOf.farSet h.sl h.ap) h.ap, h.nc, h.cm, h.ap, by rw [hd]; exact h.dok, hh, by rw [hp]; exact h.pas, by rw [hp]; exact h.len, hs⟩
  rw [← hc]
  exact (h.blk.set_ i u).set_ j v
theorem IsRef.set1 {w : World} {g n c : Nat} {A : Option Addr} {b b' : Bl} {i : Nat} {u : Value} (h : IsRef w g A n c b) (hc : (#[.string b.d.num, .string b.d.drw, .string b.d.dre, .string b.d.pay, .string b.d.cur, .int .i64 b.d.amt, .int .i64 b.d.kind, .int .i64 b.d.days, .int .i64 b.d.fr, .int .i64 b.st, .bool b.acc, .string b.hol, .slice A n c, .int .i64 b.last]).setIfInBounds i u = #[.string b'.d.num, .string b'.d.drw, .string b'.d.dre, .string b'.d.pay, .string b'.d.cur, .int .i64 b'.d.amt, .int .i64 b'.d.kind, .int .i64 b'.d.days, .int .i64 b'.d.fr, .int .i64 b'.st, .bool b'.acc, .string b'.hol, .slice A n c, .int .i64 b'.last]) (hd : b'.d = b.d) (hp : b'.pas = b.pas) (hh : b'.hol.size ≤ maxLen) (hs : 0 ≤ b'.st) :
    IsRef (w.setCell ⟨g, i, none⟩ u) g A n c b' := by
  refine ⟨?_, by rw [hp]; exact SliceOf.farSet h.sl h.ap, h.nc, h.cm, h.ap, by rw [hd]; exact h.dok, hh, by rw [hp]; exact h.pas, by rw [hp]; exact h.len, hs⟩
  rw [← hc]
  exact h.blk.set_ i u
/-- One more has passed it on. -/
theorem IsRef.more {V w8 : World} {g n c n' c' : Nat} {A A' : Option Addr} {b : Bl} {s t : ByteArray} (h : IsRef V g A n c b) (ho : w8.ownsRow V.heap.size 9 1 (.slice A' n' c') n' ((b.pas ++ [s]).flatMap strC)) (hn : n' = n + 1) (hb : Below V.heap.size V w8) (hs : s.size ≤ maxLen) (ht : t.size ≤ maxLen) (hl : b.pas.length < 1000) :
    IsRef ((w8.setCell ⟨g, 12, none⟩ (.slice A' n' c')).setCell ⟨g, 11, none⟩ (.string t)) g A' n' c' { b with pas := b.pas ++ [s], hol := t } := by
  have hl2 := h.sl.len
  obtain ⟨A6, c6, e6, u1, u2, u3, u5, u4⟩ := madeC_of ho (by rw [List.length_append, hl2, hn]; rfl) hb
  have e0 : (b.pas ++ [s]).length = n' := by rw [List.length_append, hl2, hn]; rfl
  rw [e0] at e6 u1 u3
  injection e6 with e7 e8 e9
  subst e7 e9
  have ap : ∀ x off, A' = some ⟨x, off, none⟩ → x ≠ g := fun x off e => by have := u5 x off e; have := h.blk.lt; omega
  refine ⟨((h.blk.below hb h.blk.lt).set_ 12 _).set_ 11 _, SliceOf.farSet (SliceOf.farSet u3 ap) ap, u1, u2, ap, h.dok, ht, fun x hx => ?_, by show (b.pas ++ [s]).length ≤ 1000; rw [List.length_append]; simp; omega, h.st0⟩
  rcases List.mem_append.1 hx with h1 | h1
  · exact h.pas x h1
  · rw [List.mem_singleton.1 h1]; exact hs
theorem IsRef.drewN {w : World} {g n c : Nat} {A : Option Addr} {b : Bl} (h : IsRef w g A n c b) (q : Nat) : IsRef (w.drewN q) g A n c b := h.below (below_drewN (Below.refl _ _) q)
theorem Turn.drewN {g mb : Nat} {w w' : World} (h : Turn g mb w w') (q : Nat) : Turn g mb w (w'.drewN q) := ⟨h.size, fun B w0 hb hg hm => below_drewN (h.bel B w0 hb hg hm) q, h.keep⟩
/-- The row that was, or a new one. -/
def Fresh (A A' : Option Addr) (n' : Nat) (w : World) : Prop := ∀ x off, A' = some ⟨x, off, none⟩ → A = some ⟨x, off, none⟩ ∨ (w.heap.size ≤ x ∧ 0 < n')
theorem Fresh.same (A : Option Addr) (n' : Nat) (w : World) : Fresh A A n' w := fun _ _ e => .inl e
theorem own_new {w' : World} {base k n' c' : Nat} {A' : Option Addr} {e : TypeId} {C : Nat} {ys : List Value} (h : w'.ownsRow base e C (.slice A' n' c') k ys) : ∀ x off, A' = some ⟨x, off, none⟩ → base ≤ x := by
  intro x off ea
  rcases h.2 with ⟨hv, _⟩ | ⟨g, cap, cur, hv, hg, _⟩
  · injection hv with h1; rw [h1] at ea; cases ea
  · injection hv with h1; rw [h1] at ea; injection ea with ea; injection ea with e1 e2; omega
/-- What a call of Do gives. -/
def DoPost (g : Nat) (A0 : Option Addr) (b : Bl) (call : Int) (s t : ByteArray) (on : Int) (w : World) (e : Ending) (w' : World) : Prop :=
  ∃ (A : Option Addr) (n c : Nat), e = .returned (.int .i64 (codeV b call s t on)) ∧ IsRef w' g A n c (nextV b call s t on) ∧ Turn g g w w' ∧ Fresh A0 A n w
theorem do_err {g n c : Nat} {A : Option Addr} {b : Bl} {call : Int} {s t : ByteArray} {on k : Int} {w w' : World} (h : IsRef w g A n c b) (hk : k = codeV b call s t on) (h0 : k ≠ 0) (hb : Below w.heap.size w w') : DoPost g A b call s t on w (.returned (.int .i64 k)) w' := by
  refine ⟨A, n, c, ret_int hk, ?_, Turn.of_below hb (Nat.le_of_lt h.blk.lt), Fresh.same A n w⟩
  unfold nextV
  rw [← hk, if_neg h0]
  exact h.below hb
end Go.Proofs.Yteannbphaodadaa.kit
