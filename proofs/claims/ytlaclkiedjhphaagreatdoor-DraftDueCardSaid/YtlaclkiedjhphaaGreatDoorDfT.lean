/- A bill that has turned: only its own two blocks. No condition. -/
import Derived.Test.YtlaclkiedjhphaaGreatDoorDfC
import Derived.Test.YtlaclkiedjhphaaGreatDoorMore
namespace Go.Proofs.YtlaclkiedjhphaaGreatDoor.kit
open Go.RowKit Go.PlainAid Go.Maps
set_option linter.unusedVariables false

/-- w' is w, but for blocks g and mb, and new ones. -/
structure Turn (g mb : Nat) (w w' : World) : Prop where
  size : w.heap.size ≤ w'.heap.size
  bel : ∀ B w0, Below B w0 w → B ≤ g → B ≤ mb → Below B w0 w'
  keep : ∀ k, k < w.heap.size → k ≠ g → k ≠ mb → w'.heap[k]? = w.heap[k]?
section
variable {g mb : Nat} {w w' w'' : World}
theorem Turn.refl (g mb : Nat) (w : World) : Turn g mb w w := ⟨Nat.le_refl _, fun _ _ h _ _ => h, fun _ _ _ _ => rfl⟩
theorem Turn.of_below (h : Below w.heap.size w w') (hg : g ≤ w.heap.size) : Turn g mb w w' :=
  ⟨h.size, fun B w0 hb h1 _ => hb.trans (h.mono (by omega)), fun k hk _ _ => h.block k hk⟩
theorem Turn.trans (h : Turn g mb w w') (h' : Turn g mb w' w'') : Turn g mb w w'' :=
  ⟨Nat.le_trans h.size h'.size, fun B w0 hb hg hm => h'.bel B w0 (h.bel B w0 hb hg hm) hg hm, fun k hk hg hm => (h'.keep k (Nat.lt_of_lt_of_le hk h.size) hg hm).trans (h.keep k hk hg hm)⟩
theorem Turn.set_ (h : Turn g mb w w') (o : Nat) (v : Value) : Turn g mb w (w'.setCell ⟨g, o, none⟩ v) :=
  ⟨by have := h.size; simpa [World.setCell] using this, fun B w0 hb hg hm => (h.bel B w0 hb hg hm).setCell hg v, fun k hk hg hm => by
    rw [Below.heap_setCell w' ⟨g, o, none⟩ v k (fun e => hg e)]
    exact h.keep k hk hg hm⟩
theorem Turn.drew (h : Turn g mb w w') : Turn g mb w w'.drew := ⟨h.size, fun B w0 hb hg hm => (h.bel B w0 hb hg hm).drew, h.keep⟩
theorem Turn.map (h : Turn g mb w w') (hg : w'.grownBy w'' (some mb)) (hm : mb < w'.heap.size) : Turn g mb w w'' :=
  ⟨Nat.le_trans h.size hg.size, fun B w0 hb h1 h2 => (h.bel B w0 hb h1 h2).grown hg (by omega) (fun k hk => by injection hk with hk; omega), fun k hk h1 h2 =>
    (hg.block k (Nat.lt_of_lt_of_le hk h.size) (by intro e; injection e with e; exact h2 e)).trans (h.keep k hk h1 h2)⟩
/-- Another block. -/
theorem Turn.blk (h : Turn g mb w w') {k : Nat} {t : TypeId} {cs : Array Value} (hb : Blk w k t cs) (h1 : k ≠ g) (h2 : k ≠ mb) : Blk w' k t cs := (h.keep k hb.lt h1 h2).trans hb
theorem Turn.bill (h : Turn g mb w w') {g' mb' : Nat} {b : Bl} (hb : IsBill w g' mb' b) (h1 : g' ≠ g) (h2 : g' ≠ mb) (h3 : mb' ≠ g) (h4 : mb' ≠ mb) : IsBill w' g' mb' b := by
  refine ⟨h.blk hb.blk h1 h2, ?_, hb.dok, hb.hol, hb.pas, hb.len⟩
  obtain ⟨es, clock, hm, F, hs, hD⟩ := hb.map
  have hlt : mb' < w.heap.size := hb.map.lt
  exact ⟨es, clock, (h.keep mb' hlt h3 h4).trans hm, F, hs, hD⟩
end
/-- A bill with three cells set. -/
theorem IsBill.set3 {w : World} {g mb : Nat} {b b' : Bl} {i j k : Nat} {u v x : Value} (h : IsBill w g mb b) (hc : (((#[.string b.d.num, .string b.d.drw, .string b.d.dre, .string b.d.pay, .string b.d.cur, .int .i64 b.d.amt, .int .i64 b.d.kind, .int .i64 b.d.days, .int .i64 b.d.fr, .int .i64 b.st, .bool b.acc, .string b.hol, .map (some mb), .int .i64 b.last]).setIfInBounds i u).setIfInBounds j v).setIfInBounds k x = #[.string b'.d.num, .string b'.d.drw, .string b'.d.dre, .string b'.d.pay, .string b'.d.cur, .int .i64 b'.d.amt, .int .i64 b'.d.kind, .int .i64 b'.d.days, .int .i64 b'.d.fr, .int .i64 b'.st, .bool b'.acc, .string b'.hol, .map (some mb), .int .i64 b'.last]) (hd : b'.d = b.d) (hp : b'.pas = b.pas) (hh : b'.hol.size ≤ maxLen) :
    IsBill (((w.setCell ⟨g, i, none⟩ u).setCell ⟨g, j, none⟩ v).setCell ⟨g, k, none⟩ x) g mb b' := by
  have hne := h.ne
  refine ⟨?_, ?_, by rw [hd]; exact h.dok, hh, by rw [hp]; exact h.pas, by rw [hp]; exact h.len⟩
  · rw [← hc]
    exact ((h.blk.set_ i u).set_ j v).set_ k x
  · rw [hp]
    exact ((h.map.setCell (a := ⟨g, i, none⟩) hne u).setCell (a := ⟨g, j, none⟩) hne v).setCell (a := ⟨g, k, none⟩) hne x
theorem IsBill.set2 {w : World} {g mb : Nat} {b b' : Bl} {i j : Nat} {u v : Value} (h : IsBill w g mb b) (hc : ((#[.string b.d.num, .string b.d.drw, .string b.d.dre, .string b.d.pay, .string b.d.cur, .int .i64 b.d.amt, .int .i64 b.d.kind, .int .i64 b.d.days, .int .i64 b.d.fr, .int .i64 b.st, .bool b.acc, .string b.hol, .map (some mb), .int .i64 b.last]).setIfInBounds i u).setIfInBounds j v = #[.string b'.d.num, .string b'.d.drw, .string b'.d.dre, .string b'.d.pay, .string b'.d.cur, .int .i64 b'.d.amt, .int .i64 b'.d.kind, .int .i64 b'.d.days, .int .i64 b'.d.fr, .int .i64 b'.st, .bool b'.acc, .string b'.hol, .map (some mb), .int .i64 b'.last]) (hd : b'.d = b.d) (hp : b'.pas = b.pas) (hh : b'.hol.size ≤ maxLen) :
    IsBill ((w.setCell ⟨g, i, none⟩ u).setCell ⟨g, j, none⟩ v) g mb b' := by
  have hne := h.ne
  refine ⟨?_, ?_, by rw [hd]; exact h.dok, hh, by rw [hp]; exact h.pas, by rw [hp]; exact h.len⟩
  · rw [← hc]
    exact (h.blk.set_ i u).set_ j v
  · rw [hp]
    exact (h.map.setCell (a := ⟨g, i, none⟩) hne u).setCell (a := ⟨g, j, none⟩) hne v
end Go.Proofs.YtlaclkiedjhphaaGreatDoor.kit
