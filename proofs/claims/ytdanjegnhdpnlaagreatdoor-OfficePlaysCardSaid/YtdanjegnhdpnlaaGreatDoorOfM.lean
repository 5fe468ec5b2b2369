/- An office in memory: its letters, its deals, itself. No condition. -/
import Derived.Test.YtdanjegnhdpnlaaGreatDoorOfP
import Derived.Test.YtdanjegnhdpnlaaGreatDoorOwn
import Derived.Test.YtdanjegnhdpnlaaGreatDoorMore
namespace Go.Proofs.YtdanjegnhdpnlaaGreatDoor.kit
open Go.RowKit Go.PlainAid
set_option linter.unusedVariables false

def fdC (x : Fd) : List Value := [.string x.1, .string x.2]
theorem fd_len (x : Fd) : (fdC x).length = 2 := rfl
/-- The cells of a letter that an office wrote. -/
def olC (dl : ByteArray) (dy : Int) (x : Ol) (D : Value) : List Value := [.string ⟨#[]⟩, .string x.dst, .int .i64 0, .int .i64 x.kind, .int .i64 0, .string dl, .string ⟨#[]⟩, .string ⟨#[]⟩, .int .i64 0, .int .i64 dy, .string x.cur, .int .i64 x.amt, D, .slice none 0 0]
theorem ol_len (dl : ByteArray) (dy : Int) (x : Ol) (D : Value) : (olC dl dy x D).length = 14 := rfl
def DocsAt (W : World) (B H : Nat) (D : Value) : Option Pp → Prop
  | none => D = .slice none 0 0
  | some p => ∃ (g fc : Nat) (fa : Option Addr), D = .slice (some ⟨g, 0, none⟩) 1 1 ∧ (B ≤ g ∧ g < H) ∧ Blk W g 109 #[.int .i64 3, .string p.num, .string p.iss, .slice fa p.fs.length fc] ∧ SliceOf W 2 fdC fa p.fs.length p.fs ∧ ∀ b off, fa = some ⟨b, off, none⟩ → B ≤ b ∧ b < H
section
variable {W W' : World} {B B' H H' : Nat} {D v : Value} {dl : ByteArray} {dy : Int}
theorem DocsAt.below {o : Option Pp} (h : DocsAt W B H D o) (hb : Below W.heap.size W W') : DocsAt W' B H D o := by
  cases o with
  | none => exact h
  | some p => obtain ⟨g, fc, fa, h1, h2, h3, h4, h5⟩ := h; exact ⟨g, fc, fa, h1, h2, h3.below hb h3.lt, h4.below hb, h5⟩
theorem DocsAt.fr {o : Option Pp} {S : Nat → Prop} (h : DocsAt W B H D o) (hf : Fr S W W') (hS : ∀ k, B ≤ k → k < H → ¬ S k) : DocsAt W' B H D o := by
  cases o with
  | none => exact h
  | some p =>
    obtain ⟨g, fc, fa, h1, h2, h3, h4, h5⟩ := h
    refine ⟨g, fc, fa, h1, h2, h3.fr hf (hS g h2.1 h2.2), ?_, h5⟩
    refine ⟨h4.len, ?_⟩
    rcases h4.cells with h0 | ⟨b, off, rfl, hb, hc⟩
    · exact .inl h0
    · exact .inr ⟨b, off, rfl, Nat.lt_of_lt_of_le hb hf.size, fun i x hx j u hv => cell_fr (hc i x hx j u hv) hf (hS b (h5 b off rfl).1 (h5 b off rfl).2)⟩
theorem DocsAt.wide {o : Option Pp} (h : DocsAt W B H D o) (hB : B' ≤ B) (hH : H ≤ H') : DocsAt W B' H' D o := by
  cases o with
  | none => exact h
  | some p => obtain ⟨g, fc, fa, h1, h2, h3, h4, h5⟩ := h; exact ⟨g, fc, fa, h1, ⟨Nat.le_trans hB h2.1, Nat.lt_of_lt_of_le h2.2 hH⟩, h3, h4, fun b off e => ⟨Nat.le_trans hB (h5 b off e).1, Nat.lt_of_lt_of_le (h5 b off e).2 hH⟩⟩
/-- Letters in a row of their own: none, one or two. -/
def OlAt (W : World) (B : Nat) (v : Value) (dl : ByteArray) (dy : Int) (xs : List Ol) : Prop :=
  (xs = [] ∧ v = .slice none 0 0) ∨
  (∃ g x D, xs = [x] ∧ v = .slice (some ⟨g, 0, none⟩) 1 1 ∧ B ≤ g ∧ Blk W g 57 (olC dl dy x D).toArray ∧ DocsAt W B g D x.doc) ∨
  (∃ g x y, xs = [x, y] ∧ v = .slice (some ⟨g, 0, none⟩) 2 2 ∧ B ≤ g ∧ Blk W g 57 (olC dl dy x (.slice none 0 0) ++ olC dl dy y (.slice none 0 0)).toArray ∧ x.doc = none ∧ y.doc = none)
theorem OlAt.below {xs : List Ol} (h : OlAt W B v dl dy xs) (hb : Below W.heap.size W W') : OlAt W' B v dl dy xs := by
  rcases h with h | ⟨g, x, D, h1, h2, h3, h4, h5⟩ | ⟨g, x, y, h1, h2, h3, h4, h5⟩
  · exact .inl h
  · exact .inr (.inl ⟨g, x, D, h1, h2, h3, h4.below hb h4.lt, h5.below hb⟩)
  · exact .inr (.inr ⟨g, x, y, h1, h2, h3, h4.below hb h4.lt, h5⟩)
theorem OlAt.fr {S : Nat → Prop} {xs : List Ol} (h : OlAt W B v dl dy xs) (hf : Fr S W W') (hS : ∀ k, B ≤ k → k < W.heap.size → ¬ S k) : OlAt W' B v dl dy xs := by
  rcases h with h | ⟨g, x, D, h1, h2, h3, h4, h5⟩ | ⟨g, x, y, h1, h2, h3, h4, h5⟩
  · exact .inl h
  · exact .inr (.inl ⟨g, x, D, h1, h2, h3, h4.fr hf (hS g h3 h4.lt), h5.fr hf (fun k hk hg => hS k hk (Nat.lt_trans hg h4.lt))⟩)
  · exact .inr (.inr ⟨g, x, y, h1, h2, h3, h4.fr hf (hS g h3 h4.lt), h5⟩)
theorem OlAt.lower {xs : List Ol} (h : OlAt W B v dl dy xs) (hB : B' ≤ B) : OlAt W B' v dl dy xs := by
  rcases h with h | ⟨g, x, D, h1, h2, h3, h4, h5⟩ | ⟨g, x, y, h1, h2, h3, h4, h5⟩
  · exact .inl h
  · exact .inr (.inl ⟨g, x, D, h1, h2, Nat.le_trans hB h3, h4, h5.wide hB (Nat.le_refl _)⟩)
  · exact .inr (.inr ⟨g, x, y, h1, h2, Nat.le_trans hB h3, h4, h5⟩)
end
def ltC (x : Lt) : List Value := [.string x.fr, .string x.to, .int .i64 x.num, .int .i64 x.kind, .int .i64 x.ack, .string x.deal, .string x.text, .string x.party, .int .i64 x.idx, .int .i64 x.day, .string x.cur, .int .i64 x.amt, .slice x.A1 x.n1 x.c1, .slice x.A2 x.n2 x.c2]
theorem lt_len (x : Lt) : (ltC x).length = 14 := rfl
def dlC (d : Dl) (bx : Value) : List Value := [.string d.num, .string d.sel, .string d.buy, .string d.car, .string d.iss, .string d.hou, .string d.ins, .string d.fr, .string d.dst, .string d.cur, .int .i64 d.amt, bx, .int .i64 d.term, .int .i64 d.lat, .int .i64 d.exp, .int .i64 d.ten, .int .i64 d.dut]
abbrev DeAt (W : World) (p : Nat) (d : Dl) (bx : Value) (s : St) : Prop := Blk W p 83 #[.string d.num, .string d.sel, .string d.buy, .string d.car, .string d.iss, .string d.hou, .string d.ins, .string d.fr, .string d.dst, .string d.cur, .int .i64 d.amt, bx, .int .i64 d.term, .int .i64 d.lat, .int .i64 d.exp, .int .i64 d.ten, .int .i64 d.dut, .int .i64 s.st, .int .i64 s.paid]
def ptC (p : Nat) : Value := .pointer (some ⟨p, 0, none⟩)
/-- An office, all its memory between lo and hi. -/
structure Off (W : World) (lo hi o : Nat) (nm bank : ByteArray) (kind : Int) (mb n : Nat) (m : ByteArray → Option Nat) (ds : ByteArray → Option Dl) (st : ByteArray → St) : Prop where
  blk : Blk W o 76 #[.string nm, .string bank, .int .i64 kind, .map (some mb)]
  map : TMap W mb .string (fun s : ByteArray => .string s) ptC n m
  none_ : ∀ k, m k = none → ds k = none
  deal : ∀ k p, m k = some p → ∃ d bx A nb c, ds k = some d ∧ bx = .slice A nb c ∧ DeAt W p d bx (st k) ∧ d.num = k ∧ d.ok
  inj : ∀ k k' p, m k = some p → m k' = some p → k = k'
  sok : ∀ k, (st k).ok
  ino : lo ≤ o ∧ o < hi
  inm : lo ≤ mb ∧ mb < hi
  inp : ∀ k p, m k = some p → lo ≤ p ∧ p < hi
theorem Off.fr {W W' : World} {lo hi o mb n : Nat} {nm bank : ByteArray} {kind : Int} {m : ByteArray → Option Nat} {ds : ByteArray → Option Dl} {st : ByteArray → St} {S : Nat → Prop} (h : Off W lo hi o nm bank kind mb n m ds st) (hf : Fr S W W') (hS : ∀ k, lo ≤ k → k < hi → ¬ S k) : Off W' lo hi o nm bank kind mb n m ds st where
  blk := h.blk.fr hf (hS o h.ino.1 h.ino.2)
  map := h.map.fr hf (hS mb h.inm.1 h.inm.2)
  none_ := h.none_
  deal := fun k p hp => by
    obtain ⟨d, bx, A, nb, c, h1, h2, h3, h4⟩ := h.deal k p hp
    exact ⟨d, bx, A, nb, c, h1, h2, h3.fr hf (hS p (h.inp k p hp).1 (h.inp k p hp).2), h4⟩
  inj := h.inj
  sok := h.sok
  ino := h.ino
  inm := h.inm
  inp := h.inp
theorem Off.below {W W' : World} {lo hi o mb n : Nat} {nm bank : ByteArray} {kind : Int} {m : ByteArray → Option Nat} {ds : ByteArray → Option Dl} {st : ByteArray → St} (h : Off W lo hi o nm bank kind mb n m ds st) (hb : Below W.heap.size W W') : Off W' lo hi o nm bank kind mb n m ds st := by
  exact h.fr (S := fun _ => False) (Fr.of_below hb (Nat.le_refl _)) (fun _ _ _ h => h)
def setS (st : ByteArray → St) (k : ByteArray) (s : St) : ByteArray → St := fun q => if q = k then s else st q
/-- One deal's block turned: the office with that deal's standing anew. -/
theorem Off.turn {W W' : World} {lo hi o mb n : Nat} {nm bank : ByteArray} {kind : Int} {m : ByteArray → Option Nat} {ds : ByteArray → Option Dl} {st : ByteArray → St} (h : Off W lo hi o nm bank kind mb n m ds st) {k : ByteArray} {p : Nat} {d : Dl} {A : Option Addr} {nb c : Nat} {s : St} (hm : m k = some p) (hd : ds k = some d) (hf : Fr (fun j => j = p) W W') (hk : DeAt W' p d (.slice A nb c) s) (hs : s.ok) : Off W' lo hi o nm bank kind mb n m ds (setS st k s) := by
  obtain ⟨d0, bx0, A0, nb0, c0, e1, e2, e3, e4, e5⟩ := h.deal k p hm
  rw [hd] at e1
  injection e1 with e1
  subst e1
  refine ⟨h.blk.fr hf ?_, h.map.fr hf ?_, h.none_, fun q r hq => ?_, h.inj, fun q => ?_, h.ino, h.inm, h.inp⟩
  · exact h.blk.ne_ e3 (by decide)
  · exact h.map.ne_blk e3
  · by_cases e : q = k
    · subst e
      rw [hm] at hq
      injection hq with hq
      subst hq
      exact ⟨d, _, A, nb, c, hd, rfl, by unfold setS; rw [if_pos rfl]; exact hk, e4, e5⟩
    · obtain ⟨d', bx', A', nb', c', f1, f2, f3, f4⟩ := h.deal q r hq
      refine ⟨d', bx', A', nb', c', f1, f2, ?_, f4⟩
      unfold setS
      rw [if_neg e]
      exact f3.fr hf (fun hr => e (h.inj q k p (by rw [hq, hr]) hm))
  · unfold setS
    split
    · exact hs
    · exact h.sok q
end Go.Proofs.YtdanjegnhdpnlaaGreatDoor.kit
