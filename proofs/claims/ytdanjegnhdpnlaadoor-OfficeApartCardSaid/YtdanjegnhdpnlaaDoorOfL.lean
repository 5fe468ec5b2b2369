/- OfficeApart: what comes of other deals changes nothing of a deal. Condition: the table of powers of ten. -/
import Derived.Test.YtdanjegnhdpnlaaDoorOfZ
namespace Go.Proofs.YtdanjegnhdpnlaaDoor.kit
open Go.RowKit Go.PlainAid
set_option linter.unusedVariables false
set_option linter.unusedSimpArgs false
/-- An office that New made, its memory between lo and hi. -/
def OfAt (base : Nat) (nm : ByteArray) (ps : List Pty) (xs : List Dx) (lo hi : Nat) (v : Value) (W : World) : Prop :=
  ∃ o mb n m, v = (.pointer (some ⟨o, 0, none⟩)) ∧ Off W lo hi o nm (whoV nm ps).2 (whoV nm ps).1 mb n m (dealsOf nm (whoV nm ps).1 xs) (fun _ => ⟨0, 0⟩) ∧ base ≤ lo ∧ hi ≤ W.heap.size
theorem OfAt.below {base lo hi : Nat} {nm : ByteArray} {ps : List Pty} {xs : List Dx} {v : Value} {W W' : World} (h : OfAt base nm ps xs lo hi v W) (hb : Below W.heap.size W W') : OfAt base nm ps xs lo hi v W' := by
  obtain ⟨o, mb, n, m, h1, h2, h3, h4⟩ := h
  exact ⟨o, mb, n, m, h1, h2.below hb, h3, Nat.le_trans h4 hb.size⟩
structure PairX (base : Nat) (nm : ByteArray) (ps : List Pty) (xs : List Dx) (d e : Bool) (u v : Value) (W : World) : Prop where
  a : d = true → e = false → ∃ lo hi, OfAt base nm ps xs lo hi u W
  b : e = true → d = false → ∃ lo hi, OfAt base nm ps xs lo hi v W
  c : d = true → e = true → ∃ lo hi lo' hi', OfAt base nm ps xs lo hi u W ∧ OfAt base nm ps xs lo' hi' v W ∧ (hi ≤ lo' ∨ hi' ≤ lo)
section
variable {base : Nat} {nm : ByteArray} {ps : List Pty} {xs : List Dx} {d e : Bool} {u v : Value} {W W' : World}
theorem PairX.on (h : PairX base nm ps xs d e u v W) (hb : Below W.heap.size W W') : PairX base nm ps xs d e u v W' :=
  ⟨fun x y => (h.a x y).elim fun lo q => q.elim fun hi q => ⟨lo, hi, q.below hb⟩, fun x y => (h.b x y).elim fun lo q => q.elim fun hi q => ⟨lo, hi, q.below hb⟩, fun x y => by
    obtain ⟨lo, hi, lo', hi', q1, q2, q3⟩ := h.c x y
    exact ⟨lo, hi, lo', hi', q1.below hb, q2.below hb, q3⟩⟩
theorem PairX.start : PairX base nm ps xs false false u v W := ⟨fun h => (by cases h), fun h => (by cases h), fun h => (by cases h)⟩
theorem PairX.first (h : PairX base nm ps xs false e u v W) (hb : Below W.heap.size W W') (hB : base ≤ W.heap.size) {u' : Value} (hn : NewP W nm ps xs (.returned u') W') : PairX base nm ps xs true e u' v W' := by
  obtain ⟨o, mb, n, m, h1, h2, h3⟩ := hn
  injection h1 with h1
  have hq : OfAt base nm ps xs W.heap.size W'.heap.size u' W' := ⟨o, mb, n, m, h1, h2, hB, Nat.le_refl _⟩
  refine ⟨fun _ _ => ⟨_, _, hq⟩, fun _ h => (by cases h), fun _ he => ?_⟩
  obtain ⟨lo, hi, q⟩ := h.b he rfl
  refine ⟨_, _, lo, hi, hq, q.below hb, .inr ?_⟩
  obtain ⟨_, _, _, _, _, _, _, q4⟩ := q
  exact q4
theorem PairX.second (h : PairX base nm ps xs d false u v W) (hb : Below W.heap.size W W') (hB : base ≤ W.heap.size) {v' : Value} (hn : NewP W nm ps xs (.returned v') W') : PairX base nm ps xs d true u v' W' := by
  obtain ⟨o, mb, n, m, h1, h2, h3⟩ := hn
  injection h1 with h1
  have hq : OfAt base nm ps xs W.heap.size W'.heap.size v' W' := ⟨o, mb, n, m, h1, h2, hB, Nat.le_refl _⟩
  refine ⟨fun _ h => (by cases h), fun _ _ => ⟨_, _, hq⟩, fun hd _ => ?_⟩
  obtain ⟨lo, hi, q⟩ := h.a hd rfl
  refine ⟨lo, hi, _, _, q.below hb, hq, .inl ?_⟩
  obtain ⟨_, _, _, _, _, _, _, q4⟩ := q
  exact q4
end
theorem out_docs {kind : Int} {bank : ByteArray} {od : Option Dl} {s : St} {l : Lt} : ∀ x ∈ (outV kind bank od s l).1, ∀ p, x.doc = some p → p.fs.length ≤ 100 := by
  intro x hx p hp
  unfold outV at hx
  cases od with
  | none => cases hx
  | some d =>
    simp only at hx
    unfold takeV declV credV covrV at hx
    repeat' split at hx
    all_goals simp [dutyL, freeL, covL] at hx
    all_goals first | (rcases hx with rfl | rfl <;> simp at hp) | (subst hx; simp at hp) | skip
    · subst hp; simp [covP]
/-- Two offices while letters come. -/
structure ApI (w : World) (la ha lb hb oa ob : Nat) (nm : ByteArray) (bank : ByteArray) (kind : Int) (ds : ByteArray → Option Dl) (deal : ByteArray) (W : World) : Prop where
  bel : Below w.heap.size w W
  two : ∃ ma na ka mb' nb kb sa sb, Off W la ha oa nm bank kind ma na ka ds sa ∧ Off W lb hb ob nm bank kind mb' nb kb ds sb ∧ sa deal = sb deal
  ha_ : ha ≤ W.heap.size
  hb_ : hb ≤ W.heap.size
  la_ : w.heap.size ≤ la
  lb_ : w.heap.size ≤ lb
  ap : ha ≤ lb ∨ hb ≤ la
theorem ApI.below {w W W' : World} {la ha lb hb oa ob : Nat} {nm bank : ByteArray} {kind : Int} {ds : ByteArray → Option Dl} {deal : ByteArray} (h : ApI w la ha lb hb oa ob nm bank kind ds deal W) (hbl : Below W.heap.size W W') : ApI w la ha lb hb oa ob nm bank kind ds deal W' := by
  obtain ⟨h1, ⟨ma, na, ka, mb', nb, kb, sa, sb, q1, q2, q3⟩, h3, h4, h5, h6, h7⟩ := h
  exact ⟨h1.trans (hbl.mono h1.size), ⟨ma, na, ka, mb', nb, kb, sa, sb, q1.below hbl, q2.below hbl, q3⟩, Nat.le_trans h3 hbl.size, Nat.le_trans h4 hbl.size, h5, h6, h7⟩
end Go.Proofs.YtdanjegnhdpnlaaDoor.kit
