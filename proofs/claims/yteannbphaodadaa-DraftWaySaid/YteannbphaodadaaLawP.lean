/- What laws about deeds share. No condition. -/
import Derived.Test.YteannbphaodadaaDgF
namespace Go.Proofs.Yteannbphaodadaa.kit
open Go.RowKit Go.PlainAid Go.Maps
set_option linter.unusedVariables false

/-- The document's row lies apart from a bill. -/
def Farr (g mb : Nat) (A : Option Addr) : Prop := ∀ x off, A = some ⟨x, off, none⟩ → x ≠ g ∧ x ≠ mb
theorem Farr.none_ (g mb : Nat) : Farr g mb none := fun x off e => by cases e
theorem Farr.fresh {g mb : Nat} {A A' : Option Addr} {n' : Nat} {w : World} (h : Farr g mb A) (hf : Fresh A A' n' w) (hg : g < w.heap.size) (hm : mb < w.heap.size) : Farr g mb A' := fun x off e => by
  rcases hf x off e with h1 | h1
  · exact h x off h1
  · have := h1.1; exact ⟨by omega, by omega⟩
theorem Turn.ref {g mb : Nat} {w w' : World} (h : Turn g mb w w') {gr n c : Nat} {A : Option Addr} {b : Bl} (hr : IsRef w gr A n c b) (h1 : gr ≠ g) (h2 : gr ≠ mb) (hf : Farr g mb A) : IsRef w' gr A n c b := by
  refine ⟨h.blk hr.blk h1 h2, ⟨hr.sl.len, ?_⟩, hr.nc, hr.cm, hr.ap, hr.dok, hr.hol, hr.pas, hr.len, hr.st0⟩
  rcases hr.sl.cells with h0 | ⟨x, off, rfl, hb, hc⟩
  · exact .inl h0
  · obtain ⟨f1, f2⟩ := hf x off rfl
    refine .inr ⟨x, off, rfl, Nat.lt_of_lt_of_le hb h.size, fun k y hy j u hu => ?_⟩
    have := hc k y hy j u hu
    unfold World.cell? at this ⊢
    rw [h.keep x hb f1 f2]
    exact this
/-- A row without texts is none. -/
def Nz (A : Option Addr) (n : Nat) : Prop := n = 0 → ∀ x off, A ≠ some ⟨x, off, none⟩
theorem next_pas {b : Bl} {call : Int} {s t : ByteArray} {on : Int} (h : (nextV b call s t on).pas = []) : b.pas = [] := by
  unfold nextV at h
  split at h
  · unfold doneV at h
    split at h
    · exact h
    · split at h
      · simp at h
      · split at h <;> exact h
  · exact h
theorem Nz.next {A A' : Option Addr} {n n' c c' gr : Nat} {b : Bl} {call : Int} {s t : ByteArray} {on : Int} {w w' : World} (h : Nz A n) (hr : IsRef w gr A n c b) (hr' : IsRef w' gr A' n' c' (nextV b call s t on)) (hf : Fresh A A' n' w) : Nz A' n' := by
  intro h0 x off e
  have h1 : (nextV b call s t on).pas = [] := List.eq_nil_of_length_eq_zero (hr'.sl.len.trans h0)
  have h2 : n = 0 := by have := hr.sl.len; rw [next_pas h1] at this; exact this.symm
  rcases hf x off e with h4 | h4
  · exact h h2 x off h4
  · omega
theorem ref_lt {w : World} {gr n c : Nat} {A : Option Addr} {b : Bl} (hr : IsRef w gr A n c b) (hz : Nz A n) : ∀ x off, A = some ⟨x, off, none⟩ → x < w.heap.size := by
  intro x off e
  rcases hr.sl.cells with h0 | ⟨x', off', e', hlt, _⟩
  · exact (hz h0 x off e).elim
  · rw [e] at e'
    injection e' with e'
    injection e' with e1 e2
    omega
theorem next_len (b : Bl) (call : Int) (s t : ByteArray) (on : Int) : (nextV b call s t on).pas.length ≤ b.pas.length + 1 := by
  unfold nextV doneV
  repeat' split
  all_goals simp
theorem nextD_len (b : Bl) (x : De) : (nextD b x).pas.length ≤ b.pas.length + 1 := by
  unfold nextD
  split
  · exact next_len b _ _ _ _
  · omega
theorem do_any2 (g mb : Nat) (b : Bl) (x : De) (w : World) (hb : IsBill w g mb b) (hx : x.ok) (h0 : 0 ≤ x.call) (h3 : x.call ≤ 3) (hlen : b.pas.length < 1000) :
    Calls Try.prog 25 #[(.pointer (some ⟨g, 0, none⟩)), .agg #[.int .i64 x.call, .string x.by_, .string x.to_, .int .i64 x.day]] w fun e w' => e = .returned (.int .i64 (codeV b x.call x.by_ x.to_ x.day)) ∧ IsBill w' g mb (nextV b x.call x.by_ x.to_ x.day) ∧ Turn g mb w w' := by
  refine (do_any g mb b x w hb hx hlen).mono fun e w' h => ?_
  obtain ⟨h1, h2, h4⟩ := h
  rw [codeD_of h0 h3] at h1
  rw [nextD_of h0 h3] at h2
  exact ⟨h1, h2, h4⟩
end Go.Proofs.Yteannbphaodadaa.kit
