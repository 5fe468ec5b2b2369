/- What a call leaves alone: every block that was there, but for those named. No condition. -/
import Derived.Test.YtdanjegnhdpnlaaGreatDoorTMap
import Derived.Test.YtdanjegnhdpnlaaGreatDoorOwn
import Derived.Test.YtdanjegnhdpnlaaGreatDoorStep
namespace Go.Proofs.YtdanjegnhdpnlaaGreatDoor.kit
open Go.RowKit
set_option linter.unusedVariables false

structure Fr (S : Nat → Prop) (w W : World) : Prop where
  os : W.os = w.os
  tape : W.tape = w.tape
  output : W.output = w.output
  size : w.heap.size ≤ W.heap.size
  block : ∀ k, k < w.heap.size → ¬ S k → W.heap[k]? = w.heap[k]?

section
variable {S S' : Nat → Prop} {w W W' : World}
theorem Fr.refl (S : Nat → Prop) (w : World) : Fr S w w := ⟨rfl, rfl, rfl, Nat.le_refl _, fun _ _ _ => rfl⟩
theorem Fr.trans (h : Fr S w W) (h' : Fr S' W W') (hs : ∀ k, S' k → S k ∨ w.heap.size ≤ k) : Fr S w W' :=
  ⟨h'.os.trans h.os, h'.tape.trans h.tape, h'.output.trans h.output, Nat.le_trans h.size h'.size, fun k hk hn =>
    (h'.block k (Nat.lt_of_lt_of_le hk h.size) (fun q => by rcases hs k q with q | q; exact hn q; omega)).trans (h.block k hk hn)⟩
theorem Fr.below {B : Nat} (h : Fr S w W) (hb : Below B W W') (hB : w.heap.size ≤ B) : Fr S w W' :=
  ⟨hb.os.trans h.os, hb.tape.trans h.tape, hb.output.trans h.output, Nat.le_trans h.size hb.size, fun k hk hn => (hb.block k (Nat.lt_of_lt_of_le hk hB)).trans (h.block k hk hn)⟩
theorem Fr.of_below {B : Nat} (hb : Below B w W) (hB : w.heap.size ≤ B) : Fr S w W := (Fr.refl S w).below hb hB
theorem Fr.on (h : Fr S w W) (hb : Below W.heap.size W W') : Fr S w W' := h.below hb h.size
theorem Fr.alloc (h : Fr S w W) (o : Obj) : Fr S w (W.alloc o) := h.below ((Below.refl _ _).alloc (Nat.le_refl _) o) h.size
theorem Fr.drew (h : Fr S w W) : Fr S w W.drew := ⟨h.os, h.tape, h.output, h.size, h.block⟩
theorem Fr.grown {row : Option Nat} (h : Fr S w W) (hg : W.grownBy W' row) (hr : ∀ k, row = some k → S k ∨ w.heap.size ≤ k) : Fr S w W' :=
  ⟨hg.os.trans h.os, hg.tape.trans h.tape, hg.output.trans h.output, Nat.le_trans h.size hg.size, fun k hk hn =>
    (hg.block k (Nat.lt_of_lt_of_le hk h.size) (fun q => by rcases hr k q.symm with q | q; exact hn q; omega)).trans (h.block k hk hn)⟩
theorem Fr.setCell (h : Fr S w W) {p : Addr} (hp : S p.block ∨ w.heap.size ≤ p.block) (v : Value) : Fr S w (W.setCell p v) :=
  ⟨h.os, h.tape, h.output, by simpa [World.setCell] using h.size, fun k hk hn => (Below.heap_setCell W p v k (fun e => by rcases hp with q | q; exact hn (by rw [e]; exact q); omega)).trans (h.block k hk hn)⟩
theorem Fr.mono (h : Fr S w W) (hs : ∀ k, S k → S' k) : Fr S' w W := ⟨h.os, h.tape, h.output, h.size, fun k hk hn => h.block k hk (fun q => hn (hs k q))⟩
theorem Fr.bel (h : Fr S w W) {B : Nat} {w0 : World} (hb : Below B w0 w) (hS : ∀ k, S k → B ≤ k) (hB : B ≤ w.heap.size) : Below B w0 W :=
  ⟨h.os.trans hb.os, h.tape.trans hb.tape, h.output.trans hb.output, Nat.le_trans hb.size h.size, fun k hk => (h.block k (by omega) (fun q => by have := hS k q; omega)).trans (hb.block k hk)⟩
theorem Blk.fr {g : Nat} {t : TypeId} {cs : Array Value} (hk : Blk w g t cs) (h : Fr S w W) (hn : ¬ S g) : Blk W g t cs := (h.block g hk.lt hn).trans hk
theorem TMap.fr {κ α : Type} {b n : Nat} {d : TypeDesc} {kC : κ → Value} {vC : α → Value} {m : κ → Option α} (ht : TMap w b d kC vC n m) (h : Fr S w W) (hn : ¬ S b) : TMap W b d kC vC n m := ht.same (h.block b ht.lt hn)
theorem own_fr {base n : Nat} {e : TypeId} {size : Nat} {v : Value} {xs : List Value} (ho : w.ownsRow base e size v n xs) (h : Fr S w W) (hn : ∀ k, v.ownBlock = some k → ¬ S k) : W.ownsRow base e size v n xs := by
  refine ⟨ho.1, ?_⟩
  rcases ho.2 with h0 | ⟨g, cap, cur, hv, hb, hg, rest⟩
  · exact .inl h0
  · refine .inr ⟨g, cap, cur, hv, hb, ?_, rest⟩
    have hlt : g < w.heap.size := (Array.getElem?_eq_some_iff.1 hg).1
    exact (h.block g hlt (hn g (by rw [hv]; rfl))).trans hg
theorem SliceOf.fr {α : Type} {C n : Nat} {en : α → List Value} {A : Option Addr} {xs : List α} (hs : SliceOf w C en A n xs) (h : Fr S w W) (hn : ∀ b off, A = some ⟨b, off, none⟩ → ¬ S b) : SliceOf W C en A n xs := by
  refine ⟨hs.len, ?_⟩
  rcases hs.cells with h0 | ⟨b, off, rfl, hb, hc⟩
  · exact .inl h0
  · refine .inr ⟨b, off, rfl, Nat.lt_of_lt_of_le hb h.size, fun i x hx j v hv => ?_⟩
    have := hc i x hx j v hv
    unfold World.cell? at this ⊢
    rw [h.block b hb (hn b off rfl)]
    exact this
theorem cell_fr {p : Addr} {v : Value} (hc : w.cell? p = some v) (h : Fr S w W) (hn : ¬ S p.block) : W.cell? p = some v := by
  have hlt := World.block_lt_of_cell? w _ hc
  unfold World.cell? at hc ⊢
  rw [h.block _ hlt hn]
  exact hc
theorem fr_row (w : World) (g : Nat) (cells : Array Value) : Fr (fun k => k = g) w (w.setRow g cells) :=
  ⟨rfl, rfl, rfl, by simp [World.setRow], fun k _ hk => setRow_other w g k cells hk⟩
/-- A whole struct stored into a block known whole. -/
theorem wpList_store_fr {P : Program} {ops : Array Oper} {rest : List Oper} {o : Oper} {a : Act} {w : World} {Q : Exit → Act → World → Prop} {t : TypeId} {old : Array Value} {g : Nat} (hgd : o.guard = none) (ty : TypeId) (x y : Operand) (ho : o.op = .store ty x y)
    (cells : Array Value) (hx : a.eval x = .pointer (some ⟨g, 0, none⟩)) (hy : a.eval y = .agg cells) (hg : Blk w g t old) (hi : (P.info? ty).map (·.size) = some cells.size)
    (hold : old.size = cells.size) (h1 : onesL cells.toList = true)
    (h : ∀ w', Blk w' g t cells → Fr (fun k => k = g) w w' → wpList P ops Q rest (a.put o.dst undef) w') : wpList P ops Q (o :: rest) a w :=
  wpList_store_row hgd ty x y ho g cells hx hy t old hg hi hold (Array.all_eq_true_iff_forall_mem.2 fun v hv => onesL_all h1 v (by simpa using hv))
    (h _ (setRow_heap w g old cells t (0, 0) hg) (fr_row w g cells))
theorem setCell_id {g i : Nat} {v : Value} (h : w.cell? ⟨g, i, none⟩ = some v) : w.setCell ⟨g, i, none⟩ v = w := by
  have key : ∀ j : Nat, (w.setCell ⟨g, i, none⟩ v).heap[j]? = w.heap[j]? := by
    intro j
    by_cases e : j = g
    · subst e
      unfold World.cell? at h
      simp only [World.setCell, Array.getElem?_modify, if_true]
      cases ho : w.heap[j]? with
      | none => rfl
      | some o =>
        rw [ho] at h
        cases o <;> simp_all
        rename_i cs t fr
        apply Array.ext_getElem?
        intro k
        rw [Array.getElem?_setIfInBounds]
        split
        · rename_i e; subst e; split <;> simp_all
        · rfl
    · exact Below.heap_setCell w ⟨g, i, none⟩ v j e
  have hh : (w.setCell ⟨g, i, none⟩ v).heap = w.heap := Array.ext_getElem? key
  show ({ w with heap := (w.setCell ⟨g, i, none⟩ v).heap } : World) = w
  rw [hh]
end
end Go.Proofs.YtdanjegnhdpnlaaGreatDoor.kit
