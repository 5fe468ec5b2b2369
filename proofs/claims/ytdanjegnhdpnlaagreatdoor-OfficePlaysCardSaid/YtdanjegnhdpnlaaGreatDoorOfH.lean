/- Small laws for the office's drawn regions. No condition. -/
import Derived.Test.YtdanjegnhdpnlaaGreatDoorOfM
import Derived.Test.YtdanjegnhdpnlaaGreatDoorSoftX
import Derived.Deep.Cut
namespace Go.Proofs.YtdanjegnhdpnlaaGreatDoor.kit
open Go.RowKit
set_option linter.unusedVariables false
set_option linter.unusedSimpArgs false
theorem ixk {P : Program} {w : World} (ty e : TypeId) (k : Nat) (ht : P.underlying ty = some (.slice e)) (hs : (P.info? e).map (·.size) = some k) (b off i n c : Nat) (hk : i < n) : (Instr.indexAt ty (.slice (some ⟨b, off, none⟩) n c) (.int .i64 i)).run P w = .ok (.pointer (some ⟨b, off + i * k, none⟩)) w := by
  obtain ⟨j, hj, hjs⟩ := Option.map_eq_some_iff.1 hs
  have hs : ∀ u, (sizeOf e).run P u = .ok k u := fun u => by simp [sizeOf, typeInfo, hj, hjs]
  have h1 : (0 : Int) ≤ (i : Int) ∧ (i : Int) < (n : Int) := by omega
  simp [Instr.indexAt, run_underlying ht, asIntOf, hs, hk, addr_add, Result.andThen]
theorem wp_bs1 {P : Program} {o : Oper} {a : Act} {w : World} {K : Act → World → Prop} {Q : Exit → Act → World → Prop} (ty e : TypeId) (n : Nat) (parts : Array (Nat × Operand)) (ho : o.op = .buildSlice ty n parts) (vals : Array (Nat × Value)) (hv : (parts.map fun (i, x) => (i, a.eval x)) = vals) (cs : Array Value)
    (hz : (Instr.buildSlice ty n vals).run P w = .ok (.slice (some ⟨w.heap.size, 0, none⟩) n n) (w.alloc (.cells cs e)))
    (h : K (a.put o.dst (.slice (some ⟨w.heap.size, 0, none⟩) n n)) (w.alloc (.cells cs e))) : o.wp P a w K Q := by
  unfold Oper.wp execOp
  simp only [ho]
  rw [hv]
  simp [hz, Result.andThen, Oper.upon]
  exact h
theorem own_lower_w {w : World} {B B' n : Nat} {e : TypeId} {C : Nat} {v : Value} {ys : List Value} (h : w.ownsRow B' e C v n ys) (hB : B ≤ B') : w.ownsRow B e C v n ys := by
  refine ⟨h.1, ?_⟩
  rcases h.2 with h0 | ⟨g, cap, cur, hv, hb, rest⟩
  · exact .inl h0
  · exact .inr ⟨g, cap, cur, hv, Nat.le_trans hB hb, rest⟩
/-- One new block, filled once. -/
structure OneX (t : TypeId) (B0 : Nat) (Z CA : Array Value) (d e : Bool) (v : Value) (W : World) : Prop where
  a : d = true → ∃ b, v = (.pointer (some ⟨b, 0, none⟩)) ∧ B0 ≤ b ∧ Blk W b t (if e = true then CA else Z)
  o : e = true → d = true
theorem OneX.on {t : TypeId} {B0 : Nat} {Z CA : Array Value} {d e : Bool} {v : Value} {W W' : World} (h : OneX t B0 Z CA d e v W) (hb : Below W.heap.size W W') : OneX t B0 Z CA d e v W' :=
  ⟨fun q => (h.a q).elim fun b x => ⟨b, x.1, x.2.1, x.2.2.below hb x.2.2.lt⟩, h.o⟩
theorem OneX.start {t : TypeId} {B0 : Nat} {Z CA : Array Value} {v : Value} {W : World} : OneX t B0 Z CA false false v W := ⟨fun h => (by cases h), fun h => (by cases h)⟩
/-- A new row whose cells are known. -/
def RowAt (B n : Nat) (cs : Array Value) : Value → World → Prop := fun v W => ∃ g, v = .slice (some ⟨g, 0, none⟩) n n ∧ B ≤ g ∧ Blk W g 57 cs
theorem stab_rowat (B n : Nat) (cs : Array Value) : Stab (RowAt B n cs) := fun _ _ _ ⟨g, h1, h2, h3⟩ hb => ⟨g, h1, h2, h3.below hb h3.lt⟩
section
variable {P : Program}
theorem run_loadVar_at (w : World) (b off : Nat) (ty : TypeId) (cs : List Value) (d : TypeDesc) (hc : ∀ j v, cs[j]? = some v → w.cell? ⟨b, off + j, none⟩ = some v)
    (hu : P.underlying ty = some d) (hd : (match d with | .struct _ | .array _ _ => true | _ => false) = true) (hi : (P.info? ty).map (·.size) = some cs.length) :
    (loadVar ty ⟨b, off, none⟩).run P w = .ok (.agg cs.toArray) w := by
  have hl : (loadCells ⟨b, off, none⟩ cs.length).run P w = .ok cs.toArray w :=
    run_loadCells_list (P := P) w ⟨b, off, none⟩ cs (fun j v hv => by rw [addr_add]; exact hc j v hv)
  cases hq : P.info? ty with
  | none => simp [hq] at hi
  | some i =>
    have hs : i.size = cs.length := by simpa [hq] using hi
    have hagg : (isAgg ty).run P w = .ok true w := by
      unfold isAgg
      rw [Sem.run_bind, run_underlying hu w]
      cases d <;> simp_all
    simp [loadVar, Sem.run_bind, hagg, sizeOf, typeInfo, hq, hs, hl]
/-- A struct loaded out of the midst of a block. -/
theorem wp_load_at {o : Oper} {a : Act} {w : World} {K : Act → World → Prop} {Q : Exit → Act → World → Prop} (ty : TypeId) (x : Operand) (ho : o.op = .load ty x)
    (b off : Nat) (hx : a.eval x = .pointer (some ⟨b, off, none⟩)) (cs : List Value) (d : TypeDesc) (hc : ∀ j v, cs[j]? = some v → w.cell? ⟨b, off + j, none⟩ = some v)
    (hu : P.underlying ty = some d) (hd : (match d with | .struct _ | .array _ _ => true | _ => false) = true) (hi : (P.info? ty).map (·.size) = some cs.length)
    (h : K (a.put o.dst (.agg cs.toArray)) w) : o.wp P a w K Q := by
  unfold Oper.wp execOp
  simp only [ho, hx, Instr.loadAt, Instr.sureAddr, Sem.run_bind, Sem.run_pure, Result.andThen_ok, run_loadVar_at w b off ty cs d hc hu hd hi]
  exact h
theorem wpList_load_at {ops : Array Oper} {rest : List Oper} {o : Oper} {a : Act} {w : World} {Q : Exit → Act → World → Prop} (hgd : o.guard = none) (ty : TypeId) (x : Operand) (ho : o.op = .load ty x)
    (b off : Nat) (hx : a.eval x = .pointer (some ⟨b, off, none⟩)) (cs : List Value) (d : TypeDesc) (hc : ∀ j v, cs[j]? = some v → w.cell? ⟨b, off + j, none⟩ = some v)
    (hu : P.underlying ty = some d) (hd : (match d with | .struct _ | .array _ _ => true | _ => false) = true) (hi : (P.info? ty).map (·.size) = some cs.length)
    (h : wpList P ops Q rest (a.put o.dst (.agg cs.toArray)) w) : wpList P ops Q (o :: rest) a w :=
  wpList_plain hgd fun _ hK => wp_load_at ty x ho b off hx cs d hc hu hd hi (hK _ _ h)
end
theorem blk_part {W : World} {g : Nat} {t : TypeId} {cs : Array Value} (h : Blk W g t cs) (k n : Nat) : ∀ j v, (((cs.toList.drop k).take n))[j]? = some v → W.cell? ⟨g, k + j, none⟩ = some v := by
  intro j v hv
  rw [h.cell]
  rw [List.getElem?_take] at hv
  split at hv
  · rw [List.getElem?_drop] at hv
    simpa using hv
  · cases hv
end Go.Proofs.YtdanjegnhdpnlaaGreatDoor.kit
