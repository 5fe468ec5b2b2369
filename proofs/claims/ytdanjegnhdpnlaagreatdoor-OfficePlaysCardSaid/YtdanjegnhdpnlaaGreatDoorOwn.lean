/- Slices that the call itself makes, as lists of typed values; append onto them. The part on 'Reads' is a worked text of the guide, copied as it bids. No condition. -/
import Derived.Test.YtdanjegnhdpnlaaGreatDoorKit
import Derived.Deep.AppendLies
import Derived.Maps.AppendAt
import Derived.RegionTactic
import Derived.OwnWalk
namespace Go.Proofs.YtdanjegnhdpnlaaGreatDoor.kit
open Go.RowKit
set_option linter.unusedVariables false

theorem block_of_add (a : Addr) (n : Nat) : (a.add n).block = a.block := by unfold Addr.add; split <;> rfl
theorem add_of_add (a : Addr) (i j : Nat) : (a.add i).add j = a.add (i + j) := by
  unfold Addr.add
  by_cases hi : i = 0 <;> by_cases hj : j = 0 <;> simp [hi, hj, Nat.add_assoc]

def Reads (w : World) (B size : Nat) (A : Option Addr) (n : Nat) (xs : List Value) : Prop :=
  xs.length = n * size ∧ (0 < n → ∃ ad, A = some ad ∧ ad.block < B ∧ ∀ j u, xs[j]? = some u → w.cell? (ad.add j) = some u)

section
variable {w w' : World} {B B' size n : Nat} {A : Option Addr} {xs : List Value}
theorem Reads.none_ : Reads w B size A 0 [] := ⟨by simp, fun h => absurd h (by omega)⟩
theorem Reads.at_ {k : Nat} (h : Reads w B 1 A n xs) (hk : k < n) : ∃ ad u, A = some ad ∧ ad.block < B ∧ xs[k]? = some u ∧ w.cell? (ad.add k) = some u := by
  obtain ⟨ad, e, hb, hc⟩ := h.2 (by omega)
  have hl : k < xs.length := by have := h.1; omega
  exact ⟨ad, xs[k], e, hb, List.getElem?_eq_getElem hl, hc k _ (List.getElem?_eq_getElem hl)⟩
theorem Reads.keep (h : Reads w B size A n xs) (hk : ∀ p : Addr, p.block < B → w'.cell? p = w.cell? p) : Reads w' B size A n xs :=
  ⟨h.1, fun hn => by
    obtain ⟨ad, e, hb, hc⟩ := h.2 hn
    exact ⟨ad, e, hb, fun j u hu => (hk _ (by rw [block_of_add]; exact hb)).trans (hc j u hu)⟩⟩
theorem Reads.more (h : Reads w B size A n xs) (hB : B ≤ B') : Reads w B' size A n xs :=
  ⟨h.1, fun hn => by
    obtain ⟨ad, e, hb, hc⟩ := h.2 hn
    exact ⟨ad, e, by omega, hc⟩⟩
theorem Reads.below (h : Reads w B size A n xs) (hb : Below B w w') : Reads w' B size A n xs := h.keep fun _ hp => hb.cell hp
theorem Reads.drew (h : Reads w B size A n xs) : Reads w.drew B size A n xs := h
theorem Reads.drewN (h : Reads w B size A n xs) (k : Nat) : Reads (w.drewN k) B size A n xs := h
theorem Reads.alloc (h : Reads w B size A n xs) (hB : B ≤ w.heap.size) (o : Obj) : Reads (w.alloc o) B size A n xs := h.keep fun p hp => World.cell?_alloc_lt w o p (by omega)
theorem Reads.setCell (h : Reads w B size A n xs) {p : Addr} (hB : B ≤ p.block) (u : Value) : Reads (w.setCell p u) B size A n xs :=
  h.keep fun q hq => World.cell?_setCell_other w p q u (fun e => by subst e; omega)
theorem Reads.grown (h : Reads w B size A n xs) {row : Option Nat} (hg : w.grownBy w' row) (hB : B ≤ w.heap.size) (hr : ∀ g, row = some g → B ≤ g) : Reads w' B size A n xs :=
  h.keep fun p hp => World.cell?_of_block (hg.block p.block (by omega) (fun e => by have := hr _ e.symm; omega))
theorem Reads.cut (h : Reads w B size A n xs) {k cap : Nat} (hk : k ≤ n) (hc : n ≤ cap) :
    Reads w B size (if cap = k then A else A.map (·.add (k * size))) (n - k) (xs.drop (k * size)) := by
  refine ⟨by rw [List.length_drop, h.1, Nat.sub_mul], fun hn => ?_⟩
  obtain ⟨ad, rfl, hb, hcell⟩ := h.2 (by omega)
  rw [if_neg (by omega)]
  refine ⟨ad.add (k * size), rfl, by rw [block_of_add]; exact hb, fun j u hu => ?_⟩
  rw [add_of_add]
  exact hcell _ u (by rw [← hu, List.getElem?_drop])
theorem Reads.of_own {base : Nat} {e : TypeId} {c : Nat} (h : w.ownsRow base e size (.slice A n c) n xs) : Reads w w.heap.size size A n xs := by
  refine ⟨h.1, fun hn => ?_⟩
  obtain ⟨g, cap, hv, _, hlt⟩ := h.form hn
  have hA : A = some ⟨g, 0, none⟩ := by injection hv
  subst hA
  exact ⟨_, rfl, hlt, h.cells (g := g) rfl⟩
end

section
variable {P : Program} (w : World)

theorem run_append_of_nil (base : Nat) (t ty e : TypeId) (i : TypeInfo) (size : Nat) (ht : P.underlying t = some (.slice e)) (hi : P.info? e = some i)
    (v : Value) (n : Nat) (xs : List Value) (hown : w.ownsRow base e size v n xs) (c : Nat) : (Builtin.append_ #[t, t] ty #[v, .slice none 0 c]).run P w = .ok v w := by
  rcases hown.2 with ⟨rfl, rfl⟩ | ⟨g, cap, cur, rfl, _, _, hnc, _⟩
  · simp [Builtin.append_, run_underlying ht, sizeOf, typeInfo, hi, Builtin.lenOf, Builtin.firstCells]
  · simp [Builtin.append_, run_underlying ht, sizeOf, typeInfo, hi, Builtin.lenOf, Builtin.firstCells, hnc, storeCells]

theorem run_append_any (base : Nat) (t ty e : TypeId) (i : TypeInfo) (z : Value) (size bytes : Nat) (ht : P.underlying t = some (.slice e)) (hi : P.info? e = some i) (hz : i.zero = some z)
    (hsize : i.size = size) (hby : i.bytes = bytes) (hzs : z.cells.size = size) (hsz : 0 < size)
    (v : Value) (n : Nat) (xs : List Value) (hown : w.ownsRow base e size v n xs)
    (B : Nat) (A : Option Addr) (m c : Nat) (news : List Value) (hr : Reads w B size A m news) (h1 : ∀ u ∈ news, u.oneCell' = true)
    (h63 : n + m ≤ maxLen) (hbytes : (n + m) * bytes ≤ 140737488355328) (hbase : base ≤ w.heap.size) :
    ∃ v' w', (Builtin.append_ #[t, t] ty #[v, .slice A m c]).run P w = .ok v' w' ∧ w'.ownsRow base e size v' (n + m) (xs ++ news) ∧ w.grownBy w' v.ownBlock ∧
      (v'.ownBlock = v.ownBlock ∨ v'.ownBlock = some w.heap.size) := by
  rcases A with _ | ad
  · have hm : m = 0 := by
      rcases Nat.eq_zero_or_pos m with h0 | h0
      · exact h0
      · obtain ⟨ad, h, _⟩ := hr.2 h0
        cases h
    subst hm
    have hn : news = [] := List.eq_nil_of_length_eq_zero (by simpa using hr.1)
    subst hn
    exact ⟨v, w, run_append_of_nil w base t ty e i size ht hi v n xs hown c, by simpa using hown, World.grownBy.refl w _, .inl rfl⟩
  · have hcells : ∀ j u, news[j]? = some u → w.cell? (ad.add j) = some u := by
      intro j u hu
      rcases Nat.eq_zero_or_pos m with h0 | h0
      · subst h0
        have hn : news = [] := List.eq_nil_of_length_eq_zero (by simpa using hr.1)
        subst hn
        simp at hu
      · obtain ⟨ad', h, _, hc⟩ := hr.2 h0
        injection h with h
        subst h
        exact hc j u hu
    obtain ⟨v', w', hrun, h2, h3, _, h5⟩ := run_append_own_at (P := P) w base t ty e i z size bytes ht hi hz hsize hby hzs hsz v n xs hown ad m c news hr.1 hcells h1 h63 hbytes hbase
    exact ⟨v', w', hrun, h2, h3, h5⟩

theorem wp_append_any {o : Oper} {a : Act} {K : Act → World → Prop} {Q : Exit → Act → World → Prop} (s x : Operand) (t : TypeId)
    (ho : o.op = .call { callee := .builtin .append, args := #[s, x], argTypes := #[t, t] })
    (base : Nat) (e : TypeId) (i : TypeInfo) (z : Value) (size bytes : Nat) (ht : P.underlying t = some (.slice e)) (hi : P.info? e = some i) (hz : i.zero = some z)
    (hsize : i.size = size) (hby : i.bytes = bytes) (hzs : z.cells.size = size) (hsz : 0 < size)
    (v : Value) (n : Nat) (xs : List Value) (hs : a.eval s = v) (hown : w.ownsRow base e size v n xs)
    (B : Nat) (A : Option Addr) (m c : Nat) (news : List Value) (hx : a.eval x = .slice A m c) (hr : Reads w B size A m news) (h1 : ∀ u ∈ news, u.oneCell' = true)
    (h63 : n + m ≤ maxLen) (hbytes : (n + m) * bytes ≤ 140737488355328) (hbase : base ≤ w.heap.size)
    (h : ∀ v' w', w'.ownsRow base e size v' (n + m) (xs ++ news) → w.grownBy w' v.ownBlock → (v'.ownBlock = v.ownBlock ∨ v'.ownBlock = some w.heap.size) → K (a.put o.dst v') w') : o.wp P a w K Q := by
  obtain ⟨v', w', hrun, h2, h3, h4⟩ := run_append_any (P := P) w base t o.type e i z size bytes ht hi hz hsize hby hzs hsz v n xs hown B A m c news hr h1 h63 hbytes hbase
  unfold Oper.wp execOp
  simp only [ho, resolve, invoke, builtin, Sem.run_bind, Sem.run_pure, Result.andThen_ok, List.map_toArray, List.map_cons, List.map_nil, hs, hx, hrun]
  exact h v' w' h2 h3 h4

theorem wpList_append_any {ops : Array Oper} {rest : List Oper} {o : Oper} {a : Act} {Q : Exit → Act → World → Prop} (hgd : o.guard = none) (s x : Operand) (t : TypeId)
    (ho : o.op = .call { callee := .builtin .append, args := #[s, x], argTypes := #[t, t] })
    (base : Nat) (e : TypeId) (i : TypeInfo) (z : Value) (size bytes : Nat) (ht : P.underlying t = some (.slice e)) (hi : P.info? e = some i) (hz : i.zero = some z)
    (hsize : i.size = size) (hby : i.bytes = bytes) (hzs : z.cells.size = size) (hsz : 0 < size)
    (v : Value) (n : Nat) (xs : List Value) (hs : a.eval s = v) (hown : w.ownsRow base e size v n xs)
    (B : Nat) (A : Option Addr) (m c : Nat) (news : List Value) (hx : a.eval x = .slice A m c) (hr : Reads w B size A m news) (h1 : ∀ u ∈ news, u.oneCell' = true)
    (h63 : n + m ≤ maxLen) (hbytes : (n + m) * bytes ≤ 140737488355328) (hbase : base ≤ w.heap.size)
    (h : ∀ v' w', w'.ownsRow base e size v' (n + m) (xs ++ news) → w.grownBy w' v.ownBlock → (v'.ownBlock = v.ownBlock ∨ v'.ownBlock = some w.heap.size) → wpList P ops Q rest (a.put o.dst v') w') : wpList P ops Q (o :: rest) a w :=
  wpList_plain hgd fun _ hK => wp_append_any w s x t ho base e i z size bytes ht hi hz hsize hby hzs hsz v n xs hs hown B A m c news hx hr h1 h63 hbytes hbase fun v' w' h2 h3 h4 => hK _ _ (h v' w' h2 h3 h4)

theorem step_append_any {ops : Array Oper} {o : Oper} {a : Act} {K : Act → World → Prop} {Q : Exit → Act → World → Prop} {E : Prop} (hgd : o.guard = none) (s x : Operand) (t : TypeId)
    (ho : o.op = .call { callee := .builtin .append, args := #[s, x], argTypes := #[t, t] })
    (base : Nat) (e : TypeId) (i : TypeInfo) (z : Value) (size bytes : Nat) (ht : P.underlying t = some (.slice e)) (hi : P.info? e = some i) (hz : i.zero = some z)
    (hsize : i.size = size) (hby : i.bytes = bytes) (hzs : z.cells.size = size) (hsz : 0 < size)
    (v : Value) (n : Nat) (xs : List Value) (hs : a.eval s = v) (hown : w.ownsRow base e size v n xs)
    (B : Nat) (A : Option Addr) (m c : Nat) (news : List Value) (hx : a.eval x = .slice A m c) (hr : Reads w B size A m news) (h1 : ∀ u ∈ news, u.oneCell' = true)
    (h63 : n + m ≤ maxLen) (hbytes : (n + m) * bytes ≤ 140737488355328) (hbase : base ≤ w.heap.size)
    (h : ∀ v' w', w'.ownsRow base e size v' (n + m) (xs ++ news) → w.grownBy w' v.ownBlock → (v'.ownBlock = v.ownBlock ∨ v'.ownBlock = some w.heap.size) → K (a.put o.dst v') w') :
    if Region.wanted o (yielded ops a.tmps) = true then Oper.wp P o a w K Q else E := by
  have hw : Region.wanted o (yielded ops a.tmps) = true := by simp [Region.wanted, hgd]
  rw [if_pos hw]
  exact wp_append_any w s x t ho base e i z size bytes ht hi hz hsize hby hzs hsz v n xs hs hown B A m c news hx hr h1 h63 hbytes hbase h
end


/-- The same, what comes back written out as a slice. -/
theorem wpList_append_any_s {P : Program} (w : World) {ops : Array Oper} {rest : List Oper} {o : Oper} {a : Act} {Q : Exit → Act → World → Prop} (hgd : o.guard = none) (s x : Operand) (t : TypeId)
    (ho : o.op = .call { callee := .builtin .append, args := #[s, x], argTypes := #[t, t] })
    (base : Nat) (e : TypeId) (i : TypeInfo) (z : Value) (size bytes : Nat) (ht : P.underlying t = some (.slice e)) (hi : P.info? e = some i) (hz : i.zero = some z)
    (hsize : i.size = size) (hby : i.bytes = bytes) (hzs : z.cells.size = size) (hsz : 0 < size)
    (v : Value) (n : Nat) (xs : List Value) (hs : a.eval s = v) (hown : w.ownsRow base e size v n xs)
    (B : Nat) (A : Option Addr) (m c : Nat) (news : List Value) (hx : a.eval x = .slice A m c) (hr : Reads w B size A m news) (h1 : ∀ u ∈ news, u.oneCell' = true)
    (h63 : n + m ≤ maxLen) (hbytes : (n + m) * bytes ≤ 140737488355328) (hbase : base ≤ w.heap.size)
    (h : ∀ A' c' w', w'.ownsRow base e size (.slice A' (n + m) c') (n + m) (xs ++ news) → w.grownBy w' v.ownBlock → ((Value.slice A' (n + m) c').ownBlock = v.ownBlock ∨ (Value.slice A' (n + m) c').ownBlock = some w.heap.size) → wpList P ops Q rest (a.put o.dst (.slice A' (n + m) c')) w') :
    wpList P ops Q (o :: rest) a w := by
  refine wpList_append_any w hgd s x t ho base e i z size bytes ht hi hz hsize hby hzs hsz v n xs hs hown B A m c news hx hr h1 h63 hbytes hbase ?_
  intro v' w' hown' hg' hloc'
  obtain ⟨A', c', rfl⟩ : ∃ A' c', v' = .slice A' (n + m) c' := by
    rcases hown'.2 with ⟨hv, hn⟩ | ⟨g, cap, cur, hv, _⟩
    · exact ⟨none, 0, by rw [hv, hn]⟩
    · exact ⟨_, _, hv⟩
  exact h A' c' w' hown' hg' hloc'

section
variable {α : Type} {w w' : World} {C n : Nat} {en : α → List Value} {A : Option Addr} {xs : List α}
theorem SliceOf.of_own_s {base : Nat} {e : TypeId} {c : Nat} {ys : List Value} (h : w.ownsRow base e C (.slice A n c) n ys) (hC : ∀ x, (en x).length = C) (hys : ys = xs.flatMap en) (hn : xs.length = n) : SliceOf w C en A n xs := by
  refine ⟨hn, ?_⟩
  rcases h.2 with ⟨_, h0⟩ | ⟨g, cap, cur, hv, _⟩
  · exact .inl h0
  · injection hv with hA
    subst hA
    refine .inr ⟨g, 0, rfl, (h.lt g rfl).2, fun i x hx j u hu => ?_⟩
    have h1 := h.cells (g := g) rfl (i * C + j) u (by rw [hys]; exact flat_get hC xs i x hx j u hu)
    rw [addr_add] at h1
    exact h1
theorem flat_at (hC : ∀ x, (en x).length = C) : ∀ (xs : List α) (j : Nat) (u : Value), (xs.flatMap en)[j]? = some u → ∃ i x k, j = i * C + k ∧ xs[i]? = some x ∧ (en x)[k]? = some u
  | [], j, u, h => by simp at h
  | y :: ys, j, u, h => by
    rw [List.flatMap_cons] at h
    by_cases hj : j < (en y).length
    · rw [List.getElem?_append_left hj] at h
      exact ⟨0, y, j, by simp, rfl, h⟩
    · rw [List.getElem?_append_right (by omega), hC] at h
      obtain ⟨i, x, k, h1, h2, h3⟩ := flat_at hC ys _ u h
      have := hC y
      exact ⟨i + 1, x, k, by rw [Nat.succ_mul]; omega, by simpa using h2, h3⟩
theorem flat_len (hC : ∀ x, (en x).length = C) : ∀ (xs : List α), (xs.flatMap en).length = xs.length * C
  | [] => by simp
  | y :: ys => by rw [List.flatMap_cons, List.length_append, flat_len hC ys, hC, List.length_cons, Nat.succ_mul]; omega
theorem SliceOf.reads (h : SliceOf w C en A n xs) (hC : ∀ x, (en x).length = C) : Reads w w.heap.size C A n (xs.flatMap en) := by
  refine ⟨by rw [flat_len hC, h.len], fun hn => ?_⟩
  obtain ⟨b, off, rfl, hb, hc⟩ := h.at_ hn
  refine ⟨_, rfl, hb, fun j u hu => ?_⟩
  obtain ⟨i, x, k, rfl, h1, h2⟩ := flat_at hC xs j u hu
  rw [addr_add]
  exact hc i x h1 k u h2
theorem SliceOf.of_own {base : Nat} {e : TypeId} {v : Value} (h : w.ownsRow base e C v xs.length (xs.flatMap en)) (hC : ∀ x, (en x).length = C) :
    ∃ A c, v = .slice A xs.length c ∧ xs.length ≤ maxLen ∧ SliceOf w C en A xs.length xs := by
  rcases h.2 with ⟨hv, hn⟩ | ⟨g, cap, cur, hv, hg, hh, hnc, hcm, hcs, ht⟩
  · exact ⟨none, 0, by rw [hv, hn], by rw [hn]; exact Nat.zero_le _, rfl, .inl hn⟩
  · refine ⟨_, cap, hv, by omega, rfl, .inr ⟨g, 0, rfl, ?_, fun i x hx j u hu => ?_⟩⟩
    · exact (h.lt g (by rw [hv]; rfl)).2
    · have h1 := h.cells (g := g) (by rw [hv]; rfl) _ u (flat_get hC xs i x hx j u hu)
      rw [addr_add] at h1
      exact h1
theorem own_kept_below {base : Nat} {e : TypeId} {size : Nat} {v : Value} {ys : List Value} (h : w.ownsRow base e size v n ys) (hb : Below w.heap.size w w') : w'.ownsRow base e size v n ys :=
  h.kept (row := none) ⟨hb.os, hb.tape, hb.output, hb.size, fun k hk _ => hb.block k hk⟩ (by cases h : v.ownBlock <;> simp)
/-- Two owned rows that share no block. -/
def ApartV (v u : Value) : Prop := v.ownBlock = none ∨ v.ownBlock ≠ u.ownBlock
theorem own_lt {base : Nat} {e : TypeId} {size : Nat} {v : Value} {ys : List Value} (h : w.ownsRow base e size v n ys) : ∀ k, v.ownBlock = some k → base ≤ k ∧ k < w.heap.size := h.lt
theorem news_at (w : World) (cs : Array Value) (t : TypeId) (g : Nat) (hg : g = w.heap.size) : ∀ j u, cs.toList[j]? = some u → (w.alloc (.cells cs t)).cell? ((⟨g, 0, none⟩ : Addr).add j) = some u := by
  intro j u hu
  subst hg
  rw [addr_add, Nat.zero_add]
  rw [(Blk.new w t cs).cell j, ← Array.getElem?_toList]
  exact hu
end

section
variable {α β : Type} {B : Nat} {wr W w1 : World} {e1 e2 : TypeId} {C1 C2 : Nat} {en1 : α → List Value} {en2 : β → List Value} {v1 v2 v' : Value} {xs1 : List α} {xs2 : List β}
/-- Two slices of the call's own, in blocks of their own. -/
structure Two (B : Nat) (w : World) (e1 : TypeId) (C1 : Nat) (en1 : α → List Value) (v1 : Value) (xs1 : List α) (e2 : TypeId) (C2 : Nat) (en2 : β → List Value) (v2 : Value) (xs2 : List β) : Prop where
  own1 : w.ownsRow B e1 C1 v1 xs1.length (xs1.flatMap en1)
  own2 : w.ownsRow B e2 C2 v2 xs2.length (xs2.flatMap en2)
  ap1 : ApartV v1 v2
  ap2 : ApartV v2 v1
theorem Two.swap (h : Two B wr e1 C1 en1 v1 xs1 e2 C2 en2 v2 xs2) : Two B wr e2 C2 en2 v2 xs2 e1 C1 en1 v1 xs1 := ⟨h.own2, h.own1, h.ap2, h.ap1⟩
theorem Two.below (h : Two B wr e1 C1 en1 v1 xs1 e2 C2 en2 v2 xs2) (hb : Below wr.heap.size wr W) : Two B W e1 C1 en1 v1 xs1 e2 C2 en2 v2 xs2 := ⟨own_kept_below h.own1 hb, own_kept_below h.own2 hb, h.ap1, h.ap2⟩
theorem Two.push {x : α} (h : Two B wr e1 C1 en1 v1 xs1 e2 C2 en2 v2 xs2) (hb : Below wr.heap.size wr W) (hown : w1.ownsRow B e1 C1 v' (xs1.length + 1) (xs1.flatMap en1 ++ en1 x)) (hg : W.grownBy w1 v1.ownBlock)
    (hloc : v'.ownBlock = v1.ownBlock ∨ v'.ownBlock = some W.heap.size) : Two B w1 e1 C1 en1 v' (xs1 ++ [x]) e2 C2 en2 v2 xs2 := by
  refine ⟨by rw [List.length_append, List.flatMap_append]; simpa using hown, (own_kept_below h.own2 hb).kept hg h.ap2, ?_, ?_⟩
  · rcases hloc with e | e
    · unfold ApartV; rw [e]; exact h.ap1
    · right; rw [e]; intro e'
      have := (h.own2.lt _ e'.symm).2
      have := hb.size
      omega
  · rcases hloc with e | e
    · unfold ApartV; rw [e]; exact h.ap2
    · unfold ApartV
      rw [e]
      cases h2 : v2.ownBlock with
      | none => exact .inl rfl
      | some k =>
        right; intro e'
        have := (h.own2.lt _ h2).2
        have := hb.size
        injection e' with e'
        omega
theorem below_grown_own {w : World} {n : Nat} {ys : List Value} (hbel : Below B w W) (hB : B ≤ W.heap.size) (hown : wr.ownsRow B e1 C1 v1 n ys) (hg : W.grownBy w1 v1.ownBlock) : Below B w w1 :=
  hbel.grown hg hB (fun k hk => (hown.lt k hk).1)
end
end Go.Proofs.YtdanjegnhdpnlaaGreatDoor.kit
