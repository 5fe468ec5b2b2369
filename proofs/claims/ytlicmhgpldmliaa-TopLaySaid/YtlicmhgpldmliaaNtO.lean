/- Debts laid into a map, netted there: the steps. No condition. -/
import Derived.Test.YtlicmhgpldmliaaNtT
import Derived.Test.YtlicmhgpldmliaaNtM
namespace Go.Proofs.Ytlicmhgpldmliaa.kit
open Go.RowKit Go.ChangeMaps
set_option linter.unusedVariables false
section
variable {P : Program} {ops : Array Oper} {rest : List Oper} {o : Oper} {a : Act} {w : World} {Q : Exit → Act → World → Prop}
theorem wp_skip {K : Act → World → Prop} {w' : World} (h : (execOp a.eval o).run P w = .ok .skip w') (hk : K (a.put o.dst undef) w') : o.wp P a w K Q := by
  unfold Oper.wp
  rw [h]
  exact hk
theorem wpList_look (hg : o.guard = none) (m x : Operand) (t : TypeId) (hop : o.op = .lookup t m x false) (M K v : Value) (hm : a.eval m = M) (hx : a.eval x = K) (h : (Instr.lookup t M K false).run P w = .ok v w) (hk : wpList P ops Q rest (a.put o.dst v) w) : wpList P ops Q (o :: rest) a w :=
  wpList_val hg v (by simp [execOp, hop, hm, hx, h, Result.andThen]) hk
theorem wpList_next (hg : o.guard = none) (it : Operand) (hop : o.op = Op.next it false) (I v : Value) (hit : a.eval it = I) {w' : World} (ty : TypeId) (h0 : (Instr.next I false ty).run P w = .ok v w') (hk : wpList P ops Q rest (a.put o.dst v) w') : wpList P ops Q (o :: rest) a w :=
  have h : (Instr.next I false o.type).run P w = .ok v w' := h0
  wpList_val hg v (by simp [execOp, hop, hit, h, Result.andThen]) hk
theorem wpList_range (hg : o.guard = none) (m : Operand) (t : TypeId) (hop : o.op = Op.range t m) (M v : Value) (hm : a.eval m = M) {w' : World} (h : (Instr.range t M).run P w = .ok v w') (hk : wpList P ops Q rest (a.put o.dst v) w') : wpList P ops Q (o :: rest) a w :=
  wpList_val hg v (by simp [execOp, hop, hm, h, Result.andThen]) hk
theorem wpList_del (hg : o.guard = none) (m x : Operand) (t k : TypeId) (hop : o.op = Op.call { callee := Callee.builtin Builtin.delete, args := #[m, x], argTypes := #[t, k] }) (M K : Value) (hm : a.eval m = M) (hx : a.eval x = K) {w' : World} (h : (Builtin.delete_ #[t, k] o.type #[M, K]).run P w = .ok (.tuple #[]) w') (hk : wpList P ops Q rest (a.put o.dst (.tuple #[])) w') : wpList P ops Q (o :: rest) a w := by
  refine wpList_plain hg fun K' hK' => ?_
  unfold Oper.wp
  simp [execOp, hop, resolve, invoke, builtin, hm, hx, h, Result.andThen]
  exact hK' _ _ hk
end
/-- 'm[key] += n' of a key that is not there. -/
structure Adds (key : Value) (n : Int) (esA : Array MapEntry) (ckA : Nat) (esB : Array MapEntry) (ckB : Nat) (esC : Array MapEntry) (st : Nat) : Prop where
  l0 : ∀ {w b}, MapAt w b esA ckA → (Instr.lookup 146 (.map (some b)) key false).run Try.prog w = .ok (.int .i64 0) w
  l1 : ∀ {w b}, MapAt w b esB ckB → (Instr.lookup 146 (.map (some b)) key false).run Try.prog w = .ok (.int .i64 0) w
  e : ∀ {w b}, MapAt w b esA ckA → ∃ w', (Instr.mapEntry 146 (.map (some b)) key).run Try.prog w = .ok (.tuple #[.int .i64 0, .int .i64 st]) w' ∧ MapTurn w w' b esB ckB
  s : ∀ {w b}, MapAt w b esB ckB → ∃ w', (Instr.entryStore 146 (.map (some b)) (.int .i64 st) (.int .i64 n)).run Try.prog w = .ok () w' ∧ MapTurn w w' b esC ckB
theorem adds0 : Adds k1 5 #[] 0 m1n 1 m1 0 := ⟨look_m0_1, look_m1n_1, ent_m0_1, sto_m1n⟩
theorem adds1 : Adds k2 3 m1 1 m2n 2 m2 1 := ⟨look_m1_2, look_m2n_2, ent_m1_2, sto_m2n⟩
/-- 'm[key] -= 3', and struck if nothing is left. -/
structure Subs (key : Value) (v : Int) (st : Nat) (esA esC esD : Array MapEntry) : Prop where
  l : ∀ {w b}, MapAt w b esA 2 → (Instr.lookup 146 (.map (some b)) key false).run Try.prog w = .ok (.int .i64 v) w
  e : ∀ {w b}, MapAt w b esA 2 → ∃ w', (Instr.mapEntry 146 (.map (some b)) key).run Try.prog w = .ok (.tuple #[.int .i64 v, .int .i64 st]) w' ∧ MapTurn w w' b esA 2
  s : ∀ {w b}, MapAt w b esA 2 → ∃ w', (Instr.entryStore 146 (.map (some b)) (.int .i64 st) (.int .i64 (v - 3))).run Try.prog w = .ok () w' ∧ MapTurn w w' b esC 2
  z : ∀ {w b}, MapAt w b esC 2 → (Instr.lookup 146 (.map (some b)) key false).run Try.prog w = .ok (.int .i64 (v - 3)) w
  d : v - 3 = 0 → ∀ {w b} (ty : TypeId), MapAt w b esC 2 → ∃ w', (Builtin.delete_ #[146, 166] ty #[.map (some b), key]).run Try.prog w = .ok (.tuple #[]) w' ∧ MapTurn w w' b esD 2
  k : v - 3 ≠ 0 → esD = esC
  b : 3 ≤ v ∧ v ≤ 5
theorem subs_a1 : Subs k1 5 0 m2 m3 m3 := ⟨look_m2_1, ent_m2_1, sto_m2_1, look_m3_1, fun h => by simp at h, fun _ => rfl, by decide⟩
theorem subs_a2 : Subs k2 3 1 m3 m4 m5 := ⟨look_m3_2, ent_m3_2, sto_m3_2, look_m4_2, fun _ => del_m4, fun h => by simp at h, by decide⟩
theorem subs_b1 : Subs k2 3 1 m2 m6 m1 := ⟨look_m2_2, ent_m2_2, sto_m2_2, look_m6_2, fun _ => del_m6, fun h => by simp at h, by decide⟩
theorem subs_b2 : Subs k1 5 0 m1 m5 m5 := ⟨look_m1_1, ent_m1_1, sto_m1_1, look_m5_1, fun h => by simp at h, fun _ => rfl, by decide⟩
/-- The two keys, as the loop over the map may meet them: first f (entry b0), then the other. -/
structure Duo (f t : ByteArray) (v v' : Int) (st st' : Nat) (eM : Array MapEntry) (seen : Nat) : Prop where
  one : ∃ eC, Subs (.agg #[.string ⟨#[85, 83, 68]⟩, .string f, .string t]) v st m2 eC eM
  two : ∃ eC, Subs (.agg #[.string ⟨#[85, 83, 68]⟩, .string t, .string f]) v' st' eM eC m5
  back : ∀ {w b}, MapAt w b m2 2 → (Instr.lookup 146 (.map (some b)) (.agg #[.string ⟨#[85, 83, 68]⟩, .string t, .string f]) false).run Try.prog w = .ok (.int .i64 v') w
  vv : (v = 5 ∧ v' = 3) ∨ (v = 3 ∧ v' = 5)
theorem duoA : Duo ⟨#[97]⟩ ⟨#[98]⟩ 5 3 0 1 m3 0 := ⟨⟨_, subs_a1⟩, ⟨_, subs_a2⟩, look_m2_2, .inl ⟨rfl, rfl⟩⟩
theorem duoB : Duo ⟨#[98]⟩ ⟨#[97]⟩ 3 5 1 0 m1 1 := ⟨⟨_, subs_b1⟩, ⟨_, subs_b2⟩, look_m2_1, .inr ⟨rfl, rfl⟩⟩
/-- Where the loop over the map stands. -/
def LoopSt (es : Array MapEntry) (seen : Array Nat) : Prop := (es = m2 ∧ seen = #[]) ∨ (es = m5 ∧ seen = #[0]) ∨ (es = m5 ∧ seen = #[1]) ∨ (es = m5 ∧ seen = #[1, 0])
theorem left_m2 : leftOf m2 #[] = m2 := by kernel_rfl
theorem left_e : leftOf m5 #[] = m5 := by kernel_rfl
theorem left_a : leftOf m5 #[0] = #[] := by kernel_rfl
theorem left_b : leftOf m5 #[1] = m5 := by kernel_rfl
theorem left_c : leftOf m5 #[1, 0] = #[] := by kernel_rfl
theorem loop_old {es : Array MapEntry} {seen : Array Nat} (h : LoopSt es seen) : (∀ x ∈ es.toList, x.born < 2) ∧ (es.toList.map (·.born)).Nodup := by
  rcases h with ⟨rfl, rfl⟩ | ⟨rfl, rfl⟩ | ⟨rfl, rfl⟩ | ⟨rfl, rfl⟩ <;> exact ⟨by simp [m2, m5], by simp [m2, m5]⟩
theorem left_of {w : World} {b r since last ck : Nat} {es : Array MapEntry} {seen : Array Nat} (hM : MapAt w b es ck) (hI : IterAt w r b since seen last) : w.rangeLeft b r = (leftOf es seen).size := by
  unfold World.rangeLeft
  unfold MapAt at hM
  unfold IterAt at hI
  rw [hM, hI]
theorem first_key {e : MapEntry} (h : e ∈ (leftOf m2 #[]).toList) : ∃ (f t : ByteArray) (v v' : Int) (st st' : Nat) (eM : Array MapEntry) (sn : Nat), Duo f t v v' st st' eM sn ∧ e.key = .agg #[.string ⟨#[85, 83, 68]⟩, .string f, .string t] ∧ e.val = .int .i64 v ∧ e.born = sn ∧ LoopSt m5 #[sn] ∧ (leftOf m5 #[sn]).size < 2 := by
  rw [left_m2] at h
  simp only [m2, List.mem_cons, List.not_mem_nil, or_false] at h
  rcases h with rfl | rfl
  · exact ⟨_, _, _, _, _, _, _, _, duoA, rfl, rfl, rfl, .inr (.inl ⟨rfl, rfl⟩), by rw [left_a]; decide⟩
  · exact ⟨_, _, _, _, _, _, _, _, duoB, rfl, rfl, rfl, .inr (.inr (.inl ⟨rfl, rfl⟩)), by rw [left_b]; decide⟩
theorem last_key {e : MapEntry} (h : e ∈ (leftOf m5 #[1]).toList) : e = ⟨k1, .int .i64 2, 0⟩ := by
  rw [left_b] at h
  simpa [m5] using h
def st3 (eM : Array MapEntry) : Nat → Array MapEntry
  | 0 => m2
  | 1 => eM
  | _ => m5
theorem duo_k {f t : ByteArray} {v v' : Int} {st st' : Nat} {eM : Array MapEntry} {sn j : Nat} (h : Duo f t v v' st st' eM sn) (hj : j < 2) : ∃ (f' t' : ByteArray) (u : Int) (s : Nat) (eC : Array MapEntry), Subs (.agg #[.string ⟨#[85, 83, 68]⟩, .string f', .string t']) u s (st3 eM j) eC (st3 eM (j + 1)) ∧
    ∀ W, (Instr.index 167 (.agg #[.string ⟨#[85, 83, 68]⟩, .string f, .string t, .string ⟨#[85, 83, 68]⟩, .string t, .string f]) (.int .i64 j)).run Try.prog W = .ok (.agg #[.string ⟨#[85, 83, 68]⟩, .string f', .string t']) W := by
  rcases (show j = 0 ∨ j = 1 by omega) with rfl | rfl
  · obtain ⟨eC, hc⟩ := h.one
    exact ⟨f, t, v, st, eC, hc, fun W => by kernel_rfl⟩
  · obtain ⟨eC, hc⟩ := h.two
    exact ⟨t, f, v', st', eC, hc, fun W => by kernel_rfl⟩
/-- How far 'm[key] += n' has come: entry laid, value stored. -/
structure RJ (w0 W : World) (B b g : Nat) (t : TypeId) (cs : Array Value) (esA : Array MapEntry) (ckA : Nat) (esB : Array MapEntry) (ckB : Nat) (esC : Array MapEntry) (dE dS : Bool) : Prop where
  bw : Below B w0 W
  sz : B ≤ W.heap.size
  gk : Blk W g t cs
  m0 : dE = false → MapAt W b esA ckA
  m1 : dE = true → dS = false → MapAt W b esB ckB
  m2 : dS = true → MapAt W b esC ckB
section
variable {w0 W W' : World} {B b g ckA ckB : Nat} {t : TypeId} {cs : Array Value} {esA esB esC : Array MapEntry} {dE dS : Bool}
theorem RJ.ent (h : RJ w0 W B b g t cs esA ckA esB ckB esC false false) (ht : MapTurn W W' b esB ckB) (hB : B ≤ b) (hg : g ≠ b) : RJ w0 W' B b g t cs esA ckA esB ckB esC true false :=
  ⟨ht.bel h.bw h.sz hB, by rw [ht.size]; exact h.sz, h.gk.grown ht.grown (fun e => by injection e with e; exact hg e), fun e => (by cases e), fun _ _ => ht.at_, fun e => (by cases e)⟩
theorem RJ.sto (h : RJ w0 W B b g t cs esA ckA esB ckB esC true false) (ht : MapTurn W W' b esC ckB) (hB : B ≤ b) (hg : g ≠ b) : RJ w0 W' B b g t cs esA ckA esB ckB esC true true :=
  ⟨ht.bel h.bw h.sz hB, by rw [ht.size]; exact h.sz, h.gk.grown ht.grown (fun e => by injection e with e; exact hg e), fun e => (by cases e), fun _ e => (by cases e), fun _ => ht.at_⟩
end
def dA : Db := (⟨#[97]⟩, ⟨#[98]⟩, ⟨#[85, 83, 68]⟩, 5)
def dB : Db := (⟨#[98]⟩, ⟨#[97]⟩, ⟨#[85, 83, 68]⟩, 3)
theorem dA_ok : DbOk dA := ⟨by decide +kernel, by decide +kernel, by decide, by decide +kernel, by decide⟩
theorem dB_ok : DbOk dB := ⟨by decide +kernel, by decide +kernel, by decide, by decide +kernel, by decide⟩
def keyD (x : Db) : Value := .agg #[.string x.2.2.1, .string x.1, .string x.2.1]
def st1 : Nat → Array MapEntry × Nat
  | 0 => (#[], 0)
  | 1 => (m1, 1)
  | _ => (m2, 2)
theorem adds_k {k : Nat} {x : Db} (hk : k < 2) (hx : [dA, dB][k]? = some x) : ∃ esB ckB st, Adds (keyD x) x.2.2.2 (st1 k).1 (st1 k).2 esB ckB (st1 (k + 1)).1 st ∧ ckB = (st1 (k + 1)).2 := by
  rcases (show k = 0 ∨ k = 1 by omega) with rfl | rfl
  · injection hx with hx; subst hx
    exact ⟨m1n, 1, 0, adds0, rfl⟩
  · injection hx with hx; subst hx
    exact ⟨m2n, 2, 1, adds1, rfl⟩
theorem db_amt {k : Nat} {x : Db} (hx : [dA, dB][k]? = some x) : 0 ≤ x.2.2.2 ∧ x.2.2.2 ≤ 5 := by
  rcases k with _ | _ | k
  · injection hx with hx; subst hx; decide
  · injection hx with hx; subst hx; decide
  · simp at hx
end Go.Proofs.Ytlicmhgpldmliaa.kit
