/- Maps whose keys are numbers or texts, as functions: look, put, strike. No condition. -/
import Derived.Test.YtdanjegnhdpnlaaGreatDoorRaw
import Derived.MapKept
namespace Go.Proofs.YtdanjegnhdpnlaaGreatDoor.kit
open Go.RowKit Go.ChangeMaps Go.MapKept
set_option linter.unusedVariables false

structure KeyC (d : TypeDesc) {κ : Type} (kC : κ → Value) : Prop where
  key : ∀ k, IsKey d (kC k)
  inj : ∀ a b, kC a = kC b → a = b
theorem keyInt (k : IntKind) : KeyC (.int k) (fun n : Int => .int k n) := ⟨fun _ => rfl, fun a b h => by injection h⟩
theorem keyStr : KeyC .string (fun s : ByteArray => .string s) := ⟨fun _ => trivial, fun a b h => by injection h⟩

section
variable {κ α : Type}
/-- The block b is a map of n entries: what m tells of a key. -/
def TMap (W : World) (b : Nat) (d : TypeDesc) (kC : κ → Value) (vC : α → Value) (n : Nat) (m : κ → Option α) : Prop :=
  ∃ (es : Array MapEntry) (ck : Nat) (ys : List (κ × α)), MapAt W b es ck ∧ Stamped es ck ∧ es.toList.map (fun e => (e.key, e.val)) = ys.map (fun p => (kC p.1, vC p.2)) ∧ ys.length = n ∧ ∀ k v, m k = some v ↔ (k, v) ∈ ys
def putF [DecidableEq κ] (m : κ → Option α) (k : κ) (v : α) : κ → Option α := fun q => if q = k then some v else m q
def delF [DecidableEq κ] (m : κ → Option α) (k : κ) : κ → Option α := fun q => if q = k then none else m q
variable {P : Program} {W W' : World} {b n : Nat} {d : TypeDesc} {kC : κ → Value} {vC : α → Value} {m : κ → Option α} {mty kt et : TypeId}
theorem TMap.lt (h : TMap W b d kC vC n m) : b < W.heap.size := by
  obtain ⟨es, ck, ys, h1, _⟩ := h
  exact h1.lt
theorem TMap.same (h : TMap W b d kC vC n m) (hh : W'.heap[b]? = W.heap[b]?) : TMap W' b d kC vC n m := by
  obtain ⟨es, ck, ys, h1, h2⟩ := h
  exact ⟨es, ck, ys, hh.trans h1, h2⟩
theorem TMap.below (h : TMap W b d kC vC n m) {B : Nat} (hb : Below B W W') (hB : b < B) : TMap W' b d kC vC n m := h.same (hb.block b hB)
theorem TMap.kept (h : TMap W b d kC vC n m) {row : Option Nat} (hg : W.grownBy W' row) (hne : some b ≠ row) : TMap W' b d kC vC n m := h.same (hg.block b h.lt hne)
theorem TMap.alloc (h : TMap W b d kC vC n m) (o : Obj) : TMap (W.alloc o) b d kC vC n m := h.same (Below.heap_alloc W o b h.lt)
theorem TMap.made (W : World) (d : TypeDesc) (kC : κ → Value) (vC : α → Value) : TMap (W.alloc (.map #[] 0)) W.heap.size d kC vC 0 (fun _ => none) :=
  ⟨#[], 0, [], heap_alloc_new W _, stamped_empty 0, rfl, rfl, fun k v => by simp⟩
theorem TMap.ext (h : TMap W b d kC vC n m) {m' : κ → Option α} (he : ∀ k, m' k = m k) : TMap W b d kC vC n m' := by
  obtain ⟨es, ck, ys, h1, h2, h3, h4, h5⟩ := h
  exact ⟨es, ck, ys, h1, h2, h3, h4, fun k v => by rw [he]; exact h5 k v⟩
theorem TMap.none_of (h : TMap W b d kC vC 0 m) (k : κ) : m k = none := by
  obtain ⟨es, ck, ys, h1, h2, h3, h4, h5⟩ := h
  have : ys = [] := List.eq_nil_of_length_eq_zero h4
  subst this
  cases hm : m k with
  | none => rfl
  | some v => have := (h5 k v).1 hm; simp at this
theorem TMap.ne_blk (h : TMap W b d kC vC n m) {g : Nat} {t : TypeId} {cs : Array Value} (hg : Blk W g t cs) : b ≠ g := by
  rintro rfl
  obtain ⟨es, ck, ys, h1, _⟩ := h
  unfold MapAt at h1
  unfold Blk at hg
  rw [hg] at h1
  cases h1
theorem TMap.ne_own (h : TMap W b d kC vC n m) {base : Nat} {e : TypeId} {size k : Nat} {v : Value} {xs : List Value} (ho : W.ownsRow base e size v k xs) : v.ownBlock ≠ some b := by
  rcases ho.2 with ⟨rfl, _⟩ | ⟨g, cap, cur, rfl, _, hg, _⟩
  · simp [Value.ownBlock]
  · intro he
    simp only [Value.ownBlock, Option.some.injEq] at he
    subst he
    obtain ⟨es, ck, ys, h1, _⟩ := h
    unfold MapAt at h1
    rw [hg] at h1
    cases h1
/-- Where a key is found: the two lists part alike. -/
theorem find_cases {es : Array MapEntry} {ys : List (κ × α)} (K : KeyC d kC) (hmap : es.toList.map (fun e => (e.key, e.val)) = ys.map (fun p => (kC p.1, vC p.2))) (hnd : (es.toList.map (·.key)).Nodup) (k : κ) :
    (Instr.findNow d (kC k) es.toList 0 = some none ∧ (∀ v, (k, v) ∉ ys) ∧ ∀ x ∈ es.toList, x.key ≠ kC k) ∨
    ∃ (j : Nat) (e : MapEntry) (e1 e2 : List MapEntry) (y1 y2 : List (κ × α)) (v : α), Instr.findNow d (kC k) es.toList 0 = some (some (j, vC v)) ∧ es.toList[j]? = some e ∧ e.key = kC k ∧ es.toList = e1 ++ e :: e2 ∧ e1.length = j ∧ ys = y1 ++ (k, v) :: y2 ∧
      e1.map (fun e => (e.key, e.val)) = y1.map (fun p => (kC p.1, vC p.2)) ∧ e2.map (fun e => (e.key, e.val)) = y2.map (fun p => (kC p.1, vC p.2)) ∧ (∀ u, (k, u) ∉ y1) ∧ (∀ u, (k, u) ∉ y2) := by
  have hks : ∀ x ∈ es.toList, IsKey d x.key := by
    intro x hx
    have h1 : (x.key, x.val) ∈ es.toList.map (fun e => (e.key, e.val)) := List.mem_map.2 ⟨x, hx, rfl⟩
    rw [hmap] at h1
    obtain ⟨p, _, hp⟩ := List.mem_map.1 h1
    injection hp with hp
    rw [← hp]
    exact K.key _
  rcases findNow_spec (K.key k) es.toList 0 hks with ⟨h1, h2⟩ | ⟨j, e, h1, h2, h3⟩
  · refine .inl ⟨h1, fun v hv => ?_, h2⟩
    have h4 : (kC k, vC v) ∈ ys.map (fun p => (kC p.1, vC p.2)) := List.mem_map.2 ⟨_, hv, rfl⟩
    rw [← hmap] at h4
    obtain ⟨x, hx, hxe⟩ := List.mem_map.1 h4
    injection hxe with hxe
    exact h2 x hx hxe
  · obtain ⟨e1, e2, hsp, hlen⟩ : ∃ e1 e2, es.toList = e1 ++ e :: e2 ∧ e1.length = j := by
      have hj := (List.getElem?_eq_some_iff.1 h2).1
      refine ⟨es.toList.take j, es.toList.drop (j + 1), ?_, by rw [List.length_take]; omega⟩
      have h5 := List.take_append_drop j es.toList
      rw [List.drop_eq_getElem_cons hj, (List.getElem?_eq_some_iff.1 h2).2] at h5
      exact h5.symm
    have hm2 := hmap
    rw [hsp, List.map_append, List.map_cons] at hm2
    obtain ⟨y1, y2', hy, hm1, hm3⟩ := List.map_eq_append_iff.1 hm2.symm
    obtain ⟨p, y2, hy2, hp, hm4⟩ := List.map_eq_cons_iff.1 hm3
    injection hp with hp1 hp2
    obtain ⟨pk, pv⟩ := p
    have hpk : pk = k := K.inj _ _ (hp1.trans h3)
    subst hpk
    have hno : ∀ (l : List MapEntry) (y : List (κ × α)), l.map (fun e => (e.key, e.val)) = y.map (fun p => (kC p.1, vC p.2)) → (∀ x ∈ l, x.key ≠ kC pk) → ∀ u, (pk, u) ∉ y := by
      intro l y hl hx u hu
      have h6 : (kC pk, vC u) ∈ y.map (fun p => (kC p.1, vC p.2)) := List.mem_map.2 ⟨_, hu, rfl⟩
      rw [← hl] at h6
      obtain ⟨x, hxm, hxe⟩ := List.mem_map.1 h6
      injection hxe with hxe
      exact hx x hxm hxe
    rw [hsp, List.map_append, List.map_cons, List.nodup_append, List.nodup_cons] at hnd
    obtain ⟨_, ⟨hn2, _⟩, hn3⟩ := hnd
    refine .inr ⟨j, e, e1, e2, y1, y2, pv, by rw [Nat.zero_add] at h1; rw [h1, ← hp2], h2, h3, hsp, hlen, by rw [hy, hy2], hm1.symm, hm4.symm, hno e1 y1 hm1.symm ?_, hno e2 y2 hm4.symm ?_⟩
    · intro x hx he
      exact hn3 x.key (List.mem_map.2 ⟨x, hx, rfl⟩) e.key (by simp) (he.trans h3.symm)
    · intro x hx he
      exact hn2 (List.mem_map.2 ⟨x, hx, he.trans h3.symm⟩)
theorem TMap.look (h : TMap W b d kC vC n m) (K : KeyC d kC) (hm : P.underlying mty = some (.map kt et)) (hd : P.underlying kt = some d) (z : Value) (hz : ∀ u, (zeroValue et).run P u = .ok z u) (k : κ) (ok : Bool) :
    (Instr.lookup mty (.map (some b)) (kC k) ok).run P W = .ok (if ok = true then .tuple #[((m k).map vC).getD z, .bool (m k).isSome] else ((m k).map vC).getD z) W := by
  obtain ⟨es, ck, ys, hb, hs, hmap, hl, hmem⟩ := h
  rcases find_cases K hmap hs.2.2 k with ⟨h1, h2, _⟩ | ⟨j, e, e1, e2, y1, y2, v, h1, _, _, _, _, h2, _⟩
  · have hn : m k = none := by
      cases hq : m k with
      | none => rfl
      | some v => exact absurd ((hmem k v).1 hq) (h2 v)
    cases ok <;> simp [Instr.lookup, run_underlying hm, MapKept.run_getObj_map hb, run_checkKey hd (K.key k), run_findKey hd h1, hz, Result.andThen, hn]
  · have hn : m k = some v := (hmem k v).2 (by rw [h2]; simp)
    cases ok <;> simp [Instr.lookup, run_underlying hm, MapKept.run_getObj_map hb, run_checkKey hd (K.key k), run_findKey hd h1, Result.andThen, hn]
theorem modify_mid {β : Type} (f : β → β) : ∀ (l1 : List β) (x : β) (l2 : List β), (l1 ++ x :: l2).modify l1.length f = l1 ++ f x :: l2
  | [], x, l2 => by simp
  | y :: l1, x, l2 => by simp [modify_mid f l1 x l2]
theorem grown_set {es : Array MapEntry} {ck : Nat} (hb : MapAt W b es ck) (o : Obj) : W.grownBy { W with heap := W.heap.setIfInBounds b o } (some b) :=
  ⟨rfl, rfl, rfl, by simp, fun i _ hi => (heap_set hb).2 i (fun e => hi (by rw [e]))⟩
variable [DecidableEq κ]
theorem TMap.put (h : TMap W b d kC vC n m) (K : KeyC d kC) (hm : P.underlying mty = some (.map kt et)) (hd : P.underlying kt = some d) (k : κ) (v : α) :
    ∃ w', (Instr.mapUpdate mty (.map (some b)) (kC k) (vC v)).run P W = .ok () w' ∧ TMap w' b d kC vC (if (m k).isSome then n else n + 1) (putF m k v) ∧ W.grownBy w' (some b) ∧ w'.heap.size = W.heap.size := by
  obtain ⟨es, ck, ys, hb, hs, hmap, hl, hmem⟩ := h
  rcases find_cases K hmap hs.2.2 k with ⟨h1, h2, h3⟩ | ⟨j, e, e1, e2, y1, y2, v0, h1, hje, hke, hsp, hlen, h2, hm1, hm2, hn1, hn2⟩
  · have hn : m k = none := by
      cases hq : m k with
      | none => rfl
      | some v => exact absurd ((hmem k v).1 hq) (h2 v)
    refine ⟨_, by simp [Instr.mapUpdate, run_underlying hm, MapKept.run_getObj_map hb, run_checkKey hd (K.key k), run_findKey hd h1, MapKept.run_setObj_map _ hb, Result.andThen]; rfl, ?_, grown_set hb _, by simp⟩
    refine ⟨_, _, ys ++ [(k, v)], (heap_set hb).1, stamped_push hs h3, by simp [hmap], by rw [hn, List.length_append, hl]; rfl, fun q u => ?_⟩
    unfold putF
    by_cases e : q = k
    · subst e
      rw [if_pos rfl, List.mem_append, List.mem_singleton]
      constructor
      · intro hh; injection hh with hh; exact .inr (by rw [hh])
      · rintro (hh | hh)
        · exact absurd hh (h2 u)
        · injection hh with _ hh; rw [hh]
    · rw [if_neg e, List.mem_append, List.mem_singleton, hmem]
      constructor
      · exact .inl
      · rintro (hh | hh)
        · exact hh
        · injection hh with hh; exact absurd hh e
  · have hn : m k = some v0 := (hmem k v0).2 (by rw [h2]; simp)
    have hj : es[j]? = some e := by simpa using hje
    refine ⟨_, by simp [Instr.mapUpdate, run_underlying hm, MapKept.run_getObj_map hb, run_checkKey hd (K.key k), run_findKey hd h1, hj, hke, run_keyThatStays (K.key k), MapKept.run_setObj_map _ hb, Result.andThen]; rfl, ?_, grown_set hb _, by simp⟩
    have hkey : ∀ e', es[j]? = some e' → ({ e' with key := kC k, val := vC v } : MapEntry).key = e'.key := fun e' he' => by rw [hj] at he'; cases he'; exact hke.symm
    have hlist : (es.modify j (fun e => { e with key := kC k, val := vC v })).toList = e1 ++ { e with key := kC k, val := vC v } :: e2 := by
      rw [Array.toList_modify, hsp, ← hlen, modify_mid]
    refine ⟨_, _, y1 ++ (k, v) :: y2, (heap_set hb).1, stamped_modify hs _ _ (fun _ _ => rfl) (fun e' _ he' => hkey e' he'), ?_, ?_, fun q u => ?_⟩
    · rw [hlist, List.map_append, List.map_cons, hm1, hm2, List.map_append, List.map_cons]
    · rw [hn, ← hl, h2]; simp
    · unfold putF
      by_cases eq : q = k
      · subst eq
        rw [if_pos rfl, List.mem_append, List.mem_cons]
        constructor
        · intro hh; injection hh with hh; exact .inr (.inl (by rw [hh]))
        · rintro (hh | hh | hh)
          · exact absurd hh (hn1 u)
          · injection hh with _ hh; rw [hh]
          · exact absurd hh (hn2 u)
      · rw [if_neg eq, hmem, h2, List.mem_append, List.mem_append, List.mem_cons, List.mem_cons]
        constructor
        · rintro (hh | hh | hh)
          · exact .inl hh
          · injection hh with hh; exact absurd hh eq
          · exact .inr (.inr hh)
        · rintro (hh | hh | hh)
          · exact .inl hh
          · injection hh with hh; exact absurd hh eq
          · exact .inr (.inr hh)
theorem TMap.del (h : TMap W b d kC vC n m) (K : KeyC d kC) (hm : P.underlying mty = some (.map kt et)) (hd : P.underlying kt = some d) (k : κ) (ty : TypeId) :
    ∃ w', (Builtin.delete_ #[mty, kt] ty #[.map (some b), kC k]).run P W = .ok (.tuple #[]) w' ∧ TMap w' b d kC vC (if (m k).isSome then n - 1 else n) (delF m k) ∧ W.grownBy w' (some b) ∧ w'.heap.size = W.heap.size := by
  obtain ⟨es, ck, ys, hb, hs, hmap, hl, hmem⟩ := h
  rcases find_cases K hmap hs.2.2 k with ⟨h1, h2, h3⟩ | ⟨j, e, e1, e2, y1, y2, v0, h1, hje, hke, hsp, hlen, h2, hm1, hm2, hn1, hn2⟩
  · have hn : m k = none := by
      cases hq : m k with
      | none => rfl
      | some v => exact absurd ((hmem k v).1 hq) (h2 v)
    refine ⟨_, by simp [Builtin.delete_, run_underlying hm, MapKept.run_getObj_map hb, run_checkKey hd (K.key k), run_findKey hd h1, MapKept.run_setObj_map _ hb, Result.andThen]; rfl, ?_, grown_set hb _, by simp⟩
    refine ⟨_, _, ys, (heap_set hb).1, hs, hmap, by rw [hn]; exact hl, fun q u => ?_⟩
    unfold delF
    by_cases e : q = k
    · subst e
      rw [if_pos rfl]
      exact ⟨fun hh => (nomatch hh), fun hh => absurd hh (h2 u)⟩
    · rw [if_neg e]; exact hmem q u
  · have hn : m k = some v0 := (hmem k v0).2 (by rw [h2]; simp)
    refine ⟨_, by simp [Builtin.delete_, run_underlying hm, MapKept.run_getObj_map hb, run_checkKey hd (K.key k), run_findKey hd h1, MapKept.run_setObj_map _ hb, Result.andThen]; rfl, ?_, grown_set hb _, by simp⟩
    have hlist : (es.eraseIdxIfInBounds j).toList = e1 ++ e2 := by
      have hlt : j < es.size := by have := (List.getElem?_eq_some_iff.1 hje).1; simpa using this
      unfold Array.eraseIdxIfInBounds
      rw [dif_pos hlt, Array.toList_eraseIdx, hsp, List.eraseIdx_append_of_length_le (by omega), ← hlen, Nat.sub_self, List.eraseIdx_cons_zero]
    refine ⟨_, _, y1 ++ y2, (heap_set hb).1, stamped_erase hs _, ?_, ?_, fun q u => ?_⟩
    · rw [hlist, List.map_append, hm1, hm2, List.map_append]
    · rw [hn, ← hl, h2]; simp
    · unfold delF
      by_cases eq : q = k
      · subst eq
        rw [if_pos rfl, List.mem_append]
        exact ⟨fun hh => (nomatch hh), fun hh => (hh.elim (fun h => absurd h (hn1 u)) (fun h => absurd h (hn2 u)))⟩
      · rw [if_neg eq, hmem, h2, List.mem_append, List.mem_append, List.mem_cons]
        constructor
        · rintro (hh | hh | hh)
          · exact .inl hh
          · injection hh with hh; exact absurd hh eq
          · exact .inr hh
        · rintro (hh | hh)
          · exact .inl hh
          · exact .inr (.inr hh)
end
/-! single operations of a walk -/
section
variable {P : Program} {ops : Array Oper} {rest : List Oper} {o : Oper} {a : Act} {w w' : World} {Q : Exit → Act → World → Prop} {K : Act → World → Prop}
theorem wpList_look2 (hg : o.guard = none) (m x : Operand) (t : TypeId) (ok : Bool) (hop : o.op = .lookup t m x ok) (M X v : Value) (hm : a.eval m = M) (hx : a.eval x = X) (h : (Instr.lookup t M X ok).run P w = .ok v w) (hk : wpList P ops Q rest (a.put o.dst v) w) : wpList P ops Q (o :: rest) a w :=
  wpList_val hg v (by simp [execOp, hop, hm, hx, h, Result.andThen]) hk
theorem wpList_upd (hg : o.guard = none) (m x y : Operand) (t : TypeId) (hop : o.op = .mapUpdate t m x y) (M X Y : Value) (hm : a.eval m = M) (hx : a.eval x = X) (hy : a.eval y = Y) (h : (Instr.mapUpdate t M X Y).run P w = .ok () w') (hk : wpList P ops Q rest (a.put o.dst undef) w') : wpList P ops Q (o :: rest) a w :=
  wpList_plain hg fun K hK => wp_skip (by simp [execOp, hop, hm, hx, hy, h, Result.andThen]) (hK _ _ hk)
theorem wpList_del2 (hg : o.guard = none) (m x : Operand) (t k : TypeId) (hop : o.op = Op.call { callee := Callee.builtin Builtin.delete, args := #[m, x], argTypes := #[t, k] }) (M X : Value) (hm : a.eval m = M) (hx : a.eval x = X) (h : ∀ ty, (Builtin.delete_ #[t, k] ty #[M, X]).run P w = .ok (.tuple #[]) w') (hk : wpList P ops Q rest (a.put o.dst (.tuple #[])) w') : wpList P ops Q (o :: rest) a w := by
  refine wpList_plain hg fun K' hK' => ?_
  have h0 := h o.type
  unfold Oper.wp
  simp [execOp, hop, resolve, invoke, builtin, hm, hx, h0, Result.andThen]
  exact hK' _ _ hk
theorem wp_look2 (m x : Operand) (t : TypeId) (ok : Bool) (hop : o.op = .lookup t m x ok) (M X v : Value) (hm : a.eval m = M) (hx : a.eval x = X) (h : (Instr.lookup t M X ok).run P w = .ok v w) (hk : K (a.put o.dst v) w) : o.wp P a w K Q :=
  wp_val v (by simp [execOp, hop, hm, hx, h, Result.andThen]) hk
theorem wp_upd (m x y : Operand) (t : TypeId) (hop : o.op = .mapUpdate t m x y) (M X Y : Value) (hm : a.eval m = M) (hx : a.eval x = X) (hy : a.eval y = Y) (h : (Instr.mapUpdate t M X Y).run P w = .ok () w') (hk : K (a.put o.dst undef) w') : o.wp P a w K Q :=
  wp_skip (by simp [execOp, hop, hm, hx, hy, h, Result.andThen]) hk
end
end Go.Proofs.YtdanjegnhdpnlaaGreatDoor.kit
