/- An office: which letter is whose affair (a map from pairs of numbers to functions). No condition. -/
import Derived.Test.YtdanjegnhdpnlaaGreatDoorOfE
import Derived.WideKeyRuns
namespace Go.Proofs.YtdanjegnhdpnlaaGreatDoor.kit
open Go.RowKit Go.PlainAid Go.ChangeMaps Go.MapKept
set_option linter.unusedVariables false
set_option linter.unusedSimpArgs false
def wkV (a b : Int) : Value := .agg #[.int .i64 a, .int .i64 b]
def fnV (f : FuncId) : Value := .func (.func f) #[] #[]
theorem wkFields : Tryz.prog.underlying 100 = some (.struct (Tryz.prog.fieldsOf 100)) := by kernel_rfl
theorem wkStood : Tryz.prog.stoodInHeld 100 = false := by kernel_rfl
theorem wkWide : (match Tryz.prog.underlying 100 with | some (.array _ _) | some (.struct _) => true | _ => false) = true := by rw [wkFields]
theorem len2 {α : Type} {l : List α} (h : l.length = 2) : ∃ a b, l = [a, b] := by
  rcases l with _ | ⟨a, _ | ⟨b, _ | ⟨e, l⟩⟩⟩
  all_goals first | exact ⟨_, _, rfl⟩ | (simp at h)
theorem eqWk (a b a' b' : Int) (w : World) : (Op.equal 100 (wkV a b) (wkV a' b')).run Tryz.prog w = .ok (a == a' && b == b') w := by
  show (Op.equalIn 10000 100 (.agg #[.int .i64 a, .int .i64 b]) (.agg #[.int .i64 a', .int .i64 b'])).run Tryz.prog w = _
  rw [show (10000 : Nat) = 9999 + 1 from rfl, run_equalIn_struct _ _ _ _ _ wkFields wkStood]
  have hf : (Tryz.prog.fieldsOf 100).toList.map (fun f => (f.name, f.type, f.offset)) = [("party", 3, 0), ("letter", 3, 1)] := by kernel_rfl
  generalize (Tryz.prog.fieldsOf 100).toList = l at hf
  obtain ⟨f1, f2, rfl⟩ := len2 (show l.length = 2 by have := congrArg List.length hf; simpa using this)
  simp only [List.map_cons, List.map_nil, List.cons.injEq, Prod.mk.injEq, and_true] at hf
  obtain ⟨⟨h1, h2, h3⟩, h4, h5, h6⟩ := hf
  have q : ∀ (x y : Int), (Op.equalIn 9999 3 (.int .i64 x) (.int .i64 y)).run Tryz.prog w = .ok (x == y) w := fun x y => run_equalIn_int w 9998 _ _ _ _ _ Tryz.underlying3
  have hp : ∀ (x y : Int), (part 3 #[.int .i64 x, .int .i64 y] 0).run Tryz.prog w = .ok (.int .i64 x) w ∧ (part 3 #[.int .i64 x, .int .i64 y] 1).run Tryz.prog w = .ok (.int .i64 y) w := fun x y => ⟨by kernel_rfl, by kernel_rfl⟩
  simp only [Op.eqFields, h1, h2, h3, h4, h5, h6, Sem.run_bind, Sem.run_ite, (hp _ _).1, (hp _ _).2, q, Result.andThen_ok]
  cases e1 : a == a' <;> cases e2 : b == b' <;> simp_all
theorem chkWk (a b : Int) (e : Bool) (w : World) : (Instr.checkKey e 10000 100 (wkV a b)).run Tryz.prog w = .ok () w := by kernel_rfl
abbrev Wy := Int × Int × FuncId
def findW (a b : Int) : List Wy → Option FuncId
  | [] => none
  | y :: l => if (a == y.1 && b == y.2.1) = true then some y.2.2 else findW a b l
theorem findW_app (a b : Int) : ∀ (l l' : List Wy), findW a b (l ++ l') = (findW a b l).or (findW a b l')
  | [], l' => by simp [findW]
  | y :: l, l' => by
    simp only [List.cons_append, findW]
    split
    · simp
    · exact findW_app a b l l'
/-- A map from pairs to functions. -/
def WM (W : World) (g : Nat) (f : Int → Int → Option FuncId) : Prop :=
  ∃ (es : Array MapEntry) (ck : Nat) (ys : List Wy), MapAt W g es ck ∧ es.toList.map (fun e => (e.key, e.val)) = ys.map (fun y => (wkV y.1 y.2.1, fnV y.2.2)) ∧ ∀ a b, f a b = findW a b ys
section
variable {W W' : World} {g : Nat} {f : Int → Int → Option FuncId}
theorem WM.below (h : WM W g f) (hb : Below W.heap.size W W') : WM W' g f := by
  obtain ⟨es, ck, ys, h1, h2⟩ := h
  exact ⟨es, ck, ys, h1.below hb h1.lt, h2⟩
theorem WM.lt (h : WM W g f) : g < W.heap.size := by obtain ⟨es, ck, ys, h1, h2⟩ := h; exact h1.lt
theorem WM.made (W : World) : WM (W.alloc (.map #[] 0)) W.heap.size (fun _ _ => none) := ⟨#[], 0, [], heap_alloc_new W _, rfl, fun _ _ => rfl⟩
theorem ask_run (a b : Int) (W : World) : ∀ (es : List MapEntry) (ys : List Wy) (i : Nat), es.map (fun e => (e.key, e.val)) = ys.map (fun y => (wkV y.1 y.2.1, fnV y.2.2)) →
    ∃ r, (Instr.findAsking 100 (wkV a b) es i).run Tryz.prog W = .ok r W ∧ r.map (·.2) = (findW a b ys).map fnV
  | [], ys, i, h => by
    have : ys = [] := by simpa using h.symm
    subst this
    exact ⟨none, by simp [Instr.findAsking], rfl⟩
  | e :: es, [], i, h => by simp at h
  | e :: es, y :: ys, i, h => by
    simp only [List.map_cons, List.cons.injEq, Prod.mk.injEq] at h
    obtain ⟨⟨h1, h2⟩, h3⟩ := h
    obtain ⟨r, hr, hv⟩ := ask_run a b W es ys (i + 1) h3
    cases hq : (a == y.1 && b == y.2.1)
    · refine ⟨r, ?_, ?_⟩
      · simp [Instr.findAsking, h1, eqWk, hq, hr, Result.andThen]
      · rw [hv]; simp [findW, hq]
    · refine ⟨some (i, e.val), ?_, ?_⟩
      · simp [Instr.findAsking, h1, eqWk, hq, Result.andThen]
      · simp [findW, hq, h2]
set_option maxRecDepth 100000 in
theorem WM.look (h : WM W g f) (a b : Int) : (Instr.lookup 97 (.map (some g)) (.agg #[.int .i64 a, .int .i64 b]) false).run Tryz.prog W = .ok (((f a b).map fnV).getD .nilFunc) W := by
  obtain ⟨es, ck, ys, h1, h2, h3⟩ := h
  obtain ⟨r, hr, hv⟩ := ask_run a b W es.toList ys 0 h2
  have hz : ∀ u, (zeroValue 96).run Tryz.prog u = .ok .nilFunc u := fun u => by kernel_rfl
  have hc := chkWk a b es.isEmpty W
  have hfk := run_findKey_eq (P := Tryz.prog) (k := 100) W wkWide (wkV a b) es.toList
  rw [hr] at hfk
  rw [h3]
  change (Instr.lookup _ _ (wkV a b) false).run Tryz.prog W = _
  cases r with
  | none =>
    have : (findW a b ys).map fnV = none := by rw [← hv]; rfl
    rw [this]
    simp [Instr.lookup, run_underlying Tryz.underlying97, MapKept.run_getObj_map h1, hc, hfk, hz, Result.andThen]
  | some r =>
    have : (findW a b ys).map fnV = some r.2 := by rw [← hv]; rfl
    rw [this]
    simp [Instr.lookup, run_underlying Tryz.underlying97, MapKept.run_getObj_map h1, hc, hfk, Result.andThen]
set_option maxRecDepth 100000 in
theorem WM.put (h : WM W g f) (a b : Int) (k : FuncId) (hn : f a b = none) : ∃ W', (Instr.mapUpdate 97 (.map (some g)) (.agg #[.int .i64 a, .int .i64 b]) (fnV k)).run Tryz.prog W = .ok () W' ∧ WM W' g (fun a' b' => if a' = a ∧ b' = b then some k else f a' b') ∧ W.grownBy W' (some g) := by
  obtain ⟨es, ck, ys, h1, h2, h3⟩ := h
  obtain ⟨r, hr, hv⟩ := ask_run a b W es.toList ys 0 h2
  have hc := chkWk a b false W
  have hfk := run_findKey_eq (P := Tryz.prog) (k := 100) W wkWide (wkV a b) es.toList
  rw [hr] at hfk
  rw [h3] at hn
  rw [hn] at hv
  have hr0 : r = none := by cases r with | none => rfl | some x => cases hv
  subst hr0
  refine ⟨{ W with heap := W.heap.setIfInBounds g (.map (es.push { key := wkV a b, val := fnV k, born := ck }) (ck + 1)) }, ?_, ⟨_, _, ys ++ [(a, b, k)], (heap_set h1).1, by simp [h2], fun a' b' => ?_⟩, grown_set h1 _⟩
  · change (Instr.mapUpdate _ _ (wkV a b) (fnV k)).run Tryz.prog W = _
    simp [Instr.mapUpdate, run_underlying Tryz.underlying97, MapKept.run_getObj_map h1, hc, hfk, MapKept.run_setObj_map _ h1, Result.andThen]
  · dsimp only
    rw [findW_app]
    by_cases e : a' = a ∧ b' = b
    · obtain ⟨rfl, rfl⟩ := e
      rw [if_pos ⟨rfl, rfl⟩, hn]
      simp [findW]
    · rw [if_neg e, h3]
      have : findW a' b' [(a, b, k)] = none := by
        simp only [findW]
        rw [if_neg (by simp; intro h1 h2; exact e ⟨h1, h2⟩)]
      rw [this]
      cases findW a' b' ys <;> rfl
end
/-- Who does what. -/
def fOf (d e c : Bool) : Int → Int → Option FuncId := fun a b =>
  if c = true ∧ a = 4 ∧ b = 6 then some 46 else if e = true ∧ a = 3 ∧ b = 18 then some 45 else if d = true ∧ a = 3 ∧ b = 15 then some 44 else none
structure LeX (B : Nat) (d0 d2 d4 d6 d7 d8 : Bool) (v0 v7 v8 : Value) (W : World) : Prop where
  m : d0 = true → ∃ g, v0 = .map (some g) ∧ B ≤ g ∧ WM W g (fOf d2 d4 d6)
  o2 : d2 = true → d0 = true
  o4 : d4 = true → d0 = true
  o6 : d6 = true → d0 = true
  e7 : d7 = true → d0 = true ∧ v7 = v0
  e8 : d8 = true → d7 = true ∧ v8 = v7
theorem LeX.on {B : Nat} {d0 d2 d4 d6 d7 d8 : Bool} {v0 v7 v8 : Value} {W W' : World} (h : LeX B d0 d2 d4 d6 d7 d8 v0 v7 v8 W) (hb : Below W.heap.size W W') : LeX B d0 d2 d4 d6 d7 d8 v0 v7 v8 W' :=
  ⟨fun q => (h.m q).elim fun g x => ⟨g, x.1, x.2.1, x.2.2.below hb⟩, h.o2, h.o4, h.o6, h.e7, h.e8⟩
theorem LeX.start {B : Nat} {v0 v7 v8 : Value} {W : World} : LeX B false false false false false false v0 v7 v8 W :=
  ⟨fun h => (by cases h), fun h => (by cases h), fun h => (by cases h), fun h => (by cases h), fun h => (by cases h), fun h => (by cases h)⟩
theorem WM.ext {W : World} {g : Nat} {f f' : Int → Int → Option FuncId} (h : WM W g f) (he : ∀ a b, f' a b = f a b) : WM W g f' := by
  obtain ⟨es, ck, ys, h1, h2, h3⟩ := h
  exact ⟨es, ck, ys, h1, h2, fun a b => by rw [he]; exact h3 a b⟩
theorem LeX.put {B : Nat} {d0 d2 d4 d6 d7 d8 e2 e4 e6 : Bool} {v0 v7 v8 : Value} {W : World} (h : LeX B d0 d2 d4 d6 d7 d8 v0 v7 v8 W) (hd : d0 = true) (a b : Int) (k : FuncId) (hn : fOf d2 d4 d6 a b = none)
    (he : ∀ a' b', fOf e2 e4 e6 a' b' = if a' = a ∧ b' = b then some k else fOf d2 d4 d6 a' b') : ∃ g W', v0 = .map (some g) ∧ B ≤ g ∧
    (Instr.mapUpdate 97 (.map (some g)) (.agg #[.int .i64 a, .int .i64 b]) (fnV k)).run Tryz.prog W = .ok () W' ∧ LeX B d0 e2 e4 e6 d7 d8 v0 v7 v8 W' ∧ W.grownBy W' (some g) := by
  obtain ⟨g, h1, h2, h3⟩ := h.m hd
  obtain ⟨W', q1, q2, q3⟩ := h3.put a b k hn
  exact ⟨g, W', h1, h2, q1, ⟨fun _ => ⟨g, h1, h2, q2.ext he⟩, fun _ => hd, fun _ => hd, fun _ => hd, h.e7, h.e8⟩, q3⟩
theorem wbuild (w : World) (a b : Int) : (Instr.build 100 #[(0, .int .i64 a), (1, .int .i64 b)]).run Tryz.prog w = .ok (.agg #[.int .i64 a, .int .i64 b]) w := run_build w _ _ _ (by kernel_rfl)
theorem wmake (w : World) : (Instr.makeMap 97 none).run Tryz.prog w = .ok (.map (some w.heap.size)) (w.alloc (.map #[] 0)) := by kernel_rfl
theorem wp_ins {P : Program} {w w' : World} {o : Oper} {a : Act} {K : Act → World → Prop} {Q : Exit → Act → World → Prop} (m x y : Operand) (t : TypeId) (hop : o.op = .insert t m x y) (M X Y : Value) (hm : a.eval m = M) (hx : a.eval x = X) (hy : a.eval y = Y) (h : (Instr.mapUpdate t M X Y).run P w = .ok () w') (hk : K (a.put o.dst undef) w') : o.wp P a w K Q :=
  wp_skip (by simp [execOp, hop, hm, hx, hy, h, Result.andThen]) hk
set_option maxRecDepth 100000 in
set_option maxHeartbeats 6400000 in
theorem letters_any (w : World) : Calls Tryz.prog 30 #[] w fun e w' => ∃ g, e = .returned (.map (some g)) ∧ w.heap.size ≤ g ∧ WM w' g (fOf true true true) ∧ Below w.heap.size w w' := by
  go_enter Tryz.func30, Tryz.ntmps30
  go_upto_region 1 with (fail)
  refine wp_region_softX [AnyV, Is (.agg #[.int .i64 3, .int .i64 15]), AnyV, Is (.agg #[.int .i64 3, .int .i64 18]), AnyV, Is (.agg #[.int .i64 4, .int .i64 6]), AnyV, AnyV, AnyV] ⟨stab_anyv, stab_is _, stab_anyv, stab_is _, stab_anyv, stab_is _, stab_anyv, stab_anyv, stab_anyv, trivial⟩ (fun k => w.heap.size ≤ k) ⟨stabf_anyv _, stabf_is _ _, stabf_anyv _, stabf_is _ _, stabf_anyv _, stabf_is _ _, stabf_anyv _, stabf_anyv _, stabf_anyv _, trivial⟩ [true, false, true, false, true, false, true, true, true] (fun done vs W => LeX w.heap.size (done 0) (done 2) (done 4) (done 6) (done 7) (done 8) (vs 0) (vs 7) (vs 8) W) ?_ ?_ (by kernel_rfl) (by kernel_rfl) ?_ ?_
  · intro q_ hq_ done vs v_ W W' h hnd hb
    have n0 : upDn done q_ 0 = done 0 := up_ne done (fun e => by subst e; exact absurd hq_ (by decide))
    have n2 : upDn done q_ 2 = done 2 := up_ne done (fun e => by subst e; exact absurd hq_ (by decide))
    have n4 : upDn done q_ 4 = done 4 := up_ne done (fun e => by subst e; exact absurd hq_ (by decide))
    have n6 : upDn done q_ 6 = done 6 := up_ne done (fun e => by subst e; exact absurd hq_ (by decide))
    have n7 : upDn done q_ 7 = done 7 := up_ne done (fun e => by subst e; exact absurd hq_ (by decide))
    have n8 : upDn done q_ 8 = done 8 := up_ne done (fun e => by subst e; exact absurd hq_ (by decide))
    have m0 : upVs vs q_ v_ 0 = vs 0 := upv_ne vs v_ (fun e => by subst e; exact absurd hq_ (by decide))
    have m7 : upVs vs q_ v_ 7 = vs 7 := upv_ne vs v_ (fun e => by subst e; exact absurd hq_ (by decide))
    have m8 : upVs vs q_ v_ 8 = vs 8 := upv_ne vs v_ (fun e => by subst e; exact absurd hq_ (by decide))
    rw [n0, n2, n4, n6, n7, n8, m0, m7, m8]
    exact h.on hb
  · exact LeX.start
  · refine ⟨?_, ?_, ?_, ?_, ?_, ?_, ?_, ?_, ?_, trivial⟩
    all_goals intro done vs ac W1 hdep hnd hB hR hX hE
    all_goals try simp only [Nat.zero_add, Nat.reduceAdd] at hnd ⊢
    all_goals have ec : ∀ v : Value, ac.eval (.const v) = v := fun _ => rfl
    all_goals try simp [Region.binds] at hdep
    · have f2 : done 2 = false := not_of hX.o2 hnd
      have f4 : done 4 = false := not_of hX.o4 hnd
      have f6 : done 6 = false := not_of hX.o6 hnd
      have f7 : done 7 = false := not_of (fun h => (hX.e7 h).1) hnd
      have f8 : done 8 = false := not_of (fun h => (hX.e8 h).1) f7
      refine wp_val (w' := W1.alloc (.map #[] 0)) (.map (some W1.heap.size)) (by simp [execOp, wmake, Result.andThen]) ⟨_, rfl, (Fr.refl _ _).alloc _, ?_, trivial⟩
      obtain ⟨v', hv'⟩ : ∃ v', Value.map (some W1.heap.size) = v' := ⟨_, rfl⟩
      rw [hv']
      have n2 : upDn done 0 2 = done 2 := up_ne done (by decide)
      have n4 : upDn done 0 4 = done 4 := up_ne done (by decide)
      have n6 : upDn done 0 6 = done 6 := up_ne done (by decide)
      have n7 : upDn done 0 7 = done 7 := up_ne done (by decide)
      have n8 : upDn done 0 8 = done 8 := up_ne done (by decide)
      have m7 : upVs vs 0 v' 7 = vs 7 := upv_ne vs _ (by decide)
      have m8 : upVs vs 0 v' 8 = vs 8 := upv_ne vs _ (by decide)
      rw [up_same, n2, n4, n6, n7, n8, m7, m8, upv_same, f2, f4, f6, f7, f8]
      exact ⟨fun _ => ⟨_, hv'.symm, hB.size, WM.made W1⟩, fun h => (by cases h), fun h => (by cases h), fun h => (by cases h), fun h => (by cases h), fun h => (by cases h)⟩
    · exact soft_value (.agg #[.int .i64 3, .int .i64 15]) (by simp [execOp, ec, wbuild, Result.andThen]) rfl
    · have d0 : vs 0 = vs 0 := rfl
      have e1 : ac.eval (.tmp 1) = (vs 0) := (hE 1 (by simp)).trans (by simp [evF, hdep, d0])
      have d1 : vs 1 = .agg #[.int .i64 3, .int .i64 15] := hR 1 (by simp [hdep])
      have e2 : ac.eval (.tmp 2) = .agg #[.int .i64 3, .int .i64 15] := (hE 2 (by simp)).trans (by simp [evF, hdep, d1])
      have hd0 : done 0 = true := by simp [hdep]
      obtain ⟨g, W2, q1, q2, q3, q4, q5⟩ := hX.put (e2 := true) (e4 := done 4) (e6 := done 6) hd0 3 15 44 (by rw [hnd]; simp [fOf]) (by intro a' b'; rw [hnd]; simp only [fOf]; (repeat' split) <;> simp_all <;> omega)
      rw [q1] at e1
      refine wp_ins (.tmp 1) (.tmp 2) _ 97 rfl _ _ _ e1 e2 rfl q3 ⟨_, rfl, (Fr.refl _ _).grown q5 (fun k hk => by injection hk with hk; exact .inl (hk ▸ q2)), ?_, trivial⟩
      have n0 : upDn done 2 0 = done 0 := up_ne done (by decide)
      have n4 : upDn done 2 4 = done 4 := up_ne done (by decide)
      have n6 : upDn done 2 6 = done 6 := up_ne done (by decide)
      have n7 : upDn done 2 7 = done 7 := up_ne done (by decide)
      have n8 : upDn done 2 8 = done 8 := up_ne done (by decide)
      have m0 : upVs vs 2 undef 0 = vs 0 := upv_ne vs _ (by decide)
      have m7 : upVs vs 2 undef 7 = vs 7 := upv_ne vs _ (by decide)
      have m8 : upVs vs 2 undef 8 = vs 8 := upv_ne vs _ (by decide)
      rw [up_same, n0, n4, n6, n7, n8, m0, m7, m8]
      exact q4
    · exact soft_value (.agg #[.int .i64 3, .int .i64 18]) (by simp [execOp, ec, wbuild, Result.andThen]) rfl
    · have d0 : vs 0 = vs 0 := rfl
      have e1 : ac.eval (.tmp 1) = (vs 0) := (hE 1 (by simp)).trans (by simp [evF, hdep, d0])
      have d3 : vs 3 = .agg #[.int .i64 3, .int .i64 18] := hR 3 (by simp [hdep])
      have e3 : ac.eval (.tmp 3) = .agg #[.int .i64 3, .int .i64 18] := (hE 3 (by simp)).trans (by simp [evF, hdep, d3])
      have hd0 : done 0 = true := by simp [hdep]
      obtain ⟨g, W2, q1, q2, q3, q4, q5⟩ := hX.put (e2 := done 2) (e4 := true) (e6 := done 6) hd0 3 18 45 (by rw [hnd]; simp [fOf]) (by intro a' b'; rw [hnd]; simp only [fOf]; (repeat' split) <;> simp_all <;> omega)
      rw [q1] at e1
      refine wp_ins (.tmp 1) (.tmp 3) _ 97 rfl _ _ _ e1 e3 rfl q3 ⟨_, rfl, (Fr.refl _ _).grown q5 (fun k hk => by injection hk with hk; exact .inl (hk ▸ q2)), ?_, trivial⟩
      have n0 : upDn done 4 0 = done 0 := up_ne done (by decide)
      have n2 : upDn done 4 2 = done 2 := up_ne done (by decide)
      have n6 : upDn done 4 6 = done 6 := up_ne done (by decide)
      have n7 : upDn done 4 7 = done 7 := up_ne done (by decide)
      have n8 : upDn done 4 8 = done 8 := up_ne done (by decide)
      have m0 : upVs vs 4 undef 0 = vs 0 := upv_ne vs _ (by decide)
      have m7 : upVs vs 4 undef 7 = vs 7 := upv_ne vs _ (by decide)
      have m8 : upVs vs 4 undef 8 = vs 8 := upv_ne vs _ (by decide)
      rw [up_same, n0, n2, n6, n7, n8, m0, m7, m8]
      exact q4
    · exact soft_value (.agg #[.int .i64 4, .int .i64 6]) (by simp [execOp, ec, wbuild, Result.andThen]) rfl
    · have d0 : vs 0 = vs 0 := rfl
      have e1 : ac.eval (.tmp 1) = (vs 0) := (hE 1 (by simp)).trans (by simp [evF, hdep, d0])
      have d5 : vs 5 = .agg #[.int .i64 4, .int .i64 6] := hR 5 (by simp [hdep])
      have e4 : ac.eval (.tmp 4) = .agg #[.int .i64 4, .int .i64 6] := (hE 4 (by simp)).trans (by simp [evF, hdep, d5])
      have hd0 : done 0 = true := by simp [hdep]
      obtain ⟨g, W2, q1, q2, q3, q4, q5⟩ := hX.put (e2 := done 2) (e4 := done 4) (e6 := true) hd0 4 6 46 (by rw [hnd]; simp [fOf]) (by intro a' b'; rw [hnd]; simp only [fOf]; (repeat' split) <;> simp_all <;> omega)
      rw [q1] at e1
      refine wp_ins (.tmp 1) (.tmp 4) _ 97 rfl _ _ _ e1 e4 rfl q3 ⟨_, rfl, (Fr.refl _ _).grown q5 (fun k hk => by injection hk with hk; exact .inl (hk ▸ q2)), ?_, trivial⟩
      have n0 : upDn done 6 0 = done 0 := up_ne done (by decide)
      have n2 : upDn done 6 2 = done 2 := up_ne done (by decide)
      have n4 : upDn done 6 4 = done 4 := up_ne done (by decide)
      have n7 : upDn done 6 7 = done 7 := up_ne done (by decide)
      have n8 : upDn done 6 8 = done 8 := up_ne done (by decide)
      have m0 : upVs vs 6 undef 0 = vs 0 := upv_ne vs _ (by decide)
      have m7 : upVs vs 6 undef 7 = vs 7 := upv_ne vs _ (by decide)
      have m8 : upVs vs 6 undef 8 = vs 8 := upv_ne vs _ (by decide)
      rw [up_same, n0, n2, n4, n7, n8, m0, m7, m8]
      exact q4
    · have d0 : vs 0 = vs 0 := rfl
      have e1 : ac.eval (.tmp 1) = (vs 0) := (hE 1 (by simp)).trans (by simp [evF, hdep, d0])
      have f8 : done 8 = false := not_of (fun h => (hX.e8 h).1) hnd
      have hd0 : done 0 = true := by simp [hdep]
      refine wp_value (vs 0) (by unfold execOp; simp only [e1]; rfl) ⟨_, rfl, Fr.refl _ _, ?_, trivial⟩
      have n0 : upDn done 7 0 = done 0 := up_ne done (by decide)
      have n2 : upDn done 7 2 = done 2 := up_ne done (by decide)
      have n4 : upDn done 7 4 = done 4 := up_ne done (by decide)
      have n6 : upDn done 7 6 = done 6 := up_ne done (by decide)
      have n8 : upDn done 7 8 = done 8 := up_ne done (by decide)
      have m0 : upVs vs 7 (vs 0) 0 = vs 0 := upv_ne vs _ (by decide)
      have m8 : upVs vs 7 (vs 0) 8 = vs 8 := upv_ne vs _ (by decide)
      rw [up_same, n0, n2, n4, n6, n8, m0, m8, upv_same, f8]
      exact ⟨hX.m, hX.o2, hX.o4, hX.o6, fun _ => ⟨hd0, rfl⟩, fun h => (by cases h)⟩
    · have d7 : vs 7 = vs 7 := rfl
      have e5 : ac.eval (.tmp 5) = (vs 7) := (hE 5 (by simp)).trans (by simp [evF, hdep, d7])
      have hd7 : done 7 = true := by simp [hdep]
      refine wp_value (vs 7) (by unfold execOp; simp only [e5]; rfl) ⟨_, rfl, Fr.refl _ _, ?_, trivial⟩
      have n0 : upDn done 8 0 = done 0 := up_ne done (by decide)
      have n2 : upDn done 8 2 = done 2 := up_ne done (by decide)
      have n4 : upDn done 8 4 = done 4 := up_ne done (by decide)
      have n6 : upDn done 8 6 = done 6 := up_ne done (by decide)
      have n7 : upDn done 8 7 = done 7 := up_ne done (by decide)
      have m0 : upVs vs 8 (vs 7) 0 = vs 0 := upv_ne vs _ (by decide)
      have m7 : upVs vs 8 (vs 7) 7 = vs 7 := upv_ne vs _ (by decide)
      rw [up_same, n0, n2, n4, n6, n7, m0, m7, upv_same]
      exact ⟨hX.m, hX.o2, hX.o4, hX.o6, hX.e7, fun _ => ⟨hd7, rfl⟩⟩
  · intro done vs W hall hB hR hX
    rw [hall 0 (by simp), hall 2 (by simp), hall 4 (by simp), hall 6 (by simp), hall 7 (by simp), hall 8 (by simp)] at hX
    obtain ⟨g, hb0, hb1, hb2⟩ := hX.m rfl
    have r8 : vs 8 = .map (some g) := by rw [(hX.e8 rfl).2, (hX.e7 rfl).2, hb0]
    have HB : Hid (Below w.heap.size w W) := Lib.hid (hB.bel (Below.refl _ _) (fun k hk => hk) (Nat.le_refl _))
    have HM := Lib.hid hb2
    clear hR hX hB hall hb2
    simp only [fillA, Act.put, List.setIfInBounds_toArray, List.set_cons_zero, List.set_cons_succ, if_true, r8]
    go_wp2_with fail
    go_ret
    exact ⟨g, rfl, hb1, HM.out, HB.out⟩
end Go.Proofs.YtdanjegnhdpnlaaGreatDoor.kit
