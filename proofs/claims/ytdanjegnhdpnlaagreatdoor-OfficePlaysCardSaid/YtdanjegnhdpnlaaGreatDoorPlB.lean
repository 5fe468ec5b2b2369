/- The document's office: its states, a new one, one with a part another; its two letters; what is due. No condition. -/
import Derived.Test.YtdanjegnhdpnlaaGreatDoorPlA
import Derived.Test.YtdanjegnhdpnlaaGreatDoorMyT1
import Derived.Test.YtdanjegnhdpnlaaGreatDoorOfE
import Derived.Laws.OwnMore
namespace Go.Proofs.YtdanjegnhdpnlaaGreatDoor.kit
open Go.RowKit Go.PlainAid
set_option linter.unusedVariables false
set_option linter.unusedSimpArgs false
def inC (z : Int) : List Value := [.int .i64 z]
theorem in_len (z : Int) : (inC z).length = 1 := rfl
theorem in_one (xs : List Int) : ∀ u ∈ xs.flatMap inC, u.oneCell' = true := by
  intro u hu
  obtain ⟨z, _, hz⟩ := List.mem_flatMap.1 hu
  simp [inC] at hz
  subst hz
  rfl
theorem in_at (xs : List Int) (i : Nat) : (xs.flatMap inC)[i]? = (xs[i]?).map (fun z => Value.int .i64 z) := by
  have e : xs.flatMap inC = xs.map (fun z => Value.int .i64 z) := by
    induction xs with
    | nil => rfl
    | cons x l ih => rw [List.flatMap_cons, ih]; rfl
  rw [e, List.getElem?_map]
theorem in_set (xs : List Int) (i : Nat) (z : Int) : (xs.flatMap inC).set i (.int .i64 z) = (xs.set i z).flatMap inC := by
  have e : ∀ l : List Int, l.flatMap inC = l.map (fun z => Value.int .i64 z) := by
    intro l
    induction l with
    | nil => rfl
    | cons x l ih => rw [List.flatMap_cons, ih]; rfl
  rw [e, e, List.map_set]
theorem infoI : (Tryz.prog.info? 3).map (fun i => (i.zero, i.size, i.bytes)) = some (some (.int .i64 0), 1, 8) := by kernel_rfl
theorem infoL : (Tryz.prog.info? 2).map (fun i => (i.zero, i.size, i.bytes)) = some (some (.int .i64 0), 1, 8) := by kernel_rfl
/-- A state that reads as two lists. -/
def StV (of pa : List Int) : Value → World → Prop := fun v W => ∃ A c B d, v = .agg #[.slice A of.length c, .slice B pa.length d] ∧ SliceOf W 1 inC A of.length of ∧ SliceOf W 1 inC B pa.length pa
theorem stab_stv (of pa : List Int) : Stab (StV of pa) := fun _ _ _ ⟨A, c, B, d, h1, h2, h3⟩ hb => ⟨A, c, B, d, h1, h2.below hb, h3.below hb⟩
/-- The same, its rows high. -/
def StHi (lo : Nat) (of pa : List Int) : Value → World → Prop := fun v W => ∃ A c B d, v = .agg #[.slice A of.length c, .slice B pa.length d] ∧ SliceOf W 1 inC A of.length of ∧ SliceOf W 1 inC B pa.length pa ∧ (∀ x off, A = some ⟨x, off, none⟩ → lo ≤ x) ∧ ∀ x off, B = some ⟨x, off, none⟩ → lo ≤ x
theorem stab_sthi (lo : Nat) (of pa : List Int) : Stab (StHi lo of pa) := fun _ _ _ ⟨A, c, B, d, h1, h2, h3, h4⟩ hb => ⟨A, c, B, d, h1, h2.below hb, h3.below hb, h4⟩
theorem stabf_sthi {S : Nat → Prop} {lo : Nat} (hs : ∀ k, S k → k < lo) (of pa : List Int) : StabF S (StHi lo of pa) := fun _ _ _ ⟨A, c, B, d, h1, h2, h3, h4, h5⟩ hf =>
  ⟨A, c, B, d, h1, h2.fr hf (fun b off e q => by have := h4 b off e; have := hs b q; omega), h3.fr hf (fun b off e q => by have := h5 b off e; have := hs b q; omega), h4, h5⟩
theorem StHi.lower {lo lo' : Nat} {of pa : List Int} {v : Value} {W : World} (h : StHi lo of pa v W) (hl : lo' ≤ lo) : StHi lo' of pa v W := by
  obtain ⟨A, c, B, d, h1, h2, h3, h4, h5⟩ := h
  exact ⟨A, c, B, d, h1, h2, h3, fun x o e => Nat.le_trans hl (h4 x o e), fun x o e => Nat.le_trans hl (h5 x o e)⟩
theorem StHi.st {lo : Nat} {of pa : List Int} {v : Value} {W : World} (h : StHi lo of pa v W) : StV of pa v W := by
  obtain ⟨A, c, B, d, h1, h2, h3, _⟩ := h
  exact ⟨A, c, B, d, h1, h2, h3⟩
/-- A row of one's own. -/
def OwnR (B : Nat) (e : TypeId) (n : Nat) (xs : List Value) : Value → World → Prop := fun v W => ∃ A c, v = .slice A n c ∧ W.ownsRow B e 1 v n xs
def EmpR (B : Nat) (e : TypeId) : Value → World → Prop := fun v W => ∃ g, v = .slice (some ⟨g, 0, none⟩) 0 0 ∧ W.ownsRow B e 1 v 0 []
theorem own_on {W W' : World} {B n : Nat} {e : TypeId} {v : Value} {xs : List Value} (h : W.ownsRow B e 1 v n xs) (hb : Below W.heap.size W W') : W'.ownsRow B e 1 v n xs :=
  h.kept (row := none) ⟨hb.os, hb.tape, hb.output, hb.size, fun k hk _ => hb.block k hk⟩ (by cases v.ownBlock <;> simp)
theorem stab_ownr (B : Nat) (e : TypeId) (n : Nat) (xs : List Value) : Stab (OwnR B e n xs) := fun _ _ _ ⟨A, c, h1, h2⟩ hb => ⟨A, c, h1, own_on h2 hb⟩
theorem stab_empr (B : Nat) (e : TypeId) : Stab (EmpR B e) := fun _ _ _ ⟨g, h1, h2⟩ hb => ⟨g, h1, own_on h2 hb⟩
theorem own_form {W : World} {B n : Nat} {e : TypeId} {v : Value} {xs : List Value} (h : W.ownsRow B e 1 v n xs) : ∃ A c, v = .slice A n c := by
  rcases h.2 with ⟨hv, h0⟩ | ⟨g, cap, cur, hv, _⟩
  · exact ⟨none, 0, by rw [hv, h0]⟩
  · exact ⟨_, _, hv⟩
theorem emp_int (w : World) : (Instr.buildSlice 25 0 #[]).run Tryz.prog w = .ok (.slice (some ⟨w.heap.size, 0, none⟩) 0 0) (w.alloc (.cells #[] 3)) := by kernel_rfl
theorem emp_int64 (w : World) : (Instr.buildSlice 35 0 #[]).run Tryz.prog w = .ok (.slice (some ⟨w.heap.size, 0, none⟩) 0 0) (w.alloc (.cells #[] 2)) := by kernel_rfl
/-- Onto an empty row: new memory alone. -/
theorem run_append_zero {P : Program} (W : World) (B : Nat) (t ty e : TypeId) (i : TypeInfo) (z : Value) (bytes : Nat) (ht : P.underlying t = some (.slice e)) (hi : P.info? e = some i) (hz : i.zero = some z) (hsize : i.size = 1) (hby : i.bytes = bytes) (hzs : z.cells.size = 1)
    (g : Nat) (hown : W.ownsRow B e 1 (.slice (some ⟨g, 0, none⟩) 0 0) 0 []) (BB : Nat) (A : Option Addr) (m c : Nat) (news : List Value) (hr : Reads W BB 1 A m news) (h1 : ∀ u ∈ news, u.oneCell' = true) (hp : 0 < m) (hm : m * bytes ≤ 140737488355328) (hm2 : m ≤ maxLen) (hB : B ≤ W.heap.size) :
    ∃ v' W', (Builtin.append_ #[t, t] ty #[.slice (some ⟨g, 0, none⟩) 0 0, .slice A m c]).run P W = .ok v' W' ∧ W'.ownsRow B e 1 v' m news ∧ Below W.heap.size W W' := by
  obtain ⟨v', W', hrun, h2, h3, h4⟩ := run_append_any (P := P) W B t ty e i z 1 bytes ht hi hz hsize hby hzs (by omega) _ 0 [] hown BB A m c news hr h1 (by omega) (by simpa using hm) hB
  rw [Nat.zero_add, List.nil_append] at h2
  refine ⟨v', W', hrun, h2, ?_⟩
  obtain ⟨ad, rfl, hb, hc⟩ := hr.2 hp
  have hg := run_append_grow (P := P) (w := W) t ty e i z ht hi hz ⟨g, 0, none⟩ 0 0 [] (by simp) (by simp) ad m c news (by rw [hr.1, hsize]) hc (by omega) (by unfold maxLen at hm2; omega) (growslice_fits (by omega) (by rw [Nat.zero_add, hby]; exact hm))
  rw [hrun] at hg
  injection hg with _ hw
  rw [hw]
  exact ⟨rfl, rfl, rfl, by simp, fun j hj => Below.heap_alloc W.drew _ j hj⟩
theorem soft_append0 {P : Program} {R : List (Value → World → Prop)} {o : Oper} {a : Act} {w : World} {k : Nat} {Q : Exit → Act → World → Prop} (s x : Operand) (t : TypeId) (ho : o.op = .call { callee := .builtin .append, args := #[s, x], argTypes := #[t, t] })
    (B : Nat) (e : TypeId) (i : TypeInfo) (z : Value) (bytes : Nat) (ht : P.underlying t = some (.slice e)) (hi : P.info? e = some i) (hz : i.zero = some z) (hsize : i.size = 1) (hby : i.bytes = bytes) (hzs : z.cells.size = 1)
    (g : Nat) (hs : a.eval s = .slice (some ⟨g, 0, none⟩) 0 0) (hown : w.ownsRow B e 1 (.slice (some ⟨g, 0, none⟩) 0 0) 0 []) (BB : Nat) (A : Option Addr) (m c : Nat) (news : List Value) (hx : a.eval x = .slice A m c) (hr : Reads w BB 1 A m news) (h1 : ∀ u ∈ news, u.oneCell' = true) (hp : 0 < m) (hm : m * bytes ≤ 140737488355328) (hm2 : m ≤ maxLen) (hB : B ≤ w.heap.size)
    (hk : ∀ v' w', w'.ownsRow B e 1 v' m news → nthR R k v' w') : o.wp P a w (fun a' w' => ∃ v, a' = a.put o.dst v ∧ Below w.heap.size w w' ∧ nthR R k v w') Q := by
  obtain ⟨v', w', hrun, h2, h3⟩ := run_append_zero (P := P) w B t o.type e i z bytes ht hi hz hsize hby hzs g hown BB A m c news hr h1 hp hm hm2 hB
  unfold Oper.wp execOp
  simp only [ho, resolve, invoke, builtin, Sem.run_bind, Sem.run_pure, Result.andThen_ok, List.map_toArray, List.map_cons, List.map_nil, hs, hx, hrun]
  exact ⟨_, rfl, h3, hk _ _ h2⟩
theorem st_build (w : World) (A B : Option Addr) (n c m d : Nat) : (Instr.build 37 #[(0, .slice A n c), (1, .slice B m d)]).run Tryz.prog w = .ok (.agg #[.slice A n c, .slice B m d]) w := run_build w _ _ _ (by kernel_rfl)
theorem st_build0 (w : World) : (Instr.build 37 #[]).run Tryz.prog w = .ok (.agg #[.slice none 0 0, .slice none 0 0]) w := run_build w _ _ _ (by kernel_rfl)
set_option maxRecDepth 100000
set_option maxHeartbeats 6400000
theorem rset_any (A B : Option Addr) (n c d : Nat) (of pa : List Int) (i : Nat) (s p : Int) (w : World) (hA : SliceOf w 1 inC A n of) (hB : SliceOf w 1 inC B n pa) (hn : n ≤ 100) (hi : i < n) :
    Calls Tryz.prog 33 #[.agg #[.slice A n c, .slice B n d], .int .i64 i, .int .i64 s, .int .i64 p] w fun e w' => ∃ v, e = .returned v ∧ Below w.heap.size w w' ∧ StHi w.heap.size (of.set i s) (pa.set i p) v w' := by
  have HB0 : Hid (Below w.heap.size w ((w.alloc (.cells #[.slice A n c, .slice B n d] 37)).alloc (.cells #[.slice none 0 0, .slice none 0 0] 37))) := Lib.hid (two_alloc w _ _)
  have HA := Lib.hid (hA.below HB0.out)
  have HP := Lib.hid (hB.below HB0.out)
  have HK0 : Hid (Blk ((w.alloc (.cells #[.slice A n c, .slice B n d] 37)).alloc (.cells #[.slice none 0 0, .slice none 0 0] 37)) w.heap.size 37 #[.slice A n c, .slice B n d]) := Lib.hid ((Blk.new _ _ _).alloc _)
  have HR0 : Hid (Blk ((w.alloc (.cells #[.slice A n c, .slice B n d] 37)).alloc (.cells #[.slice none 0 0, .slice none 0 0] 37)) (w.heap.size + 1) 37 #[.slice none 0 0, .slice none 0 0]) := Lib.hid (blk_second _ _ _ _)
  have HLA := Lib.hid hA.len
  have HLP := Lib.hid hB.len
  have HG : Hid (w.heap.size + 1 < (((w.alloc (.cells #[.slice A n c, .slice B n d] 37)).alloc (.cells #[.slice none 0 0, .slice none 0 0] 37))).heap.size) := Lib.hid (by simp)
  obtain ⟨i1, hi1, hz0, hz1, hz2⟩ := info_parts infoI
  obtain ⟨i2, hi2, hy0, hy1, hy2⟩ := info_parts infoL
  clear hA hB
  go_enter Tryz.func33, Tryz.ntmps33
  go_upto_region 1 with (fail)
  obtain ⟨w1, hw1⟩ : ∃ W, ((w.alloc (.cells #[.slice A n c, .slice B n d] 37)).alloc (.cells #[.slice none 0 0, .slice none 0 0] 37)) = W := ⟨_, rfl⟩
  obtain ⟨g, hg⟩ : ∃ g, w.heap.size = g := ⟨_, rfl⟩
  have HGE := Lib.hid hg
  rw [hw1] at HB0 HA HP HK0 HR0 HG ⊢
  rw [hg] at HK0 HR0 HG
  simp only [hg]
  clear hw1 hg
  refine wp_region_soft [EmpR w1.heap.size 3, Is (.pointer (some ⟨g, 0, none⟩)), Is (.slice A n c), OwnR w1.heap.size 3 n (of.flatMap inC), EmpR w1.heap.size 2, Is (.pointer (some ⟨g, 1, none⟩)), Is (.slice B n d), OwnR w1.heap.size 2 n (pa.flatMap inC), OwnR w1.heap.size 3 n (of.flatMap inC), OwnR w1.heap.size 2 n (pa.flatMap inC)] ⟨stab_empr _ _, stab_is _, stab_is _, stab_ownr _ _ _ _, stab_empr _ _, stab_is _, stab_is _, stab_ownr _ _ _ _, stab_ownr _ _ _ _, stab_ownr _ _ _ _, trivial⟩ (by kernel_rfl) (by kernel_rfl) ?_ ?_
  · refine ⟨?_, ?_, ?_, ?_, ?_, ?_, ?_, ?_, ?_, ?_, trivial⟩
    all_goals intro done vs ac W1 hdep hB hR hE
    all_goals have ec : ∀ v : Value, ac.eval (.const v) = v := fun _ => rfl
    all_goals try simp [Region.binds] at hdep
    · refine soft_build 25 3 0 _ rfl #[] (by simp) #[] (emp_int W1) ⟨_, rfl, own_empty (Blk.new _ _ _) hB.size⟩
    · have e4 : ac.eval (.tmp 4) = .pointer (some ⟨g, 0, none⟩) := (hE 4 (by simp)).trans (by simp [evF, Act.eval])
      exact soft_value (.pointer (some ⟨g, 0, none⟩)) (by unfold execOp; simp only [e4]; kernel_rfl) rfl
    · have d1 : vs 1 = .pointer (some ⟨g, 0, none⟩) := hR 1 (by simp [hdep])
      have e12 : ac.eval (.tmp 12) = .pointer (some ⟨g, 0, none⟩) := (hE 12 (by simp)).trans (by simp [evF, hdep, d1])
      have hc0 : W1.cell? ⟨g, 0, none⟩ = some (.slice A n c) := (HK0.out.below hB HK0.out.lt).cell 0
      exact soft_value (.slice A n c) (by unfold execOp; simp only [e12]; go_simp) rfl
    · obtain ⟨g0, d0, o0⟩ := (show (EmpR w1.heap.size 3) (vs 0) W1 from hR 0 (by simp [hdep]))
      have e11 : ac.eval (.tmp 11) = .slice (some ⟨g0, 0, none⟩) 0 0 := (hE 11 (by simp)).trans (by simp [evF, hdep, d0])
      have d2 : vs 2 = .slice A n c := hR 2 (by simp [hdep])
      have e13 : ac.eval (.tmp 13) = .slice A n c := (hE 13 (by simp)).trans (by simp [evF, hdep, d2])
      rw [d0] at o0
      exact soft_append0 (.tmp 11) (.tmp 13) 25 rfl w1.heap.size 3 i1 _ 8 Tryz.underlying25 hi1 hz0 hz1 hz2 rfl g0 e11 o0 _ A n c _ e13 ((HA.out.below hB).reads in_len) (in_one _) (by omega) (by omega) (by unfold maxLen; omega) hB.size (fun v' w' h => (own_form h).elim fun A' q => q.elim fun c' q => ⟨A', c', q, h⟩)
    · refine soft_build 35 2 0 _ rfl #[] (by simp) #[] (emp_int64 W1) ⟨_, rfl, own_empty (Blk.new _ _ _) hB.size⟩
    · have e4 : ac.eval (.tmp 4) = .pointer (some ⟨g, 0, none⟩) := (hE 4 (by simp)).trans (by simp [evF, Act.eval])
      exact soft_value (.pointer (some ⟨g, 1, none⟩)) (by unfold execOp; simp only [e4]; kernel_rfl) rfl
    · have d5 : vs 5 = .pointer (some ⟨g, 1, none⟩) := hR 5 (by simp [hdep])
      have e16 : ac.eval (.tmp 16) = .pointer (some ⟨g, 1, none⟩) := (hE 16 (by simp)).trans (by simp [evF, hdep, d5])
      have hc1 : W1.cell? ⟨g, 1, none⟩ = some (.slice B n d) := (HK0.out.below hB HK0.out.lt).cell 1
      exact soft_value (.slice B n d) (by unfold execOp; simp only [e16]; go_simp) rfl
    · obtain ⟨g4, d4, o4⟩ := (show (EmpR w1.heap.size 2) (vs 4) W1 from hR 4 (by simp [hdep]))
      have e15 : ac.eval (.tmp 15) = .slice (some ⟨g4, 0, none⟩) 0 0 := (hE 15 (by simp)).trans (by simp [evF, hdep, d4])
      have d6 : vs 6 = .slice B n d := hR 6 (by simp [hdep])
      have e17 : ac.eval (.tmp 17) = .slice B n d := (hE 17 (by simp)).trans (by simp [evF, hdep, d6])
      rw [d4] at o4
      exact soft_append0 (.tmp 15) (.tmp 17) 35 rfl w1.heap.size 2 i2 _ 8 Tryz.underlying35 hi2 hy0 hy1 hy2 rfl g4 e15 o4 _ B n d _ e17 ((HP.out.below hB).reads in_len) (in_one _) (by omega) (by omega) (by unfold maxLen; omega) hB.size (fun v' w' h => (own_form h).elim fun A' q => q.elim fun c' q => ⟨A', c', q, h⟩)
    · obtain ⟨A3, c3, d3, o3⟩ := (show (OwnR w1.heap.size 3 n (of.flatMap inC)) (vs 3) W1 from hR 3 (by simp [hdep]))
      have e14 : ac.eval (.tmp 14) = .slice A3 n c3 := (hE 14 (by simp)).trans (by simp [evF, hdep, d3])
      rw [d3] at o3
      exact soft_value (.slice A3 n c3) (by unfold execOp; simp only [e14]; rfl) ⟨_, _, rfl, o3⟩
    · obtain ⟨A7, c7, d7, o7⟩ := (show (OwnR w1.heap.size 2 n (pa.flatMap inC)) (vs 7) W1 from hR 7 (by simp [hdep]))
      have e18 : ac.eval (.tmp 18) = .slice A7 n c7 := (hE 18 (by simp)).trans (by simp [evF, hdep, d7])
      rw [d7] at o7
      exact soft_value (.slice A7 n c7) (by unfold execOp; simp only [e18]; rfl) ⟨_, _, rfl, o7⟩
  · intro vs W hB hR
    obtain ⟨A8, c8, e8, o8⟩ := (show OwnR w1.heap.size 3 n (of.flatMap inC) (vs 8) W from hR 8 (by simp))
    obtain ⟨A9, c9, e9, o9⟩ := (show OwnR w1.heap.size 2 n (pa.flatMap inC) (vs 9) W from hR 9 (by simp))
    rw [e8] at o8
    rw [e9] at o9
    obtain ⟨ga, ka, ha, hga, _⟩ := o8.form (by omega)
    obtain ⟨gb, kb, hb, hgb, _⟩ := o9.form (by omega)
    injection ha with ha _ ha2
    injection hb with hb _ hb2
    subst ha ha2
    subst hb hb2
    have HRW := Lib.hid (HR0.out.below hB HR0.out.lt)
    have HBW := Lib.hid (HB0.out.trans (hB.mono HB0.out.size))
    have hne : gb ≠ ga := by
      rintro rfl
      rcases o8.2 with ⟨h, _⟩ | ⟨x, cap, cur, h, _, hx, _⟩
      · cases h
      rcases o9.2 with ⟨h', _⟩ | ⟨y, cap', cur', h', _, hy, _⟩
      · cases h'
      injection h with h _ _; injection h with h; injection h with h
      injection h' with h' _ _; injection h' with h' ; injection h' with h'
      subst h
      subst h'
      rw [hx] at hy
      injection hy with hy
      injection hy with _ hy
      exact absurd hy (by decide)
    have n1 : ga ≠ g + 1 := by have := HG.out; omega
    have n2 : gb ≠ g + 1 := by have := HG.out; omega
    obtain ⟨ya, hya⟩ : ∃ y, of[i]? = some y := ⟨_, List.getElem?_eq_getElem (by rw [HLA.out]; exact hi)⟩
    obtain ⟨yb, hyb⟩ : ∃ y, pa[i]? = some y := ⟨_, List.getElem?_eq_getElem (by rw [HLP.out]; exact hi)⟩
    have ca : W.cell? ⟨ga, i, none⟩ = some (.int .i64 ya) := by rw [o8.cellAt i (by omega), in_at, hya]; rfl
    have fa := o8.frozenAt i
    have s8 := (o8.stored i (.int .i64 s)).1
    rw [in_set] at s8
    have HS8 := Lib.hid s8
    have HO9 := Lib.hid (o9)
    have q9 : (W.setCell ⟨ga, i, none⟩ (.int .i64 s)).ownsRow w1.heap.size 2 1 (.slice (some ⟨gb, 0, none⟩) n c9) n (pa.flatMap inC) := own_fr o9 ((Fr.refl (fun k => k = ga) W).setCell (p := ⟨ga, i, none⟩) (.inl rfl) _) (fun k hk e => hne (by simp [Value.ownBlock] at hk; omega))
    have cb : (W.setCell ⟨ga, i, none⟩ (.int .i64 s)).cell? ⟨gb, i, none⟩ = some (.int .i64 yb) := by rw [q9.cellAt i (by omega), in_at, hyb]; rfl
    have fb := q9.frozenAt i
    have HS9 : Hid (((W.setCell ⟨ga, i, none⟩ (.int .i64 s)).setCell ⟨gb, i, none⟩ (.int .i64 p)).ownsRow w1.heap.size 2 1 (.slice (some ⟨gb, 0, none⟩) n c9) n ((pa.set i p).flatMap inC)) := Lib.hid (by rw [← in_set]; exact (q9.stored i (.int .i64 p)).1)
    have HS7 : Hid (((W.setCell ⟨ga, i, none⟩ (.int .i64 s)).setCell ⟨gb, i, none⟩ (.int .i64 p)).ownsRow w1.heap.size 3 1 (.slice (some ⟨ga, 0, none⟩) n c8) n ((of.set i s).flatMap inC)) := Lib.hid (own_fr HS8.out ((Fr.refl (fun k => k = gb) _).setCell (p := ⟨gb, i, none⟩) (.inl rfl) _) (fun k hk e => hne (by simp [Value.ownBlock] at hk; omega)))
    have HRX : Hid (Blk ((W.setCell ⟨ga, i, none⟩ (.int .i64 s)).setCell ⟨gb, i, none⟩ (.int .i64 p)) (g + 1) 37 #[.slice none 0 0, .slice none 0 0]) := Lib.hid ((HRW.out.far (p := ⟨ga, i, none⟩) (fun e => n1 e.symm) _).far (p := ⟨gb, i, none⟩) (fun e => n2 e.symm) _)
    have HBX : Hid (Below w.heap.size w ((W.setCell ⟨ga, i, none⟩ (.int .i64 s)).setCell ⟨gb, i, none⟩ (.int .i64 p))) := Lib.hid ((HBW.out.setCell (p := ⟨ga, i, none⟩) (by have := HB0.out.size; simp; omega) _).setCell (p := ⟨gb, i, none⟩) (by have := HB0.out.size; simp; omega) _)
    have i0 : (0 : Int) ≤ (i : Int) := by omega
    have i9 : (i : Int) < (n : Int) := by omega
    clear hR hB s8 q9 o8 o9 hga hgb HS8 HO9 hya hyb
    simp only [fillA, Act.put, List.setIfInBounds_toArray, List.set_cons_zero, List.set_cons_succ, if_true, e8, e9]
    clear e8 e9
    go_upto_region 3 with (fail)
    obtain ⟨w5, hw5⟩ : ∃ V, (W.setCell ⟨ga, i, none⟩ (.int .i64 s)).setCell ⟨gb, i, none⟩ (.int .i64 p) = V := ⟨_, rfl⟩
    rw [hw5] at HS9 HS7 HRX HBX ⊢
    clear hw5 ca fa cb fb
    have hb3 := fun w => st_build w (some ⟨ga, 0, none⟩) (some ⟨gb, 0, none⟩) n c8 n c9
    go_wp2_with (refine stop_store 37 _ _ rfl ?_; refine wpList_store_fr rfl 37 _ _ rfl _ rfl rfl HRX.out (by kernel_rfl) rfl rfl ?_; intro w6 hm6 fr6)
    have r0 := hm6.cell 0; have r1 := hm6.cell 1
    simp only [List.getElem?_toArray, List.getElem?_cons_zero, List.getElem?_cons_succ] at r0 r1
    have hb6 : Below w.heap.size w w6 := fr6.bel HBX.out (fun k e => by have := HGE.out; omega) HBX.out.size
    have hs6 : StHi w.heap.size (of.set i s) (pa.set i p) (.agg #[.slice (some ⟨ga, 0, none⟩) n c8, .slice (some ⟨gb, 0, none⟩) n c9]) w6 := by
      have e1 : (of.set i s).length = n := by rw [List.length_set, HLA.out]
      have e2 : (pa.set i p).length = n := by rw [List.length_set, HLP.out]
      refine ⟨some ⟨ga, 0, none⟩, c8, some ⟨gb, 0, none⟩, c9, by rw [e1, e2], ?_, ?_, fun x o e => (by injection e with e; injection e with e; rw [← e]; exact Nat.le_trans HB0.out.size (HS7.out.lt ga rfl).1), fun x o e => (by injection e with e; injection e with e; rw [← e]; exact Nat.le_trans HB0.out.size (HS9.out.lt gb rfl).1)⟩
      · rw [e1]; exact SliceOf.of_own_s (own_fr HS7.out fr6 (fun k hk e => n1 (by simp [Value.ownBlock] at hk; omega))) in_len rfl e1
      · rw [e2]; exact SliceOf.of_own_s (own_fr HS9.out fr6 (fun k hk e => n2 (by simp [Value.ownBlock] at hk; omega))) in_len rfl e2
    refine bodyPost_ret (v := .agg #[.slice (some ⟨ga, 0, none⟩) n c8, .slice (some ⟨gb, 0, none⟩) n c9]) (by simp [results, Tryz.results33, go_sem, r0, r1]) rfl ?_
    exact ⟨_, rfl, hb6, hs6⟩
end Go.Proofs.YtdanjegnhdpnlaaGreatDoor.kit
