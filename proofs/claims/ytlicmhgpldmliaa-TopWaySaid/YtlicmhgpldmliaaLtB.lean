/- Letters there and back: each call, by what lies in memory. No condition. -/
import Derived.Test.YtlicmhgpldmliaaLtA
import Derived.Test.YtlicmhgpldmliaaSoftX
import Derived.Laws.Slices
namespace Go.Proofs.Ytlicmhgpldmliaa.kit
open Go.RowKit
set_option linter.unusedVariables false

section
variable {B : Nat} {w : World} {ga gma gb gmb bp tp : Nat} {se ac T S : Nat} {ow : Bool} {va vt vb : Value} {th bk : List Lr} {m : Int → Option Lr} {W : World}
/-- Moves lie as they lay. -/
def Kp (W W' : World) : Prop := ∀ g cs, Blk W g 37 cs → Blk W' g 37 cs
theorem Kp.fr {S : Nat → Prop} {W W' : World} (hf : Fr S W W') (h : ∀ g cs, Blk W g 37 cs → ¬ S g) : Kp W W' := fun g cs hb => hb.fr hf (h g cs hb)
def SendM (B : Nat) (w : World) (ga gma gb gmb bp tp : Nat) (se ac T S : Nat) (ow : Bool) (vt vb : Value) (th bk : List Lr) (m : Int → Option Lr) (W : World) (e : Ending) (w' : World) : Prop :=
  e = .returned (.agg #[.string (Ll (se + 1)).fr, .string (Ll (se + 1)).dst, .int .i64 (Ll (se + 1)).num, .int .i64 (Ll (se + 1)).kind, .int .i64 (Ll (se + 1)).ack, .string ⟨#[]⟩, .string ⟨#[]⟩, .string ⟨#[]⟩, .int .i64 (Ll (se + 1)).idx, .int .i64 0, .string ⟨#[]⟩, .int .i64 0, .slice none 0 0, .slice none 0 0]) ∧ Kp W w' ∧ ∃ va', Mem B w ga gma gb gmb bp tp (se + 1) ac T S ow va' vt vb th bk m w'
theorem send_m (h : Mem B w ga gma gb gmb bp tp se ac T S ow va vt vb th bk m W) (hl : Log se ac T S th bk m) (hs : se ≤ 40) :
    Calls Try.prog 10 #[(.pointer (some ⟨ga, 0, none⟩)), .agg #[.string ⟨#[]⟩, .string ⟨#[]⟩, .int .i64 0, .int .i64 13, .int .i64 0, .string ⟨#[]⟩, .string ⟨#[]⟩, .string ⟨#[]⟩, .int .i64 (((se + 1 : Nat) : Int) % 3), .int .i64 0, .string ⟨#[]⟩, .int .i64 0, .slice none 0 0, .slice none 0 0]] W (SendM B w ga gma gb gmb bp tp se ac T S ow vt vb th bk m W) := by
  have hac : ac ≤ se := Nat.le_trans hl.o1 (Nat.le_trans hl.o2 hl.o3)
  have hlen := outL_len ac se
  refine (send_any B _ _ va (outL ac se) se 0 0 (((se + 1 : Nat) : Int) % 3) gma ga false W h.ea (by rw [hlen]; exact h.oa) h.siz (by omega) (by rw [hlen]; omega)).mono ?_
  rintro e w' ⟨rfl, va', h1, h2, h3, h4⟩
  refine ⟨rfl, Kp.fr h4 (fun g cs hg => ?_), va', h.endA h4 h1 ?_ h3⟩
  · rintro (e | e)
    · exact Blk.ne_ hg h.ea (by decide) e
    · exact own_blk_ne h.oa hg (by decide) e
  rw [hlen] at h2
  rw [show se + 1 - ac = se - ac + 1 by omega, ← outL_snoc hac]
  exact h2
def DueAM (B : Nat) (w : World) (ga gma gb gmb bp tp : Nat) (se ac T S : Nat) (ow : Bool) (va vt vb : Value) (th bk : List Lr) (m : Int → Option Lr) (W : World) (e : Ending) (w' : World) : Prop :=
  ∃ A c, e = .returned (.slice A (se - ac) c) ∧ w'.ownsRow W.heap.size 32 14 (.slice A (se - ac) c) (se - ac) ((outL ac se).flatMap ltC) ∧ Mem B w ga gma gb gmb bp tp se ac T S ow va vt vb th bk m w' ∧ Below W.heap.size W w'
theorem due_am (h : Mem B w ga gma gb gmb bp tp se ac T S ow va vt vb th bk m W) (hs : se ≤ 40) :
    Calls Try.prog 11 #[(.pointer (some ⟨ga, 0, none⟩))] W (DueAM B w ga gma gb gmb bp tp se ac T S ow va vt vb th bk m W) := by
  have hlen := outL_len ac se
  have hoa := h.oa
  obtain ⟨A, c, rfl⟩ := own_slice hoa
  refine (due_a _ _ A c (outL ac se) se 0 gma ga W (by rw [hlen]; exact h.ea) ?_ (by rw [hlen]; omega) (fun x hx => outL_ack hx)).mono ?_
  · rw [hlen]
    exact SliceOf.of_own_s hoa lt_len rfl hlen
  rintro e w' ⟨v, rfl, h1, h2⟩
  rw [hlen] at h1
  obtain ⟨A', c', rfl⟩ := own_slice h1
  exact ⟨A', c', rfl, h1, h.on h2, h2⟩
theorem got_m (h : Mem B w ga gma gb gmb bp tp se ac T S ow va vt vb th bk m W) : Calls Try.prog 13 #[(.pointer (some ⟨gb, 0, none⟩))] W fun e w' => e = .returned (.int .i64 T) ∧ W = w' := got_any _ _ _ _ _ _ _ _ _ W h.eb
theorem sure_m (h : Mem B w ga gma gb gmb bp tp se ac T S ow va vt vb th bk m W) (hl : Log se ac T S th bk m) :
    Calls Try.prog 12 #[(.pointer (some ⟨gb, 0, none⟩)), .int .i64 T] W fun e w' => e = .returned (.int .i64 T) ∧ Kp W w' ∧ Mem B w ga gma gb gmb bp tp se ac T T (ow || decide ((S : Int) < T)) va vt vb th bk m w' := by
  have h2 := hl.o2
  refine (sure_got _ _ _ _ T S _ _ _ W h.eb (by omega)).mono ?_
  rintro e w' ⟨rfl, h1, hf⟩
  have hf2 : Fr (fun k => k = gb ∨ k = gmb ∨ k = tp) W w' := hf.mono (fun k e => .inl e)
  obtain ⟨n, hm⟩ := h.mm
  exact ⟨rfl, Kp.fr hf (fun g cs hg e => Blk.ne_ hg h.eb (by decide) e), h.endB hf2 h1 (h.pt.fr hf (fun e => Blk.ne_ h.pt h.eb (by decide) e)) ⟨n, hm.fr hf (fun e => hm.ne_blk h.eb e)⟩⟩
/-- The receipts that Due brings. -/
def recs (ow : Bool) (S : Nat) : List Lr := if ow = true then [Rc S] else []
theorem recs_eq {ow : Bool} {S : Nat} {x : Lr} (h : x ∈ recs ow S) : x = Rc S := by
  unfold recs at h
  split at h
  · simpa using h
  · simp at h
def DueBM (B : Nat) (w : World) (ga gma gb gmb bp tp : Nat) (se ac T S : Nat) (ow : Bool) (va vt vb : Value) (th bk : List Lr) (m : Int → Option Lr) (W : World) (e : Ending) (w' : World) : Prop :=
  ∃ A c, e = .returned (.slice A (recs ow S).length c) ∧ SliceOf w' 14 ltC A (recs ow S).length (recs ow S) ∧ (∀ b off, A = some ⟨b, off, none⟩ → W.heap.size ≤ b) ∧ Mem B w ga gma gb gmb bp tp se ac T S false va vt vb th bk m w' ∧ W.heap.size ≤ w'.heap.size ∧ Kp W w'
theorem due_bm (h : Mem B w ga gma gb gmb bp tp se ac T S ow va vt vb th bk m W) :
    Calls Try.prog 11 #[(.pointer (some ⟨gb, 0, none⟩))] W (DueBM B w ga gma gb gmb bp tp se ac T S ow va vt vb th bk m W) := by
  refine (due_b _ _ 0 T S gmb gb ow W h.eb).mono ?_
  rintro e w' ⟨A, c, rfl, h1, h2, h3, hf⟩
  have hf2 : Fr (fun k => k = gb ∨ k = gmb ∨ k = tp) W w' := hf.mono (fun k e => .inl e)
  obtain ⟨n, hm⟩ := h.mm
  have hm2 := h.endB hf2 h3 (h.pt.fr hf (fun e => Blk.ne_ h.pt h.eb (by decide) e)) ⟨n, hm.fr hf (fun e => hm.ne_blk h.eb e)⟩
  cases ow
  · exact ⟨A, c, rfl, h1, h2, hm2, hf.size, Kp.fr hf (fun g cs hg e => Blk.ne_ hg h.eb (by decide) e)⟩
  · exact ⟨A, c, rfl, h1, h2, hm2, hf.size, Kp.fr hf (fun g cs hg e => Blk.ne_ hg h.eb (by decide) e)⟩
/-- What the closure brings of a letter: all that was known, of more letters, perhaps. -/
def TakeM (B : Nat) (w : World) (ga gma gb gmb bp tp : Nat) (se ac T S : Nat) (va vt vb : Value) (th bk : List Lr) (i : Nat) (W : World) (e : Ending) (w' : World) : Prop :=
  e = .returned (.bool true) ∧ ∃ T' m', T ≤ T' ∧ (i = T + 1 → T < T') ∧ Log se ac T' S th bk m' ∧ Mem B w ga gma gb gmb bp tp se ac T' S true va vt vb th bk m' w' ∧ Fr (fun k => k = gb ∨ k = gmb ∨ k = tp) W w' ∧ Kp W w'
def PostM (gb gmb : Nat) (se ac T S : Nat) (th bk : List Lr) (i : Nat) (W : World) (k : Nat) (w1 : World) : Prop :=
  Blk w1 gb 90 (enB (T + k) S gmb true) ∧ ∃ m', (∃ n, LMap w1 gmb n m') ∧ Fr (fun k => k = gb ∨ k = gmb) W w1 ∧ Log se ac (T + k) S th bk m' ∧ (i = T + 1 → 1 ≤ k)
theorem take_q (h : Mem B w ga gma gb gmb bp tp se ac T S ow va vt vb th bk m W) (hl : Log se ac T S th bk m) (hs : se ≤ 40) {i : Nat} (hi : 1 ≤ i ∧ i ≤ se) (W1 : World) (hb : Below W.heap.size W W1) :
    Calls Try.prog 9 #[(.pointer (some ⟨gb, 0, none⟩)), .agg #[.string (Ll i).fr, .string (Ll i).dst, .int .i64 (Ll i).num, .int .i64 (Ll i).kind, .int .i64 (Ll i).ack, .string ⟨#[]⟩, .string ⟨#[]⟩, .string ⟨#[]⟩, .int .i64 (Ll i).idx, .int .i64 0, .string ⟨#[]⟩, .int .i64 0, .slice none 0 0, .slice none 0 0]] W1 (TakeQ bp tp gb T (PostM gb gmb se ac T S th bk i W) W.heap.size) := by
  have ho := hl.o2
  have ho3 := hl.o3
  have heb := h.eb.below hb h.eb.lt
  have hpt := h.pt.below hb h.pt.lt
  obtain ⟨n, hmm⟩ := h.mm
  have hmm := hmm.below hb hmm.lt
  have hfr : Fr (fun k => k = gb ∨ k = gmb) W W1 := Fr.of_below hb (Nat.le_refl _)
  have hk13 : (Ll i).kind ≠ 28 := (by decide : (13 : Int) ≠ 28)
  have hn1 : (Ll i).num = i := rfl
  have none_ : ∀ (hne : i ≠ T + 1) (e : Ending) (w' : World), TakeN ⟨#[98]⟩ ⟨#[97]⟩ T S gmb gb W1 e w' → TakeQ bp tp gb T (PostM gb gmb se ac T S th bk i W) W.heap.size e w' := by
    rintro hne e w' ⟨rfl, h1, h2⟩
    refine ⟨.slice none 0 0, 0, [], rfl, World.ownsRow_nil _ _ _ _, rfl, by omega, fun i y hy => by simp at hy, hpt.fr h2 (fun e => Blk.ne_ hpt heb (by decide) e), h1, m, ⟨n, hmm.fr h2 (fun e => hmm.ne_blk heb e)⟩, ?_, hl, fun e => absurd e hne⟩
    exact hfr.trans (h2.mono (fun k e => Or.inl e : ∀ k, k = gb → k = gb ∨ k = gmb)) (fun k hk => .inl hk)
  by_cases h1 : i ≤ T
  · exact (take_out _ _ T S gmb gb ow (Ll i) W1 heb rfl rfl rfl hk13 (by rw [hn1]; omega) (by omega) (.inl (by rw [hn1]; omega))).mono (none_ (by omega))
  cases hq : m (i : Int) with
  | some y => exact (take_held _ _ T S gmb gb ow (Ll i) W1 heb rfl rfl rfl hk13 (by rw [hn1]; omega) (by omega) (by rw [hn1]; omega) n m hmm y hq).mono (none_ (fun e => by
      subst e
      have := hl.m1
      rw [show ((T + 1 : Nat) : Int) = (T : Int) + 1 by omega] at hq
      rw [hq] at this; cases this))
  | none =>
    refine (take_new _ _ T S gmb gb ow (Ll i) W1 heb rfl rfl rfl hk13 (by rw [hn1]; omega) (by omega) (by rw [hn1]; omega) n m hmm hq (hl.mB (by omega))).mono ?_
    rintro e w' ⟨v, k, n', m', ys, rfl, hk64, hb', hm', hrow, hyl, hys, hmq, hend, hf⟩
    obtain ⟨L1, L2, L3⟩ := hl.take (i := i) (k := k) (ys := ys) (m' := m') ⟨by omega, hi.2⟩ hyl hys hmq hend
    refine ⟨v, k, ys, rfl, own_lower hrow hb.size, hyl, hk64, L2, hpt.fr hf ?_, ?_, m', ⟨n', hm'⟩, hfr.trans hf (fun k hk => .inl hk), L1, L3⟩
    · rintro (e | e)
      · exact Blk.ne_ hpt heb (by decide) e
      · exact hmm.ne_blk hpt e.symm
    · have hc : ((T + k : Nat) : Int) = (T : Int) + k := by omega
      unfold enB
      rw [hc]
      exact hb'
theorem take_m (h : Mem B w ga gma gb gmb bp tp se ac T S ow va vt vb th bk m W) (hl : Log se ac T S th bk m) (hs : se ≤ 40) {i : Nat} (hi : 1 ≤ i ∧ i ≤ se) :
    Calls Try.prog 8 #[.agg #[.string (Ll i).fr, .string (Ll i).dst, .int .i64 (Ll i).num, .int .i64 (Ll i).kind, .int .i64 (Ll i).ack, .string ⟨#[]⟩, .string ⟨#[]⟩, .string ⟨#[]⟩, .int .i64 (Ll i).idx, .int .i64 0, .string ⟨#[]⟩, .int .i64 0, .slice none 0 0, .slice none 0 0], (.pointer (some ⟨bp, 0, none⟩)), (.pointer (some ⟨tp, 0, none⟩))] W (TakeM B w ga gma gb gmb bp tp se ac T S va vt vb th bk i W) := by
  have ho3 := hl.o3
  refine (clo_any bp tp gb T (PostM gb gmb se ac T S th bk i W) (Ll i) W h.pb (by omega) (fun W1 hb => take_q h hl hs hi W1 hb)).mono ?_
  rintro e w' ⟨rfl, k, w1, ⟨p1, m', ⟨n, p2⟩, p3, p4, p5⟩, hf, ht, hk⟩
  have hpt1 := h.pt.fr p3 (by
    obtain ⟨n0, hm0⟩ := h.mm
    rintro (e | e)
    · exact Blk.ne_ h.pt h.eb (by decide) e
    · exact hm0.ne_blk h.pt e.symm)
  have hf3 : Fr (fun k => k = gb ∨ k = gmb ∨ k = tp) W w' := (p3.mono (fun k e => e.elim .inl (fun e => .inr (.inl e)) : ∀ k, (k = gb ∨ k = gmb) → (k = gb ∨ k = gmb ∨ k = tp))).trans hf (fun k e => .inl (.inr (.inr e)))
  refine ⟨rfl, T + k, m', by omega, fun e => by have := p5 e; omega, p4, h.endB hf3 (p1.fr hf (fun e => Blk.ne_ p1 hpt1 (by decide) e)) ?_ ⟨n, p2.fr hf (fun e => p2.ne_blk hpt1 e)⟩, hf3, Kp.fr hf3 ?_⟩
  rotate_left
  · intro g cs hg
    obtain ⟨n0, hm0⟩ := h.mm
    rintro (e | e | e)
    · exact Blk.ne_ hg h.eb (by decide) e
    · exact hm0.ne_blk hg e.symm
    · exact Blk.ne_ hg h.pt (by decide) e
  have hc : ((T + k : Nat) : Int) = (T : Int) + k := by omega
  rw [hc]
  exact ht
def AckM (B : Nat) (w : World) (ga gma gb gmb bp tp : Nat) (se ac T S : Nat) (ow : Bool) (va vt vb : Value) (th bk : List Lr) (m : Int → Option Lr) (k : Nat) (W : World) (e : Ending) (w' : World) : Prop :=
  e = .returned (.tuple #[.slice none 0 0, .bool true]) ∧ ∃ va', Mem B w ga gma gb gmb bp tp se (ac + (k - ac)) T S ow va' vt vb th bk m w' ∧ Fr (fun k => k = ga) W w' ∧ Kp W w'
theorem ack_m (h : Mem B w ga gma gb gmb bp tp se ac T S ow va vt vb th bk m W) (hl : Log se ac T S th bk m) (hs : se ≤ 40) {k : Nat} (hk : k ≤ S) :
    Calls Try.prog 9 #[(.pointer (some ⟨ga, 0, none⟩)), .agg #[.string (Rc k).fr, .string (Rc k).dst, .int .i64 (Rc k).num, .int .i64 (Rc k).kind, .int .i64 (Rc k).ack, .string ⟨#[]⟩, .string ⟨#[]⟩, .string ⟨#[]⟩, .int .i64 (Rc k).idx, .int .i64 0, .string ⟨#[]⟩, .int .i64 0, .slice none 0 0, .slice none 0 0]] W (AckM B w ga gma gb gmb bp tp se ac T S ow va vt vb th bk m k W) := by
  have hac : ac ≤ se := Nat.le_trans hl.o1 (Nat.le_trans hl.o2 hl.o3)
  have ho1 := hl.o1
  have ho2 := hl.o2
  have ho3 := hl.o3
  have hlen := outL_len ac se
  have hka : (Rc k).ack = k := rfl
  refine (take_a B _ _ va (outL ac se) se 0 0 gma ga false (Rc k) W h.ea (by rw [hlen]; exact h.oa) h.siz (by omega) (by rw [hlen]; omega) (by rw [hlen]; omega) rfl rfl (by rw [hka]; omega) rfl rfl).mono ?_
  rintro e w' ⟨va', rfl, h1, h2, h3, hf⟩
  refine ⟨rfl, va', h.endA (hf.mono (fun k e => Or.inl e : ∀ k, k = ga → (k = ga ∨ va.ownBlock = some k))) h1 ?_ h3, hf, Kp.fr hf (fun g cs hg e => Blk.ne_ hg h.ea (by decide) e)⟩
  have hn : (((k : Nat) : Int) - ((se : Int) - ((se - ac : Nat) : Int))).toNat = k - ac := by omega
  rw [hka, hlen, hn, outL_drop, outL_len] at h2
  exact h2
end
theorem stop_field {P : Program} {ops : Array Oper} {rest : List Oper} {o : Oper} {a : Act} {w : World} {Q : Exit → Act → World → Prop} (ty : TypeId) (x : Operand) (k : Nat) (ho : o.op = .field ty x k) (h : wpList P ops Q (o :: rest) a w) : wpList P ops Q (o :: rest) a w := h
theorem bs_lt (W : World) : (Instr.buildSlice 26 0 #[]).run Try.prog W = .ok (.slice (some ⟨W.heap.size, 0, none⟩) 0 0) (W.alloc (.cells #[] 32)) := by kernel_rfl
theorem wp_bs0 {P : Program} {o : Oper} {a : Act} {w : World} {K : Act → World → Prop} {Q : Exit → Act → World → Prop} (ty e : TypeId) (n : Nat) (parts : Array (Nat × Operand)) (ho : o.op = .buildSlice ty n parts) (vals : Array (Nat × Value)) (hv : (parts.map fun (i, x) => (i, a.eval x)) = vals) (cs : Array Value)
    (hz : (Instr.buildSlice ty n vals).run P w = .ok (.slice (some ⟨w.heap.size, 0, none⟩) n n) (w.alloc (.cells cs e)))
    (h : K (a.put o.dst (.slice (some ⟨w.heap.size, 0, none⟩) n n)) (w.alloc (.cells cs e))) : o.wp P a w K Q := by
  unfold Oper.wp execOp
  simp only [ho]
  rw [hv]
  simp [hz, Result.andThen, Oper.upon]
  exact h
theorem sz_lt (u : World) : (sizeOf 32).run Try.prog u = .ok 14 u := by kernel_rfl
theorem sl_h (W : World) (bt n c i : Nat) (h : i ≤ c) : (Instr.sliceAt 26 (.slice (some ⟨bt, 0, none⟩) n c) none (some (.int .i64 i)) none).run Try.prog W = .ok (.slice (some ⟨bt, 0, none⟩) i c) W := by
  have hu : Try.prog.underlying 26 = some (.slice (Try.prog.elem 26)) := by kernel_rfl
  have he : Try.prog.elem 26 = 32 := by kernel_rfl
  rw [run_sliceAt_slice W _ _ _ _ _ hu, run_slice_h W _ _ n c hu .i64 i (by omega) (by omega), he, sz_lt]
  simp [Result.andThen, sliced, addr_add]
theorem sl_l (W : World) (bt n c k : Nat) (h : k ≤ n) : (Instr.sliceAt 26 (.slice (some ⟨bt, 0, none⟩) n c) (some (.int .i64 k)) none none).run Try.prog W = .ok (.slice (if c = k then some ⟨bt, 0, none⟩ else (some ⟨bt, 0, none⟩ : Option Addr).map (·.add (k * 14))) (n - k) (c - k)) W := by
  have hu : Try.prog.underlying 26 = some (.slice (Try.prog.elem 26)) := by kernel_rfl
  have he : Try.prog.elem 26 = 32 := by kernel_rfl
  rw [run_sliceAt_slice W _ _ _ _ _ hu, run_slice_l W _ _ n c hu .i64 k (by omega) (by omega), he, sz_lt]
  simp only [Result.andThen, sliced, Int.toNat_natCast]
/-- How far 'append(append([]T{}, l[:i]...), l[i+1:]...)' has come. -/
structure CutX (B0 : Nat) (l1 l2 : List Lr) (i j : Nat) (d0 d1 d4 d5 d9 d10 : Bool) (v0 v4 v9 v10 : Value) (W : World) : Prop where
  c0 : d0 = true → d4 = false → W.ownsRow B0 32 14 v0 0 []
  c4 : d4 = true → d9 = false → W.ownsRow B0 32 14 v4 i (l1.flatMap ltC)
  c9 : d9 = true → W.ownsRow B0 32 14 v9 (i + j) ((l1 ++ l2).flatMap ltC)
  o4 : d4 = true → d0 = true
  o9 : d9 = true → d4 = true
  o10 : d10 = true → d9 = true ∧ v10 = v9
  o1 : d10 = true → d1 = true ∧ d5 = true
theorem CutX.on {B0 : Nat} {l1 l2 : List Lr} {i j : Nat} {d0 d1 d4 d5 d9 d10 : Bool} {v0 v4 v9 v10 : Value} {W W' : World} (h : CutX B0 l1 l2 i j d0 d1 d4 d5 d9 d10 v0 v4 v9 v10 W) (hb : Below W.heap.size W W') : CutX B0 l1 l2 i j d0 d1 d4 d5 d9 d10 v0 v4 v9 v10 W' :=
  ⟨fun a b => own_kept_below (h.c0 a b) hb, fun a b => own_kept_below (h.c4 a b) hb, fun a => own_kept_below (h.c9 a) hb, h.o4, h.o9, h.o10, h.o1⟩
theorem CutX.up {B0 : Nat} {l1 l2 : List Lr} {i j : Nat} {d0 d1 d4 d5 d9 d10 d1' d5' : Bool} {v0 v4 v9 v10 : Value} {W : World} (h : CutX B0 l1 l2 i j d0 d1 d4 d5 d9 d10 v0 v4 v9 v10 W) (h1 : d1 = true → d1' = true) (h5 : d5 = true → d5' = true) : CutX B0 l1 l2 i j d0 d1' d4 d5' d9 d10 v0 v4 v9 v10 W :=
  ⟨h.c0, h.c4, h.c9, h.o4, h.o9, h.o10, fun q => ⟨h1 (h.o1 q).1, h5 (h.o1 q).2⟩⟩
theorem up_mono {done : Nat → Bool} {k j : Nat} (h : done j = true) : upDn done k j = true := by
  unfold upDn
  split
  · rfl
  · exact h
theorem Kp.below {W W' : World} (hb : Below W.heap.size W W') : Kp W W' := fun g cs h => h.below hb h.lt
/-- What a round of the loop over the moves keeps. -/
def LRel (w : World) (ga gma gb gmb bp tp n : Nat) (vt vb sv iv : Value) (W : World) : Prop :=
  ∃ (k se ac T S : Nat) (ow : Bool) (va : Value) (th bk : List Lr) (m : Int → Option Lr), k ≤ n ∧ se ≤ k ∧ sv = .int .i64 se ∧ iv = .int .i64 k ∧ th.length ≤ 400 ∧ bk.length ≤ 400 ∧ Log se ac T S th bk m ∧ Mem w.heap.size w ga gma gb gmb bp tp se ac T S ow va vt vb th bk m W
theorem lrel {w : World} {ga gma gb gmb bp tp n : Nat} {vt vb sv iv : Value} {W : World} (k se ac T S : Nat) (ow : Bool) (va : Value) (th bk : List Lr) (m : Int → Option Lr) (h1 : k ≤ n) (h2 : se ≤ k) (h3 : sv = .int .i64 se) (h4 : iv = .int .i64 k) (h5 : th.length ≤ 400) (h6 : bk.length ≤ 400) (h7 : Log se ac T S th bk m) (h8 : Mem w.heap.size w ga gma gb gmb bp tp se ac T S ow va vt vb th bk m W) : LRel w ga gma gb gmb bp tp n vt vb sv iv W :=
  ⟨k, se, ac, T, S, ow, va, th, bk, m, h1, h2, h3, h4, h5, h6, h7, h8⟩
end Go.Proofs.Ytlicmhgpldmliaa.kit
