/- Letters there and back: what is sent, what is taken, what lies in memory. No condition. -/
import Derived.Test.YtlicmhgpldmliaaTlK
namespace Go.Proofs.Ytlicmhgpldmliaa.kit
open Go.RowKit
set_option linter.unusedVariables false

def Ll (i : Nat) : Lr := ⟨⟨#[97]⟩, ⟨#[98]⟩, i, 13, 0, (i : Int) % 3⟩
def Rc (k : Nat) : Lr := ⟨⟨#[98]⟩, ⟨#[97]⟩, 0, 28, k, 0⟩
def outL (ac se : Nat) : List Lr := (List.range (se - ac)).map fun i => Ll (ac + 1 + i)
theorem outL_len (ac se : Nat) : (outL ac se).length = se - ac := by simp [outL]
theorem outL_get {ac se j : Nat} (h : j < se - ac) : (outL ac se)[j]? = some (Ll (ac + 1 + j)) := by simp [outL, h]
theorem outL_snoc {ac se : Nat} (h : ac ≤ se) : outL ac se ++ [Ll (se + 1)] = outL ac (se + 1) := by
  unfold outL
  rw [show se + 1 - ac = (se - ac) + 1 by omega, List.range_succ, List.map_append]
  simp only [List.map_cons, List.map_nil]
  rw [show ac + 1 + (se - ac) = se + 1 by omega]
theorem outL_drop (ac se k : Nat) : (outL ac se).drop k = outL (ac + k) se := by
  apply List.ext_getElem?
  intro j
  rw [List.getElem?_drop]
  by_cases h : j < se - (ac + k)
  · rw [outL_get h, outL_get (by omega), show ac + 1 + (k + j) = ac + k + 1 + j by omega]
  · rw [List.getElem?_eq_none (by rw [outL_len]; omega), List.getElem?_eq_none (by rw [outL_len]; omega)]
theorem outL_nil {ac se : Nat} (h : se ≤ ac) : outL ac se = [] := by
  unfold outL
  rw [show se - ac = 0 by omega]; rfl
theorem outL_mem {ac se : Nat} {x : Lr} (h : x ∈ outL ac se) : ∃ i, 1 ≤ i ∧ i ≤ se ∧ x = Ll i := by
  unfold outL at h
  obtain ⟨i, hi, rfl⟩ := List.mem_map.1 h
  rw [List.mem_range] at hi
  exact ⟨_, by omega, by omega, rfl⟩
theorem outL_ack {ac se : Nat} {x : Lr} (h : x ∈ outL ac se) : x.ack = 0 := by
  obtain ⟨i, _, _, rfl⟩ := outL_mem h
  rfl
/-- Of se letters ac were receipted, T taken, S sure; what may be under way, and what waits. -/
structure Log (se ac T S : Nat) (th bk : List Lr) (m : Int → Option Lr) : Prop where
  o1 : ac ≤ S
  o2 : S ≤ T
  o3 : T ≤ se
  tq : ∀ x ∈ th, ∃ i, 1 ≤ i ∧ i ≤ se ∧ x = Ll i
  bq : ∀ x ∈ bk, ∃ k, k ≤ S ∧ x = Rc k
  mq : ∀ q y, m q = some y → ∃ i : Nat, q = i ∧ T < i ∧ i ≤ se ∧ y = Ll i
  m1 : m ((T : Int) + 1) = none
theorem Log.start : Log 0 0 0 0 [] [] (fun _ => none) := ⟨by omega, by omega, by omega, by simp, by simp, by simp, rfl⟩
section
variable {se ac T S : Nat} {th bk : List Lr} {m : Int → Option Lr}
theorem Log.send (h : Log se ac T S th bk m) : Log (se + 1) ac T S th bk m :=
  ⟨h.o1, h.o2, by have := h.o3; omega, fun x hx => (h.tq x hx).elim fun i q => ⟨i, q.1, by omega, q.2.2⟩, h.bq, fun q y hq => (h.mq q y hq).elim fun i r => ⟨i, r.1, r.2.1, by omega, r.2.2.2⟩, h.m1⟩
theorem Log.due (h : Log se ac T S th bk m) : Log se ac T S (th ++ outL ac se) bk m :=
  ⟨h.o1, h.o2, h.o3, fun x hx => (List.mem_append.1 hx).elim (h.tq x) (fun q => outL_mem q), h.bq, h.mq, h.m1⟩
theorem Log.sub (h : Log se ac T S th bk m) {th' bk' : List Lr} (h1 : ∀ x ∈ th', x ∈ th) (h2 : ∀ x ∈ bk', x ∈ bk) : Log se ac T S th' bk' m :=
  ⟨h.o1, h.o2, h.o3, fun x hx => h.tq x (h1 x hx), fun x hx => h.bq x (h2 x hx), h.mq, h.m1⟩
theorem Log.sure (h : Log se ac T S th bk m) : Log se ac T T th bk m :=
  ⟨Nat.le_trans h.o1 h.o2, Nat.le_refl _, h.o3, h.tq, fun x hx => (h.bq x hx).elim fun k q => ⟨k, Nat.le_trans q.1 h.o2, q.2⟩, h.mq, h.m1⟩
theorem Log.rcpt (h : Log se ac T S th bk m) {l : List Lr} (hl : ∀ x ∈ l, x = Rc S) : Log se ac T S th (bk ++ l) m :=
  ⟨h.o1, h.o2, h.o3, h.tq, fun x hx => (List.mem_append.1 hx).elim (h.bq x) (fun q => ⟨S, Nat.le_refl _, hl x q⟩), h.mq, h.m1⟩
theorem Log.ack (h : Log se ac T S th bk m) {k : Nat} (hk : k ≤ S) : Log se (ac + (k - ac)) T S th bk m :=
  ⟨by have := h.o1; omega, h.o2, h.o3, h.tq, h.bq, h.mq, h.m1⟩
/-- A letter that is new: those that come of it. -/
theorem Log.take (h : Log se ac T S th bk m) {i k : Nat} {ys : List Lr} {m' : Int → Option Lr} (hi : T < i ∧ i ≤ se) (hl : ys.length = k) (hy : ∀ j : Nat, j < k → ys[j]? = putF m (i : Int) (Ll i) ((T : Int) + 1 + j))
    (hm' : ∀ q, m' q = if (T : Int) < q ∧ q ≤ (T : Int) + k then none else putF m (i : Int) (Ll i) q) (he : putF m (i : Int) (Ll i) ((T : Int) + k + 1) = none) :
    Log se ac (T + k) S th bk m' ∧ Good T ys ∧ (i = T + 1 → 1 ≤ k) := by
  have key : ∀ (q : Int) (y : Lr), putF m (i : Int) (Ll i) q = some y → ∃ i : Nat, q = i ∧ T < i ∧ i ≤ se ∧ y = Ll i := by
    intro q y hq
    unfold putF at hq
    by_cases e : q = (i : Int)
    · rw [if_pos e] at hq
      injection hq with hq
      exact ⟨i, e, hi.1, hi.2, hq.symm⟩
    · rw [if_neg e] at hq
      exact h.mq q y hq
  have hT : T + k ≤ se := by
    rcases Nat.eq_zero_or_pos k with hk | hk
    · have := h.o3; omega
    · have h1 := hy (k - 1) (by omega)
      rw [List.getElem?_eq_getElem (by omega)] at h1
      obtain ⟨j, h2, _, h4, _⟩ := key _ _ h1.symm
      omega
  refine ⟨⟨h.o1, by have := h.o2; omega, hT, h.tq, h.bq, fun q y hq => ?_, ?_⟩, fun j y hj => ?_, fun e => ?_⟩
  · rw [hm'] at hq
    by_cases e : (T : Int) < q ∧ q ≤ (T : Int) + k
    · rw [if_pos e] at hq; cases hq
    · rw [if_neg e] at hq
      obtain ⟨j, h1, h2, h3, h4⟩ := key q y hq
      exact ⟨j, h1, by omega, h3, h4⟩
  · rw [hm', if_neg (by omega), show ((T + k : Nat) : Int) + 1 = (T : Int) + k + 1 by omega]
    exact he
  · have hjk : j < k := by have := (List.getElem?_eq_some_iff.1 hj).1; omega
    rw [hy j hjk] at hj
    obtain ⟨q, h1, _, _, rfl⟩ := key _ _ hj
    exact ⟨h1.symm, by show (q : Int) % 3 = _; rw [h1]⟩
  · rcases Nat.eq_zero_or_pos k with hk | hk
    · subst hk
      subst e
      unfold putF at he
      rw [if_pos (by omega)] at he
      cases he
    · exact hk
theorem Log.mB (h : Log se ac T S th bk m) (hs : se ≤ 64) : ∀ q, m q ≠ none → (T : Int) < q ∧ q ≤ (T : Int) + 64 := by
  intro q hq
  cases hm : m q with
  | none => exact absurd hm hq
  | some y =>
    obtain ⟨i, h1, h2, h3, _⟩ := h.mq q y hm
    omega
end
/-! memory -/
abbrev enA (va : Value) (se gma : Nat) : Array Value := #[.string ⟨#[97]⟩, .string ⟨#[98]⟩, va, .int .i64 se, .int .i64 0, .int .i64 0, .map (some gma), .bool false]
abbrev enB (T S gmb : Nat) (ow : Bool) : Array Value := #[.string ⟨#[98]⟩, .string ⟨#[97]⟩, .slice none 0 0, .int .i64 0, .int .i64 T, .int .i64 S, .map (some gmb), .bool ow]
structure Mem (B : Nat) (w : World) (ga gma gb gmb bp tp : Nat) (se ac T S : Nat) (ow : Bool) (va vt vb : Value) (th bk : List Lr) (m : Int → Option Lr) (W : World) : Prop where
  bel : Below B w W
  siz : B ≤ W.heap.size
  ea : Blk W ga 90 (enA va se gma)
  eb : Blk W gb 90 (enB T S gmb ow)
  pb : Blk W bp 24 #[(.pointer (some ⟨gb, 0, none⟩))]
  pt : Blk W tp 3 #[.int .i64 T]
  mm : ∃ n, LMap W gmb n m
  oa : W.ownsRow B 32 14 va (se - ac) ((outL ac se).flatMap ltC)
  ot : W.ownsRow B 32 14 vt th.length (th.flatMap ltC)
  ob : W.ownsRow B 32 14 vb bk.length (bk.flatMap ltC)
  at_ : ApartV va vt
  ab : ApartV va vb
  tb : ApartV vt vb
  f1 : B ≤ ga
  f2 : B ≤ gb
  f3 : B ≤ gmb
  f4 : B ≤ bp
  f5 : B ≤ tp
  ne : ga ≠ gb
theorem ApartV.symm {v u : Value} (h : ApartV v u) : ApartV u v := by
  unfold ApartV at h ⊢
  rcases h with h | h
  · cases hu : u.ownBlock with
    | none => exact .inl rfl
    | some b => rw [h]; exact .inr (by simp)
  · exact .inr (fun e => h e.symm)
theorem ApartV.not {v u : Value} (h : ApartV v u) {k : Nat} (h1 : v.ownBlock = some k) : u.ownBlock ≠ some k := by
  rcases h with h | h
  · rw [h1] at h; cases h
  · intro e; exact h (h1.trans e.symm)
/-- A row that stays, or is new, is apart from whatever the old one was apart from. -/
theorem apart_new {W : World} {v v' u : Value} {B n : Nat} {e : TypeId} {C : Nat} {ys : List Value} (h : ApartV v u) (hn : NewRow W v v') (hu : W.ownsRow B e C u n ys) : ApartV v' u := by
  rcases hn with hn | hn
  · unfold ApartV at h ⊢; rw [hn]; exact h
  · cases hv : v'.ownBlock with
    | none => exact .inl hv
    | some b =>
      refine .inr (fun e => ?_)
      have h1 := hn b hv
      have h2 := (hu.lt b (e.symm.trans hv)).2
      omega
theorem apart_fresh {W : World} {v' u : Value} {B n : Nat} {e : TypeId} {C : Nat} {ys : List Value} (hn : ∀ b, v'.ownBlock = some b → W.heap.size ≤ b) (hu : W.ownsRow B e C u n ys) : ApartV v' u := by
  cases hv : v'.ownBlock with
  | none => exact .inl hv
  | some b =>
    refine .inr (fun e => ?_)
    have h1 := hn b hv
    have h2 := (hu.lt b (e.symm.trans hv)).2
    omega
section
variable {B : Nat} {w : World} {ga gma gb gmb bp tp : Nat} {se ac T S : Nat} {ow : Bool} {va vt vb : Value} {th bk : List Lr} {m : Int → Option Lr} {W W' : World}
theorem Mem.on (h : Mem B w ga gma gb gmb bp tp se ac T S ow va vt vb th bk m W) (hb : Below W.heap.size W W') : Mem B w ga gma gb gmb bp tp se ac T S ow va vt vb th bk m W' :=
  ⟨h.bel.trans (hb.mono h.siz), Nat.le_trans h.siz hb.size, h.ea.below hb h.ea.lt, h.eb.below hb h.eb.lt, h.pb.below hb h.pb.lt, h.pt.below hb h.pt.lt, h.mm.elim fun n q => ⟨n, q.below hb q.lt⟩, own_kept_below h.oa hb, own_kept_below h.ot hb, own_kept_below h.ob hb, h.at_, h.ab, h.tb, h.f1, h.f2, h.f3, h.f4, h.f5, h.ne⟩
theorem Mem.drew (h : Mem B w ga gma gb gmb bp tp se ac T S ow va vt vb th bk m W) : Mem B w ga gma gb gmb bp tp se ac T S ow va vt vb th bk m W.drew := h.on (below_drewN (Below.refl _ _) 1)
/-- The one end turns: its block and its row. -/
theorem Mem.endA (h : Mem B w ga gma gb gmb bp tp se ac T S ow va vt vb th bk m W) {se' ac' : Nat} {va' : Value} (hf : Fr (fun k => k = ga ∨ va.ownBlock = some k) W W') (hea : Blk W' ga 90 (enA va' se' gma))
    (hoa : W'.ownsRow B 32 14 va' (se' - ac') ((outL ac' se').flatMap ltC)) (hn : NewRow W va va') : Mem B w ga gma gb gmb bp tp se' ac' T S ow va' vt vb th bk m W' := by
  have hB : ∀ k, (k = ga ∨ va.ownBlock = some k) → B ≤ k := fun k hk => hk.elim (fun e => e ▸ h.f1) (fun e => (h.oa.lt k e).1)
  obtain ⟨n, hm⟩ := h.mm
  refine ⟨hf.bel h.bel hB h.siz, Nat.le_trans h.siz hf.size, hea, h.eb.fr hf ?_, h.pb.fr hf ?_, h.pt.fr hf ?_, ⟨n, hm.fr hf ?_⟩, hoa, own_fr h.ot hf ?_, own_fr h.ob hf ?_, apart_new h.at_ hn h.ot, apart_new h.ab hn h.ob, h.tb, h.f1, h.f2, h.f3, h.f4, h.f5, h.ne⟩
  · rintro (e | e)
    · exact h.ne e.symm
    · exact own_blk_ne h.oa h.eb (by decide) e
  · rintro (e | e)
    · exact Blk.ne_ h.pb h.ea (by decide) e
    · exact own_blk_ne h.oa h.pb (by decide) e
  · rintro (e | e)
    · exact Blk.ne_ h.pt h.ea (by decide) e
    · exact own_blk_ne h.oa h.pt (by decide) e
  · rintro (e | e)
    · exact hm.ne_blk h.ea e
    · exact hm.ne_own h.oa e
  · rintro k hk (e | e)
    · exact own_blk_ne h.ot h.ea (by decide) (e ▸ hk)
    · exact h.at_.not e hk
  · rintro k hk (e | e)
    · exact own_blk_ne h.ob h.ea (by decide) (e ▸ hk)
    · exact h.ab.not e hk
/-- The other end turns, its map, the count. -/
theorem Mem.endB (h : Mem B w ga gma gb gmb bp tp se ac T S ow va vt vb th bk m W) {T' S' : Nat} {ow' : Bool} {m' : Int → Option Lr} (hf : Fr (fun k => k = gb ∨ k = gmb ∨ k = tp) W W') (heb : Blk W' gb 90 (enB T' S' gmb ow'))
    (hpt : Blk W' tp 3 #[.int .i64 T']) (hmm : ∃ n, LMap W' gmb n m') : Mem B w ga gma gb gmb bp tp se ac T' S' ow' va vt vb th bk m' W' := by
  obtain ⟨n, hm⟩ := h.mm
  have hB : ∀ k, (k = gb ∨ k = gmb ∨ k = tp) → B ≤ k := by
    rintro k (e | e | e)
    · exact e ▸ h.f2
    · exact e ▸ h.f3
    · exact e ▸ h.f5
  have row : ∀ {v : Value} {n : Nat} {ys : List Value}, W.ownsRow B 32 14 v n ys → ∀ k, v.ownBlock = some k → ¬ (k = gb ∨ k = gmb ∨ k = tp) := by
    rintro v n ys ho k hk (e | e | e)
    · exact own_blk_ne ho h.eb (by decide) (e ▸ hk)
    · exact hm.ne_own ho (e ▸ hk)
    · exact own_blk_ne ho h.pt (by decide) (e ▸ hk)
  refine ⟨hf.bel h.bel hB h.siz, Nat.le_trans h.siz hf.size, h.ea.fr hf ?_, heb, h.pb.fr hf ?_, hpt, hmm, own_fr h.oa hf (row h.oa), own_fr h.ot hf (row h.ot), own_fr h.ob hf (row h.ob), h.at_, h.ab, h.tb, h.f1, h.f2, h.f3, h.f4, h.f5, h.ne⟩
  · rintro (e | e | e)
    · exact h.ne e
    · exact hm.ne_blk h.ea e.symm
    · exact Blk.ne_ h.ea h.pt (by decide) e
  · rintro (e | e | e)
    · exact Blk.ne_ h.pb h.eb (by decide) e
    · exact hm.ne_blk h.pb e.symm
    · exact Blk.ne_ h.pb h.pt (by decide) e
/-- Something is appended to what is under way. -/
theorem Mem.moreT (h : Mem B w ga gma gb gmb bp tp se ac T S ow va vt vb th bk m W) {vt' : Value} {th' : List Lr} (hg : W.grownBy W' vt.ownBlock) (ho : W'.ownsRow B 32 14 vt' th'.length (th'.flatMap ltC)) (hn : NewRow W vt vt') :
    Mem B w ga gma gb gmb bp tp se ac T S ow va vt' vb th' bk m W' := by
  have hf : Fr (fun k => vt.ownBlock = some k) W W' := (Fr.refl _ W).grown hg (fun k hk => .inl hk)
  obtain ⟨n, hm⟩ := h.mm
  exact ⟨hf.bel h.bel (fun k hk => (h.ot.lt k hk).1) h.siz, Nat.le_trans h.siz hf.size, h.ea.fr hf (fun e => own_blk_ne h.ot h.ea (by decide) e), h.eb.fr hf (fun e => own_blk_ne h.ot h.eb (by decide) e), h.pb.fr hf (fun e => own_blk_ne h.ot h.pb (by decide) e), h.pt.fr hf (fun e => own_blk_ne h.ot h.pt (by decide) e),
    ⟨n, hm.fr hf (fun e => hm.ne_own h.ot e)⟩, own_fr h.oa hf (fun k hk e => h.at_.not hk e), ho, own_fr h.ob hf (fun k hk e => h.tb.not e hk), (apart_new h.at_.symm hn h.oa).symm, h.ab, apart_new h.tb hn h.ob, h.f1, h.f2, h.f3, h.f4, h.f5, h.ne⟩
theorem Mem.moreB (h : Mem B w ga gma gb gmb bp tp se ac T S ow va vt vb th bk m W) {vb' : Value} {bk' : List Lr} (hg : W.grownBy W' vb.ownBlock) (ho : W'.ownsRow B 32 14 vb' bk'.length (bk'.flatMap ltC)) (hn : NewRow W vb vb') :
    Mem B w ga gma gb gmb bp tp se ac T S ow va vt vb' th bk' m W' := by
  have hf : Fr (fun k => vb.ownBlock = some k) W W' := (Fr.refl _ W).grown hg (fun k hk => .inl hk)
  obtain ⟨n, hm⟩ := h.mm
  exact ⟨hf.bel h.bel (fun k hk => (h.ob.lt k hk).1) h.siz, Nat.le_trans h.siz hf.size, h.ea.fr hf (fun e => own_blk_ne h.ob h.ea (by decide) e), h.eb.fr hf (fun e => own_blk_ne h.ob h.eb (by decide) e), h.pb.fr hf (fun e => own_blk_ne h.ob h.pb (by decide) e), h.pt.fr hf (fun e => own_blk_ne h.ob h.pt (by decide) e),
    ⟨n, hm.fr hf (fun e => hm.ne_own h.ob e)⟩, own_fr h.oa hf (fun k hk e => h.ab.not hk e), own_fr h.ot hf (fun k hk e => h.tb.not hk e), ho, h.at_, (apart_new h.ab.symm hn h.oa).symm, (apart_new h.tb.symm hn h.ot).symm, h.f1, h.f2, h.f3, h.f4, h.f5, h.ne⟩
/-- Something else is under way, in memory that is new. -/
theorem Mem.newT (h : Mem B w ga gma gb gmb bp tp se ac T S ow va vt vb th bk m W) {vt' : Value} {th' : List Lr} (hb : Below W.heap.size W W') (ho : W'.ownsRow W.heap.size 32 14 vt' th'.length (th'.flatMap ltC)) :
    Mem B w ga gma gb gmb bp tp se ac T S ow va vt' vb th' bk m W' :=
  have h1 := h.on hb
  have hn : ∀ b, vt'.ownBlock = some b → W.heap.size ≤ b := fun b hb => (ho.lt b hb).1
  ⟨h1.bel, h1.siz, h1.ea, h1.eb, h1.pb, h1.pt, h1.mm, h1.oa, own_lower ho h.siz, h1.ob, (apart_fresh hn h.oa).symm, h.ab, apart_fresh hn h.ob, h.f1, h.f2, h.f3, h.f4, h.f5, h.ne⟩
theorem Mem.newB (h : Mem B w ga gma gb gmb bp tp se ac T S ow va vt vb th bk m W) {vb' : Value} {bk' : List Lr} (hb : Below W.heap.size W W') (ho : W'.ownsRow W.heap.size 32 14 vb' bk'.length (bk'.flatMap ltC)) :
    Mem B w ga gma gb gmb bp tp se ac T S ow va vt vb' th bk' m W' :=
  have h1 := h.on hb
  have hn : ∀ b, vb'.ownBlock = some b → W.heap.size ≤ b := fun b hb => (ho.lt b hb).1
  ⟨h1.bel, h1.siz, h1.ea, h1.eb, h1.pb, h1.pt, h1.mm, h1.oa, h1.ot, own_lower ho h.siz, h.at_, (apart_fresh hn h.oa).symm, (apart_fresh hn h.ot).symm, h.f1, h.f2, h.f3, h.f4, h.f5, h.ne⟩
end
end Go.Proofs.Ytlicmhgpldmliaa.kit
