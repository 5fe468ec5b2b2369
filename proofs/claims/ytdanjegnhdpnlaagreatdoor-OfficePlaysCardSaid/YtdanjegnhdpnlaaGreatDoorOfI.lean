/- A new office while its deals are gone through. No condition. -/
import Derived.Test.YtdanjegnhdpnlaaGreatDoorOfN
import Derived.Test.YtdanjegnhdpnlaaGreatDoorSoftX
namespace Go.Proofs.YtdanjegnhdpnlaaGreatDoor.kit
open Go.RowKit
set_option linter.unusedVariables false
set_option linter.unusedSimpArgs false
theorem Off.hi {W : World} {lo hi hi' o mb n : Nat} {nm bank : ByteArray} {kind : Int} {m : ByteArray → Option Nat} {ds : ByteArray → Option Dl} {st : ByteArray → St} (h : Off W lo hi o nm bank kind mb n m ds st) (hh : hi ≤ hi') : Off W lo hi' o nm bank kind mb n m ds st :=
  ⟨h.blk, h.map, h.none_, h.deal, h.inj, h.sok, ⟨h.ino.1, Nat.lt_of_lt_of_le h.ino.2 hh⟩, ⟨h.inm.1, Nat.lt_of_lt_of_le h.inm.2 hh⟩, fun k p hp => ⟨(h.inp k p hp).1, Nat.lt_of_lt_of_le (h.inp k p hp).2 hh⟩⟩
abbrev SMap (W : World) (sb n : Nat) (m : ByteArray → Option Bool) : Prop := TMap W sb .string (fun s : ByteArray => .string s) (fun b : Bool => .bool b) n m
def seenF (xs : List Dx) (q : ByteArray) : Option Bool := if seenB xs q = true then some true else none
/-- A new office while deals are gone through: its deals of the first k, what was seen of the first j. -/
structure NewI (w : World) (nm bank : ByteArray) (kind : Int) (o mb sb : Nat) (xs : List Dx) (hi k j : Nat) (W : World) : Prop where
  bel : Below w.heap.size w W
  off : ∃ n m, Off W w.heap.size hi o nm bank kind mb n m (dealsOf nm kind (xs.take k)) (fun _ => ⟨0, 0⟩)
  seen : ∃ n, SMap W sb n (seenF (xs.take j))
  hhi : hi ≤ W.heap.size
  sbl : w.heap.size ≤ sb
  sbh : sb < hi
  sbm : sb ≠ mb
section
variable {w W W' : World} {nm bank : ByteArray} {kind : Int} {o mb sb hi k j : Nat} {xs : List Dx}
theorem NewI.fr (h : NewI w nm bank kind o mb sb xs hi k j W) {S : Nat → Prop} (hf : Fr S W W') (hS : ∀ q, S q → hi ≤ q) : NewI w nm bank kind o mb sb xs hi k j W' where
  bel := hf.bel h.bel (fun q hq => by have h1 := hS q hq; have h2 := h.sbl; have h3 := h.sbh; omega) h.bel.size
  off := h.off.elim fun n q => q.elim fun m q => ⟨n, m, q.fr hf (fun a ha hb hs => by have := hS a hs; omega)⟩
  seen := h.seen.elim fun n q => ⟨n, q.fr hf (fun hs => by have h1 := hS _ hs; have h2 := h.sbh; omega)⟩
  hhi := Nat.le_trans h.hhi hf.size
  sbl := h.sbl
  sbh := h.sbh
  sbm := h.sbm
theorem NewI.below (h : NewI w nm bank kind o mb sb xs hi k j W) (hb : Below W.heap.size W W') : NewI w nm bank kind o mb sb xs hi k j W' :=
  h.fr (S := fun _ => False) (Fr.of_below hb (Nat.le_refl _)) (fun _ h => h.elim)
theorem NewI.set (h : NewI w nm bank kind o mb sb xs hi k j W) {g : Nat} (hg : hi ≤ g) (i : Nat) (v : Value) : NewI w nm bank kind o mb sb xs hi k j (W.setCell ⟨g, i, none⟩ v) :=
  h.fr (S := fun q => q = g) ((Fr.refl (fun q => q = g) W).setCell (p := ⟨g, i, none⟩) (.inl rfl) v) (fun q hq => by rw [hq]; exact hg)
theorem blk_far {W : World} {g gb : Nat} {t : TypeId} {cs : Array Value} (h : Blk W g t cs) (hne : gb ≠ g) (i : Nat) (v : Value) : Blk (W.setCell ⟨gb, i, none⟩ v) g t cs := h.far (p := ⟨gb, i, none⟩) (fun e => hne e.symm) v
theorem NewI.mark (h : NewI w nm bank kind o mb sb xs hi k k W) {x : Dx} (hx : xs[k]? = some x) :
    ∃ W', (Instr.mapUpdate 88 (.map (some sb)) (.string x.d.num) (.bool true)).run Tryz.prog W = .ok () W' ∧ NewI w nm bank kind o mb sb xs hi k (k + 1) W' ∧ W'.heap.size = W.heap.size ∧ W.grownBy W' (some sb) := by
  obtain ⟨n, hs⟩ := h.seen
  obtain ⟨n', m, ho⟩ := h.off
  obtain ⟨W', h1, h2, h3, h4⟩ := hs.put keyStr (P := Tryz.prog) (mty := 88) Tryz.underlying88 Tryz.underlying9 x.d.num true
  have hf : Fr (fun q => q = sb) W W' := (Fr.refl (fun q => q = sb) W).grown h3 (fun q hq => by injection hq with hq; exact .inl hq.symm)
  refine ⟨W', h1, ⟨hf.bel h.bel (fun q hq => by rw [hq]; exact h.sbl) h.bel.size, ⟨n', m, ?_⟩, ⟨_, h2.ext (fun q => ?_)⟩, Nat.le_trans h.hhi hf.size, h.sbl, h.sbh, h.sbm⟩, h4, h3⟩
  · refine ⟨ho.blk.fr hf (fun e => hs.ne_blk ho.blk e.symm), ho.map.fr hf (fun e => h.sbm e.symm), ho.none_, fun q p hp => ?_, ho.inj, ho.sok, ho.ino, ho.inm, ho.inp⟩
    obtain ⟨d, bx, A, nb, c, q1, q2, q3, q4⟩ := ho.deal q p hp
    exact ⟨d, bx, A, nb, c, q1, q2, q3.fr hf (fun e => hs.ne_blk q3 e.symm), q4⟩
  · unfold putF seenF
    rw [takeDx hx, seen_app]
    by_cases e : q = x.d.num
    · subst e; simp
    · have : decide (x.d.num = q) = false := decide_eq_false (fun h => e h.symm)
      rw [if_neg e, this, Bool.or_false]
theorem NewI.skip (h : NewI w nm bank kind o mb sb xs hi k k W) {x : Dx} (hx : xs[k]? = some x) (hs : seenB (xs.take k) x.d.num = true) : NewI w nm bank kind o mb sb xs hi (k + 1) (k + 1) W :=
  ⟨h.bel, h.off.elim fun n q => q.elim fun m q => ⟨n, m, by rw [takeDx hx, show dealsOf nm kind (xs.take k ++ [x]) = dealsOf nm kind (xs.take k) from funext (deals_seen hs)]; exact q⟩,
    h.seen.elim fun n q => ⟨n, q.ext (fun y => by
      unfold seenF
      rw [takeDx hx, seen_app]
      by_cases e : x.d.num = y
      · subst e; rw [hs]; simp
      · rw [decide_eq_false e, Bool.or_false])⟩, h.hhi, h.sbl, h.sbh, h.sbm⟩
theorem NewI.not_mine (h : NewI w nm bank kind o mb sb xs hi k (k + 1) W) {x : Dx} (hx : xs[k]? = some x) (hs : seenB (xs.take k) x.d.num = false) (hm : mineB nm kind x.d = false) : NewI w nm bank kind o mb sb xs hi (k + 1) (k + 1) W :=
  ⟨h.bel, h.off.elim fun n q => q.elim fun m q => ⟨n, m, by
    have e : dealsOf nm kind (xs.take k ++ [x]) = dealsOf nm kind (xs.take k) := funext fun y => by
      rw [deals_new hs]
      by_cases e : y = x.d.num
      · rw [if_pos e, hm, e, deals_none hs]; rfl
      · rw [if_neg e]
    rw [takeDx hx, e]; exact q⟩, h.seen, h.hhi, h.sbl, h.sbh, h.sbm⟩
set_option maxRecDepth 100000 in
theorem NewI.add (h : NewI w nm bank kind o mb sb xs hi k (k + 1) W) {x : Dx} (hx : xs[k]? = some x) (hs : seenB (xs.take k) x.d.num = false) (hm : mineB nm kind x.d = true) (hok : x.d.ok) {b nb c : Nat} {A : Option Addr} (hb : hi ≤ b) (hD : DeAt W b x.d (.slice A nb c) ⟨0, 0⟩) :
    ∃ W', (Instr.mapUpdate 73 (.map (some mb)) (.string x.d.num) (.pointer (some ⟨b, 0, none⟩))).run Tryz.prog W = .ok () W' ∧ NewI w nm bank kind o mb sb xs W'.heap.size (k + 1) (k + 1) W' := by
  obtain ⟨n, hsn⟩ := h.seen
  obtain ⟨n', m, ho⟩ := h.off
  obtain ⟨W', h1, h2, h3, h4⟩ := ho.map.put keyStr (P := Tryz.prog) (mty := 73) Tryz.underlying73 Tryz.underlying9 x.d.num b
  have hf : Fr (fun q => q = mb) W W' := (Fr.refl (fun q => q = mb) W).grown h3 (fun q hq => by injection hq with hq; exact .inl hq.symm)
  have hlt := hD.lt
  have e0 : ∀ y, dealsOf nm kind (xs.take (k + 1)) y = if y = x.d.num then some x.d else dealsOf nm kind (xs.take k) y := fun y => by
    rw [takeDx hx, deals_new hs]
    simp only [hm, if_true]
  refine ⟨W', h1, ⟨hf.bel h.bel (fun q hq => by rw [hq]; exact ho.inm.1) h.bel.size, ⟨if (m x.d.num).isSome then n' else n' + 1, putF m x.d.num b, ?_⟩, ⟨n, hsn.fr hf (fun e => h.sbm e)⟩, Nat.le_refl _, h.sbl, by have h5 := h.sbh; have h6 := h.hhi; omega, h.sbm⟩⟩
  refine ⟨ho.blk.fr hf (fun e => ho.map.ne_blk ho.blk e.symm), h2, fun q hq => ?_, fun q p hp => ?_, fun q q' p hp hp' => ?_, ho.sok, ⟨ho.ino.1, ?_⟩, ⟨ho.inm.1, ?_⟩, fun q p hp => ?_⟩
  · unfold putF at hq
    rw [e0]
    by_cases e : q = x.d.num
    · rw [if_pos e] at hq; cases hq
    · rw [if_neg e] at hq ⊢; exact ho.none_ q hq
  · unfold putF at hp
    rw [e0]
    by_cases e : q = x.d.num
    · rw [if_pos e] at hp ⊢
      injection hp with hp
      subst hp
      exact ⟨x.d, _, A, nb, c, rfl, rfl, hD.fr hf (fun e => ho.map.ne_blk hD e.symm), e.symm, hok⟩
    · rw [if_neg e] at hp ⊢
      obtain ⟨d, bx, A', nb', c', q1, q2, q3, q4⟩ := ho.deal q p hp
      exact ⟨d, bx, A', nb', c', q1, q2, q3.fr hf (fun e => ho.map.ne_blk q3 e.symm), q4⟩
  · unfold putF at hp hp'
    by_cases e : q = x.d.num
    · rw [if_pos e] at hp
      by_cases e' : q' = x.d.num
      · rw [e, e']
      · rw [if_neg e'] at hp'
        injection hp with hp
        have := (ho.inp q' p hp').2
        omega
    · rw [if_neg e] at hp
      by_cases e' : q' = x.d.num
      · rw [if_pos e'] at hp'
        injection hp' with hp'
        have := (ho.inp q p hp).2
        omega
      · rw [if_neg e'] at hp'
        exact ho.inj q q' p hp hp'
  · have h5 := ho.ino.2; have h6 := h.hhi; omega
  · have h5 := ho.inm.2; have h6 := h.hhi; omega
  · unfold putF at hp
    by_cases e : q = x.d.num
    · rw [if_pos e] at hp
      injection hp with hp
      have h5 := h.sbl; have h6 := h.sbh
      omega
    · rw [if_neg e] at hp
      have h5 := ho.inp q p hp; have h6 := h.hhi
      omega
end
/-- Boxes in a row of their own, from the j-th on as they came. -/
def BxR (W : World) (hi g : Nat) (A : Option Addr) (n : Nat) (bs : List Bx) (j : Nat) : Prop := 0 < n → ∃ gb cur, A = some ⟨gb, 0, none⟩ ∧ hi ≤ gb ∧ gb ≠ g ∧ Blk W gb 92 cur ∧ ∀ i b, j ≤ i → bs[i]? = some b → cur[i * 3 + 2]? = some (.slice b.A b.n b.c)
theorem BxR.below {W W' : World} {hi g n j : Nat} {A : Option Addr} {bs : List Bx} (h : BxR W hi g A n bs j) (hb : Below W.heap.size W W') : BxR W' hi g A n bs j := fun q => by
  obtain ⟨gb, cur, h1, h2, h3, h4, h5⟩ := h q
  exact ⟨gb, cur, h1, h2, h3, h4.below hb h4.lt, h5⟩
theorem BxR.far {W : World} {hi g n j : Nat} {A : Option Addr} {bs : List Bx} (h : BxR W hi g A n bs j) (i : Nat) (v : Value) : BxR (W.setCell ⟨g, i, none⟩ v) hi g A n bs j := fun q => by
  obtain ⟨gb, cur, h1, h2, h3, h4, h5⟩ := h q
  exact ⟨gb, cur, h1, h2, h3, h4.far (p := ⟨g, i, none⟩) h3 v, h5⟩
theorem BxR.of_own {W : World} {B hi g n c : Nat} {A : Option Addr} {bs : List Bx} (h : W.ownsRow B 92 3 (.slice A n c) n (bs.flatMap bxC)) (hh : hi ≤ B) (hg : g < B) (hn : bs.length = n) : BxR W hi g A n bs 0 := fun q => by
  rcases h.2 with ⟨hv, h0⟩ | ⟨gb, cap, cur, hv, hb, hk, hc, hm, hs, ht⟩
  · omega
  · injection hv with e1 e2 e3
    refine ⟨gb, cur, e1, by omega, by omega, hk, fun i b _ hib => ?_⟩
    have hlt := (List.getElem?_eq_some_iff.1 hib).1
    have hq := flat_get (en := bxC) bx_len bs i b hib 2 (.slice b.A b.n b.c) rfl
    rw [← ht] at hq
    rw [List.getElem?_take] at hq
    split at hq
    · simpa using hq
    · cases hq
theorem BxR.step {W : World} {hi g gb n j : Nat} {cur : Array Value} {bs : List Bx} {v : Value} (h2 : hi ≤ gb) (h3 : gb ≠ g) (h4 : Blk W gb 92 cur) (h5 : ∀ i b, j ≤ i → bs[i]? = some b → cur[i * 3 + 2]? = some (.slice b.A b.n b.c)) : BxR (W.setCell ⟨gb, j * 3 + 2, none⟩ v) hi g (some ⟨gb, 0, none⟩) n bs (j + 1) := fun q => by
  refine ⟨gb, _, rfl, h2, h3, h4.set_ (j * 3 + 2) v, fun i b hi hb => ?_⟩
  rw [Array.getElem?_setIfInBounds, if_neg (by omega)]
  exact h5 i b (by omega) hb
/-- A new deal's block. -/
def DeV (B : Nat) (d : Dl) (A : Option Addr) (nb c : Nat) : Value → World → Prop := fun v W => ∃ b, v = .pointer (some ⟨b, 0, none⟩) ∧ B ≤ b ∧ DeAt W b d (.slice A nb c) ⟨0, 0⟩
theorem stab_dev (B : Nat) (d : Dl) (A : Option Addr) (nb c : Nat) : Stab (DeV B d A nb c) := fun _ _ _ ⟨b, h1, h2, h3⟩ hb => ⟨b, h1, h2, Blk.below h3 hb h3.lt⟩
theorem debuild (w : World) (d : Dl) (A : Option Addr) (nb c : Nat) : (Instr.build 83 #[(0, .agg #[.string d.num, .string d.sel, .string d.buy, .string d.car, .string d.iss, .string d.hou, .string d.ins, .string d.fr, .string d.dst, .string d.cur, .int .i64 d.amt, .slice A nb c, .int .i64 d.term, .int .i64 d.lat, .int .i64 d.exp, .int .i64 d.ten, .int .i64 d.dut])]).run Tryz.prog w = .ok (.agg #[.string d.num, .string d.sel, .string d.buy, .string d.car, .string d.iss, .string d.hou, .string d.ins, .string d.fr, .string d.dst, .string d.cur, .int .i64 d.amt, .slice A nb c, .int .i64 d.term, .int .i64 d.lat, .int .i64 d.exp, .int .i64 d.ten, .int .i64 d.dut, .int .i64 0, .int .i64 0]) w := run_build w _ _ _ (by kernel_rfl)
theorem debox (w : World) (d : Dl) (A : Option Addr) (nb c : Nat) : (Instr.box 83 (.agg #[.string d.num, .string d.sel, .string d.buy, .string d.car, .string d.iss, .string d.hou, .string d.ins, .string d.fr, .string d.dst, .string d.cur, .int .i64 d.amt, .slice A nb c, .int .i64 d.term, .int .i64 d.lat, .int .i64 d.exp, .int .i64 d.ten, .int .i64 d.dut, .int .i64 0, .int .i64 0])).run Tryz.prog w = .ok (.pointer (some ⟨w.heap.size, 0, none⟩)) (w.alloc (.cells #[.string d.num, .string d.sel, .string d.buy, .string d.car, .string d.iss, .string d.hou, .string d.ins, .string d.fr, .string d.dst, .string d.cur, .int .i64 d.amt, .slice A nb c, .int .i64 d.term, .int .i64 d.lat, .int .i64 d.exp, .int .i64 d.ten, .int .i64 d.dut, .int .i64 0, .int .i64 0] 83)) := by kernel_rfl
theorem wp_box {P : Program} {o : Oper} {a : Act} {w w' : World} {K : Act → World → Prop} {Q : Exit → Act → World → Prop} (t : TypeId) (x : Operand) (ho : o.op = .box t x) (X v : Value) (hx : a.eval x = X) (h : (Instr.box t X).run P w = .ok v w') (hk : K (a.put o.dst v) w') : o.wp P a w K Q := by
  unfold Oper.wp execOp
  simp only [ho, hx]
  simp [h, Result.andThen, Oper.upon]
  exact hk
end Go.Proofs.YtdanjegnhdpnlaaGreatDoor.kit
