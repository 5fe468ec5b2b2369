/- An office takes a letter. Condition: the table of powers of ten. -/
import Derived.Test.YtdanjegnhdpnlaaGreatDoorOfG
namespace Go.Proofs.YtdanjegnhdpnlaaGreatDoor.kit
open Go.RowKit Go.PlainAid
set_option linter.unusedVariables false
set_option linter.unusedSimpArgs false
def outV (kind : Int) (bank : ByteArray) (od : Option Dl) (s : St) (l : Lt) : List Ol × St := match od with
  | none => ([], s)
  | some d => takeV kind bank d s l
theorem setS_id (st : ByteArray → St) (k : ByteArray) : setS st k (st k) = st := by
  funext q
  unfold setS
  split
  · rename_i e; rw [e]
  · rfl
/-- What a take brings. -/
def TakP (w : World) (lo hi o mb n : Nat) (nm bank : ByteArray) (kind : Int) (m : ByteArray → Option Nat) (ds : ByteArray → Option Dl) (st : ByteArray → St) (l : Lt) (dy : Int) (e : Ending) (w' : World) : Prop :=
  ∃ v, e = .returned v ∧ OlAt w' w.heap.size v l.deal dy (outV kind bank (ds l.deal) (st l.deal) l).1 ∧ Off w' lo hi o nm bank kind mb n m ds (setS st l.deal (outV kind bank (ds l.deal) (st l.deal) l).2) ∧ Fr (fun k => lo ≤ k ∧ k < hi) w w'
theorem TakP.none_ {w w' : World} {lo hi o mb n : Nat} {nm bank : ByteArray} {kind : Int} {m : ByteArray → Option Nat} {ds : ByteArray → Option Dl} {st : ByteArray → St} {l : Lt} {dy : Int} (h : Off w lo hi o nm bank kind mb n m ds st) (hb : Below w.heap.size w w') (hn : outV kind bank (ds l.deal) (st l.deal) l = ([], st l.deal)) : TakP w lo hi o mb n nm bank kind m ds st l dy (.returned (.slice none 0 0)) w' :=
  ⟨_, rfl, .inl ⟨by rw [hn], rfl⟩, by rw [hn]; rw [show setS st l.deal (([], st l.deal) : List Ol × St).2 = st from setS_id st l.deal]; exact h.below hb, Fr.of_below hb (Nat.le_refl _)⟩
/-- Letters, stamped one by one. -/
theorem OlAt.stamps {W : World} {B : Nat} {v : Value} {xs : List Ol} (dl : ByteArray) (dy : Int) (h : OlAt W B v ⟨#[]⟩ 0 xs) (hB : B ≤ W.heap.size) : ∃ (cs : Nat → Array Value) (A : Option Addr) (n g : Nat), v = .slice A n n ∧ n ≤ 2 ∧ B ≤ g ∧
    (0 < n → A = some ⟨g, 0, none⟩ ∧ Blk W g 57 (cs 0)) ∧
    (∀ k, k < n → ∃ u5 u9 : Value, (cs k)[k * 14 + 5]? = some u5 ∧ ((cs k).setIfInBounds (k * 14 + 5) (.string dl))[k * 14 + 9]? = some u9 ∧ cs (k + 1) = ((cs k).setIfInBounds (k * 14 + 5) (.string dl)).setIfInBounds (k * 14 + 9) (.int .i64 dy)) ∧
    (∀ W', (0 < n → Blk W' g 57 (cs n)) → Fr (fun j => j = g) W W' → OlAt W' B v dl dy xs) := by
  rcases h with ⟨rfl, rfl⟩ | ⟨g, x, D, rfl, rfl, h3, h4, h5⟩ | ⟨g, x, y, rfl, rfl, h3, h4, h5, h6⟩
  · exact ⟨fun _ => #[], none, 0, W.heap.size, rfl, by omega, hB, fun h => absurd h (by omega), fun k h => absurd h (by omega), fun W' _ _ => .inl ⟨rfl, rfl⟩⟩
  · refine ⟨fun k => if k = 0 then (olC ⟨#[]⟩ 0 x D).toArray else (olC dl dy x D).toArray, some ⟨g, 0, none⟩, 1, g, rfl, by omega, h3, fun _ => ⟨rfl, h4⟩, fun k hk => ?_, fun W' hb hf => ?_⟩
    · obtain rfl : k = 0 := by omega
      refine ⟨_, _, rfl, rfl, ?_⟩
      simp [olC]
    · refine .inr (.inl ⟨g, x, D, rfl, rfl, h3, hb (by omega), h5.fr hf (fun k _ hk => by omega)⟩)
  · refine ⟨fun k => if k = 0 then (olC ⟨#[]⟩ 0 x (.slice none 0 0) ++ olC ⟨#[]⟩ 0 y (.slice none 0 0)).toArray else if k = 1 then (olC dl dy x (.slice none 0 0) ++ olC ⟨#[]⟩ 0 y (.slice none 0 0)).toArray else (olC dl dy x (.slice none 0 0) ++ olC dl dy y (.slice none 0 0)).toArray, some ⟨g, 0, none⟩, 2, g, rfl, by omega, h3, fun _ => ⟨rfl, h4⟩, fun k hk => ?_, fun W' hb hf => .inr (.inr ⟨g, x, y, rfl, rfl, h3, hb (by omega), h5, h6⟩)⟩
    rcases (show k = 0 ∨ k = 1 by omega) with rfl | rfl
    · refine ⟨_, _, rfl, rfl, ?_⟩
      simp [olC]
    · refine ⟨_, _, rfl, rfl, ?_⟩
      simp [olC]
theorem zero_de (u : World) : (zeroValue 74).run Tryz.prog u = .ok (.pointer none) u := by kernel_rfl
theorem wpList_callv {P : Program} {ops : Array Oper} {rest : List Oper} {o : Oper} {a : Act} {w : World} {Q : Exit → Act → World → Prop} (hg : o.guard = none) (x : Operand) (xs : Array Operand) (ts : Array TypeId)
    (ho : o.op = .call { callee := .value x, args := xs, argTypes := ts }) (f : FuncId) (hx : a.eval x = fnV f) (he : ∀ args w, (callFunc f args).run P w = .ok (.enter f args) w) (args : Array Value) (hxs : xs.map a.eval = args)
    (h : Calls P f args w fun e w' => ∃ v, e = .returned v ∧ wpList P ops Q rest (a.put o.dst v) w') : wpList P ops Q (o :: rest) a w := by
  refine wpList_plain hg fun K hK => ?_
  unfold Oper.wp execOp
  simp only [ho]
  have hx' : a.eval x = .func (.func f) #[] #[] := hx
  simp [resolve, invoke, hx', Deferred.ofValue, he]
  have hxs' : Array.map a.eval xs = args := hxs
  show Oper.upon P o a K Q (.ok (.enter f (Array.map a.eval xs)) w)
  rw [hxs', Oper.upon_enter]
  refine h.mono ?_
  rintro e w' ⟨v, rfl, hk⟩
  exact hK _ _ hk
theorem nil_nilT (w : World) : (binOp .eql 96 .nilFunc .nilFunc).run Tryz.prog w = .ok (.bool true) w := by kernel_rfl
theorem nil_fT (f : FuncId) (w : World) : (binOp .eql 96 (fnV f) .nilFunc).run Tryz.prog w = .ok (.bool false) w := by kernel_rfl
theorem nil_gT (f : FuncId) (x y : Operand) (w : World) : (eqGuard .eql 96 x y (fnV f) .nilFunc).run Tryz.prog w = .ok () w := by kernel_rfl
theorem take_no {kind : Int} {bank : ByteArray} {d : Dl} {s : St} {l : Lt} (h : fOf true true true kind l.kind = none) : takeV kind bank d s l = ([], s) := by
  unfold fOf at h
  simp only [true_and] at h
  unfold takeV
  by_cases h1 : kind = 4 ∧ l.kind = 6
  · rw [if_pos h1] at h; cases h
  · rw [if_neg h1] at h
    by_cases h2 : kind = 3 ∧ l.kind = 18
    · rw [if_pos h2] at h; cases h
    · rw [if_neg h2] at h
      by_cases h3 : kind = 3 ∧ l.kind = 15
      · rw [if_pos h3] at h; cases h
      · rw [if_neg h3, if_neg h2, if_neg h1]
def WmV (B : Nat) : Value → World → Prop := fun v W => ∃ g, v = .map (some g) ∧ WM W g (fOf true true true)
theorem stab_wmv (B : Nat) : Stab (WmV B) := fun _ _ _ ⟨g, h1, h2⟩ hb => ⟨g, h1, h2.below hb⟩
/-- Who is called, and what it brings. -/
theorem does_any {kind : Int} {bank : ByteArray} {d : Dl} {s : St} {l : Lt} {f : FuncId} {o p : Nat} {A : Option Addr} {nb c : Nat} {w : World} (h : fOf true true true kind l.kind = some f)
    (hD : DeAt w p d (.slice A nb c) s) (ho : d.ok) (hs : s.ok) (hl : I64 l.amt) (hb : w.cell? ⟨o, 1, none⟩ = some (.string bank)) (ht : ∀ W, Fr (fun k => k = p) w W → PowTab W) :
    Calls Tryz.prog f #[(.pointer (some ⟨o, 0, none⟩)), (.pointer (some ⟨p, 0, none⟩)), .agg #[.string l.fr, .string l.to, .int .i64 l.num, .int .i64 l.kind, .int .i64 l.ack, .string l.deal, .string l.text, .string l.party, .int .i64 l.idx, .int .i64 l.day, .string l.cur, .int .i64 l.amt, .slice l.A1 l.n1 l.c1, .slice l.A2 l.n2 l.c2]] w (DoP w p d A nb c (takeV kind bank d s l)) ∧ ∀ args w, (callFunc f args).run Tryz.prog w = .ok (.enter f args) w := by
  unfold fOf at h
  simp only [true_and] at h
  unfold takeV
  by_cases h1 : kind = 4 ∧ l.kind = 6
  · rw [if_pos h1] at h
    injection h with h
    subst h
    rw [if_neg (by omega), if_neg (by omega), if_pos h1]
    exact ⟨cov_any _ p d A nb c s l w hD ho ht, enters_fn Tryz.func46 (by kernel_rfl) rfl⟩
  · rw [if_neg h1] at h
    by_cases h2 : kind = 3 ∧ l.kind = 18
    · rw [if_pos h2] at h
      injection h with h
      subst h
      rw [if_neg (by omega), if_pos h2]
      exact ⟨cred_any o p bank d A nb c s l w hD ho hs hl hb, enters_fn Tryz.func45 (by kernel_rfl) rfl⟩
    · rw [if_neg h2] at h
      by_cases h3 : kind = 3 ∧ l.kind = 15
      · rw [if_pos h3] at h
        injection h with h
        subst h
        rw [if_pos h3]
        exact ⟨decl_any _ p d A nb c s l w hD ho, enters_fn Tryz.func44 (by kernel_rfl) rfl⟩
      · rw [if_neg h3] at h; cases h
set_option maxRecDepth 100000 in
set_option maxHeartbeats 12800000 in
theorem take_any (lo hi o mb n : Nat) (nm bank : ByteArray) (kind : Int) (m : ByteArray → Option Nat) (ds : ByteArray → Option Dl) (st : ByteArray → St) (l : Lt) (dy : Int) (w : World) (h : Off w lo hi o nm bank kind mb n m ds st) (hl : I64 l.amt) (hhi : hi ≤ w.heap.size) (ht : ∀ W, Fr (fun k => lo ≤ k ∧ k < hi) w W → PowTab W) :
    Calls Tryz.prog 15 #[(.pointer (some ⟨o, 0, none⟩)), .agg #[.string l.fr, .string l.to, .int .i64 l.num, .int .i64 l.kind, .int .i64 l.ack, .string l.deal, .string l.text, .string l.party, .int .i64 l.idx, .int .i64 l.day, .string l.cur, .int .i64 l.amt, .slice l.A1 l.n1 l.c1, .slice l.A2 l.n2 l.c2], .int .i64 dy] w (TakP w lo hi o mb n nm bank kind m ds st l dy) := by
  have HZ := Lib.hid h
  have HL := Lib.hid hl
  have HT := Lib.hid ht
  have hB : Below w.heap.size w (w.alloc (.cells #[.string l.fr, .string l.to, .int .i64 l.num, .int .i64 l.kind, .int .i64 l.ack, .string l.deal, .string l.text, .string l.party, .int .i64 l.idx, .int .i64 l.day, .string l.cur, .int .i64 l.amt, .slice l.A1 l.n1 l.c1, .slice l.A2 l.n2 l.c2] 57)) := one_alloc _ _
  have hk : Blk (w.alloc (.cells #[.string l.fr, .string l.to, .int .i64 l.num, .int .i64 l.kind, .int .i64 l.ack, .string l.deal, .string l.text, .string l.party, .int .i64 l.idx, .int .i64 l.day, .string l.cur, .int .i64 l.amt, .slice l.A1 l.n1 l.c1, .slice l.A2 l.n2 l.c2] 57)) w.heap.size 57 #[.string l.fr, .string l.to, .int .i64 l.num, .int .i64 l.kind, .int .i64 l.ack, .string l.deal, .string l.text, .string l.party, .int .i64 l.idx, .int .i64 l.day, .string l.cur, .int .i64 l.amt, .slice l.A1 l.n1 l.c1, .slice l.A2 l.n2 l.c2] := Blk.new _ _ _
  have HOF := Lib.hid (h.below hB)
  have HB := Lib.hid hB
  have HHI := Lib.hid hhi
  clear h hl ht hB hhi
  go_enter Tryz.func15, Tryz.ntmps15
  go_upto_region 1 with (fail)
  obtain ⟨w1, hw1⟩ : ∃ W, w.alloc (.cells #[.string l.fr, .string l.to, .int .i64 l.num, .int .i64 l.kind, .int .i64 l.ack, .string l.deal, .string l.text, .string l.party, .int .i64 l.idx, .int .i64 l.day, .string l.cur, .int .i64 l.amt, .slice l.A1 l.n1 l.c1, .slice l.A2 l.n2 l.c2] 57) = W := ⟨_, rfl⟩
  rw [hw1] at HOF hk HB ⊢
  clear hw1
  obtain ⟨gl, hgl⟩ : ∃ g, w.heap.size = g := ⟨_, rfl⟩
  have HG := Lib.hid hgl
  rw [hgl] at hk
  simp only [hgl]
  clear hgl
  have HK := Lib.hid hk
  have c3 := HOF.out.blk.cell 3; have a5 := hk.cell 5
  simp only [List.getElem?_toArray, List.getElem?_cons_zero, List.getElem?_cons_succ] at c3 a5
  obtain ⟨pv, hpv⟩ : ∃ v, ((m l.deal).map ptC).getD (.pointer none) = v := ⟨_, rfl⟩
  obtain ⟨pb, hpb⟩ : ∃ v, (m l.deal).isSome = v := ⟨_, rfl⟩
  have HLK : Hid (∀ W, Below w1.heap.size w1 W → (Instr.lookup 73 (.map (some mb)) (.string l.deal) true).run Tryz.prog W = .ok (.tuple #[pv, .bool pb]) W) := Lib.hid (fun W hW => by
    have hlk := (HOF.out.map.below hW HOF.out.map.lt).look keyStr (P := Tryz.prog) (mty := 73) Tryz.underlying73 Tryz.underlying9 _ zero_de l.deal true
    simp only [if_true] at hlk
    rw [hpv, hpb] at hlk
    exact hlk)
  have HPV := Lib.hid hpv
  have HPB := Lib.hid hpb
  have HOB : Hid (Blk w1 o 76 #[.string nm, .string bank, .int .i64 kind, .map (some mb)]) := Lib.hid HOF.out.blk
  clear hk hpv hpb c3 a5
  obtain ⟨dv, hdv⟩ : ∃ v, ((fOf true true true kind l.kind).map fnV).getD .nilFunc = v := ⟨_, rfl⟩
  have HDV := Lib.hid hdv
  clear hdv
  refine wp_region_soft [Is (.pointer (some ⟨o, 0, none⟩)), Is (.pointer (some ⟨o, 0, none⟩)), Is (.pointer (some ⟨o, 3, none⟩)), Is (.map (some mb)), Is (.pointer (some ⟨gl, 5, none⟩)), Is (.string l.deal), Is (.tuple #[pv, .bool pb]), Is (.tuple #[pv, .bool pb]), Is (pv), Is (.bool pb), Is (pv), Is (.bool pb)] ⟨stab_is _, stab_is _, stab_is _, stab_is _, stab_is _, stab_is _, stab_is _, stab_is _, stab_is _, stab_is _, stab_is _, stab_is _, trivial⟩ (by kernel_rfl) (by kernel_rfl) ?_ ?_
  · refine ⟨?_, ?_, ?_, ?_, ?_, ?_, ?_, ?_, ?_, ?_, ?_, ?_, trivial⟩
    all_goals intro done vs ac W1 hdep hB hR hE
    all_goals have ec : ∀ v : Value, ac.eval (.const v) = v := fun _ => rfl
    all_goals try simp [Region.binds] at hdep
    · have e0 : ac.eval (.tmp 0) = .pointer (some ⟨o, 0, none⟩) := (hE 0 (by simp)).trans (by simp [evF, Act.eval])
      exact soft_value (.pointer (some ⟨o, 0, none⟩)) (by unfold execOp; simp only [e0, ec]; rfl) rfl
    · have d0 : vs 0 = .pointer (some ⟨o, 0, none⟩) := hR 0 (by simp [hdep])
      have e13 : ac.eval (.tmp 13) = .pointer (some ⟨o, 0, none⟩) := (hE 13 (by simp)).trans (by simp [evF, hdep, d0])
      exact soft_value (.pointer (some ⟨o, 0, none⟩)) (by unfold execOp; simp only [e13]; go_simp) rfl
    · have d1 : vs 1 = .pointer (some ⟨o, 0, none⟩) := hR 1 (by simp [hdep])
      have e14 : ac.eval (.tmp 14) = .pointer (some ⟨o, 0, none⟩) := (hE 14 (by simp)).trans (by simp [evF, hdep, d1])
      exact soft_value (.pointer (some ⟨o, 3, none⟩)) (by unfold execOp; simp only [e14]; kernel_rfl) rfl
    · have d2 : vs 2 = .pointer (some ⟨o, 3, none⟩) := hR 2 (by simp [hdep])
      have e15 : ac.eval (.tmp 15) = .pointer (some ⟨o, 3, none⟩) := (hE 15 (by simp)).trans (by simp [evF, hdep, d2])
      have hc3 : W1.cell? ⟨o, 3, none⟩ = some (.map (some mb)) := (HOB.out.below hB HOB.out.lt).cell 3
      exact soft_value (.map (some mb)) (by unfold execOp; simp only [e15]; go_simp) rfl
    · have e4 : ac.eval (.tmp 4) = .pointer (some ⟨gl, 0, none⟩) := (hE 4 (by simp)).trans (by simp [evF, Act.eval])
      exact soft_value (.pointer (some ⟨gl, 5, none⟩)) (by unfold execOp; simp only [e4]; kernel_rfl) rfl
    · have d4 : vs 4 = .pointer (some ⟨gl, 5, none⟩) := hR 4 (by simp [hdep])
      have e17 : ac.eval (.tmp 17) = .pointer (some ⟨gl, 5, none⟩) := (hE 17 (by simp)).trans (by simp [evF, hdep, d4])
      have hc5 : W1.cell? ⟨gl, 5, none⟩ = some (.string l.deal) := (HK.out.below hB HK.out.lt).cell 5
      exact soft_value (.string l.deal) (by unfold execOp; simp only [e17]; go_simp) rfl
    · have d3 : vs 3 = .map (some mb) := hR 3 (by simp [hdep])
      have e16 : ac.eval (.tmp 16) = .map (some mb) := (hE 16 (by simp)).trans (by simp [evF, hdep, d3])
      have d5 : vs 5 = .string l.deal := hR 5 (by simp [hdep])
      have e18 : ac.eval (.tmp 18) = .string l.deal := (hE 18 (by simp)).trans (by simp [evF, hdep, d5])
      exact wp_look2 (.tmp 16) (.tmp 18) 73 true rfl _ _ (.tuple #[pv, .bool pb]) e16 e18 (HLK.out W1 hB) ⟨_, rfl, Below.refl _ _, rfl⟩
    · have d6 : vs 6 = .tuple #[pv, .bool pb] := hR 6 (by simp [hdep])
      have e19 : ac.eval (.tmp 19) = .tuple #[pv, .bool pb] := (hE 19 (by simp)).trans (by simp [evF, hdep, d6])
      exact soft_value (.tuple #[pv, .bool pb]) (by unfold execOp; simp only [e19, ec]; rfl) rfl
    · have d7 : vs 7 = .tuple #[pv, .bool pb] := hR 7 (by simp [hdep])
      have e12 : ac.eval (.tmp 12) = .tuple #[pv, .bool pb] := (hE 12 (by simp)).trans (by simp [evF, hdep, d7])
      exact soft_value (pv) (by unfold execOp; simp only [e12]; first | rfl | go_simp) rfl
    · have d7 : vs 7 = .tuple #[pv, .bool pb] := hR 7 (by simp [hdep])
      have e12 : ac.eval (.tmp 12) = .tuple #[pv, .bool pb] := (hE 12 (by simp)).trans (by simp [evF, hdep, d7])
      exact soft_value (.bool pb) (by unfold execOp; simp only [e12]; first | rfl | go_simp) rfl
    · have d8 : vs 8 = pv := hR 8 (by simp [hdep])
      have e20 : ac.eval (.tmp 20) = pv := (hE 20 (by simp)).trans (by simp [evF, hdep, d8])
      exact soft_value (pv) (by unfold execOp; simp only [e20, ec]; rfl) rfl
    · have d9 : vs 9 = .bool pb := hR 9 (by simp [hdep])
      have e21 : ac.eval (.tmp 21) = .bool pb := (hE 21 (by simp)).trans (by simp [evF, hdep, d9])
      exact soft_value (.bool pb) (by unfold execOp; simp only [e21, ec]; rfl) rfl
  · intro vs W hB hR
    have r10 : vs 10 = pv := hR 10 (by simp)
    have r11 : vs 11 = .bool pb := hR 11 (by simp)
    have HB1 := Lib.hid (HB.out.trans (hB.mono HB.out.size))
    have HO1 := Lib.hid (HOB.out.below hB HOB.out.lt)
    have HK1 := Lib.hid (HK.out.below hB HK.out.lt)
    clear hR hB HOF HOB HK HB
    simp only [fillA, Act.put, List.setIfInBounds_toArray, List.set_cons_zero, List.set_cons_succ, if_true, r10, r11]
    go_upto_region 2 with (fail)
    try simp only [Act.put, List.setIfInBounds_toArray, List.set_cons_zero, List.set_cons_succ]
    refine wp_region_soft [WmV W.heap.size, Is (.pointer (some ⟨o, 0, none⟩)), Is (.pointer (some ⟨o, 0, none⟩)), Is (.pointer (some ⟨o, 2, none⟩)), Is (.int .i64 kind), Is (.pointer (some ⟨gl, 3, none⟩)), Is (.int .i64 l.kind), Is (.agg #[.int .i64 kind, .int .i64 l.kind]), Is (dv), Is (dv)] ⟨stab_wmv _, stab_is _, stab_is _, stab_is _, stab_is _, stab_is _, stab_is _, stab_is _, stab_is _, stab_is _, trivial⟩ (by kernel_rfl) (by kernel_rfl) ?_ ?_
    · refine ⟨?_, ?_, ?_, ?_, ?_, ?_, ?_, ?_, ?_, ?_, trivial⟩
      all_goals intro done vs ac W1 hdep hB hR hE
      all_goals have ec : ∀ v : Value, ac.eval (.const v) = v := fun _ => rfl
      all_goals try simp [Region.binds] at hdep
      · refine soft_call 30 _ _ rfl (enters_fn Tryz.func30 (by kernel_rfl) rfl) #[] (by simp [ec]) ?_
        refine (letters_any W1).mono ?_
        rintro e9 w9 ⟨g9, rfl, hl9, hm9, hb9⟩
        exact ⟨_, rfl, hb9, ⟨g9, rfl, hm9⟩⟩
      · have e0 : ac.eval (.tmp 0) = .pointer (some ⟨o, 0, none⟩) := (hE 0 (by simp)).trans (by simp [evF, Act.eval])
        exact soft_value (.pointer (some ⟨o, 0, none⟩)) (by unfold execOp; simp only [e0, ec]; rfl) rfl
      · have d1 : vs 1 = .pointer (some ⟨o, 0, none⟩) := hR 1 (by simp [hdep])
        have e23 : ac.eval (.tmp 23) = .pointer (some ⟨o, 0, none⟩) := (hE 23 (by simp)).trans (by simp [evF, hdep, d1])
        exact soft_value (.pointer (some ⟨o, 0, none⟩)) (by unfold execOp; simp only [e23]; go_simp) rfl
      · have d2 : vs 2 = .pointer (some ⟨o, 0, none⟩) := hR 2 (by simp [hdep])
        have e24 : ac.eval (.tmp 24) = .pointer (some ⟨o, 0, none⟩) := (hE 24 (by simp)).trans (by simp [evF, hdep, d2])
        exact soft_value (.pointer (some ⟨o, 2, none⟩)) (by unfold execOp; simp only [e24]; kernel_rfl) rfl
      · have d3 : vs 3 = .pointer (some ⟨o, 2, none⟩) := hR 3 (by simp [hdep])
        have e25 : ac.eval (.tmp 25) = .pointer (some ⟨o, 2, none⟩) := (hE 25 (by simp)).trans (by simp [evF, hdep, d3])
        have hc2 : W1.cell? ⟨o, 2, none⟩ = some (.int .i64 kind) := (HO1.out.below hB HO1.out.lt).cell 2
        exact soft_value (.int .i64 kind) (by unfold execOp; simp only [e25]; go_simp) rfl
      · have e4 : ac.eval (.tmp 4) = .pointer (some ⟨gl, 0, none⟩) := (hE 4 (by simp)).trans (by simp [evF, Act.eval])
        exact soft_value (.pointer (some ⟨gl, 3, none⟩)) (by unfold execOp; simp only [e4]; kernel_rfl) rfl
      · have d5 : vs 5 = .pointer (some ⟨gl, 3, none⟩) := hR 5 (by simp [hdep])
        have e27 : ac.eval (.tmp 27) = .pointer (some ⟨gl, 3, none⟩) := (hE 27 (by simp)).trans (by simp [evF, hdep, d5])
        have hc3 : W1.cell? ⟨gl, 3, none⟩ = some (.int .i64 l.kind) := (HK1.out.below hB HK1.out.lt).cell 3
        exact soft_value (.int .i64 l.kind) (by unfold execOp; simp only [e27]; go_simp) rfl
      · have d4 : vs 4 = .int .i64 kind := hR 4 (by simp [hdep])
        have e26 : ac.eval (.tmp 26) = .int .i64 kind := (hE 26 (by simp)).trans (by simp [evF, hdep, d4])
        have d6 : vs 6 = .int .i64 l.kind := hR 6 (by simp [hdep])
        have e28 : ac.eval (.tmp 28) = .int .i64 l.kind := (hE 28 (by simp)).trans (by simp [evF, hdep, d6])
        exact soft_value (.agg #[.int .i64 kind, .int .i64 l.kind]) (by simp [execOp, e26, e28, ec, wbuild, Result.andThen]) rfl
      · obtain ⟨g0, d0, m0⟩ := (show (WmV W.heap.size) (vs 0) W1 from hR 0 (by simp [hdep]))
        have e22 : ac.eval (.tmp 22) = .map (some g0) := (hE 22 (by simp)).trans (by simp [evF, hdep, d0])
        have d7 : vs 7 = .agg #[.int .i64 kind, .int .i64 l.kind] := hR 7 (by simp [hdep])
        have e29 : ac.eval (.tmp 29) = .agg #[.int .i64 kind, .int .i64 l.kind] := (hE 29 (by simp)).trans (by simp [evF, hdep, d7])
        have hlk := m0.look kind l.kind
        rw [HDV.out] at hlk
        exact wp_look2 (.tmp 22) (.tmp 29) 97 false rfl _ _ dv e22 e29 hlk ⟨_, rfl, Below.refl _ _, rfl⟩
      · have d8 : vs 8 = dv := hR 8 (by simp [hdep])
        have e30 : ac.eval (.tmp 30) = dv := (hE 30 (by simp)).trans (by simp [evF, hdep, d8])
        exact soft_value (dv) (by unfold execOp; simp only [e30, ec]; rfl) rfl
    · intro vs W2 hB hR
      have r9 : vs 9 = dv := hR 9 (by simp)
      have HB2 := Lib.hid (HB1.out.trans (hB.mono HB1.out.size))
      have HK2 := Lib.hid (HK1.out.below hB HK1.out.lt)
      have HO2 := Lib.hid (HZ.out.below HB2.out)
      clear hR hB HO1 HK1 HB1
      simp only [fillA, Act.put, List.setIfInBounds_toArray, List.set_cons_zero, List.set_cons_succ, if_true, r9]
      clear HLK
      cases hmp : m l.deal with
      | none =>
        have hp1 := HPV.out; have hp2 := HPB.out
        rw [hmp] at hp1 hp2
        simp only [Option.map_none, Option.getD_none, Option.isSome_none] at hp1 hp2
        subst hp1 hp2
        have HN : Hid (outV kind bank (ds l.deal) (st l.deal) l = ([], st l.deal)) := Lib.hid (by rw [HZ.out.none_ _ hmp]; rfl)
        clear hmp HPV HPB
        go_wp2_with fail
        go_ret
        exact TakP.none_ HZ.out HB2.out HN.out
      | some p =>
        obtain ⟨d, bx, A, nb, c, hd, rfl, hDe, hnum, hok⟩ := HO2.out.deal _ _ hmp
        have hp1 := HPV.out; have hp2 := HPB.out
        rw [hmp] at hp1 hp2
        simp only [Option.map_some, Option.getD_some, Option.isSome_some, ptC] at hp1 hp2
        subst hp1 hp2
        have HMP := Lib.hid hmp
        have HDD := Lib.hid hd
        clear hmp HPV HPB
        cases hf : fOf true true true kind l.kind with
        | none =>
          have hv := HDV.out
          rw [hf] at hv
          simp only [Option.map_none, Option.getD_none] at hv
          subst hv
          have HN : Hid (outV kind bank (ds l.deal) (st l.deal) l = ([], st l.deal)) := Lib.hid (by rw [hd]; exact take_no hf)
          have hnn := nil_nilT W2
          clear hf hd hDe HDV
          go_wp2_with fail
          go_ret
          exact TakP.none_ HZ.out HB2.out HN.out
        | some f =>
          have hv := HDV.out
          rw [hf] at hv
          simp only [Option.map_some, Option.getD_some, fnV] at hv
          subst hv
          have HPIN := Lib.hid (HO2.out.inp _ _ HMP.out)
          have hb1 := HO2.out.blk.cell 1
          simp only [List.getElem?_toArray, List.getElem?_cons_zero, List.getElem?_cons_succ] at hb1
          obtain ⟨hc1, hc2⟩ := does_any (o := o) (bank := bank) (l := l) hf hDe hok (HO2.out.sok l.deal) HL.out hb1 (fun W hW => HT.out W ((Fr.of_below HB2.out (Nat.le_refl _)).trans (S' := fun k => k = p) hW (fun k e => .inl (e ▸ HPIN.out))))
          have HC1 := Lib.hid hc1
          have HC2 := Lib.hid hc2
          obtain ⟨R, hR⟩ : ∃ R, takeV kind bank d (st l.deal) l = R := ⟨_, rfl⟩
          rw [hR] at HC1
          have HR : Hid (outV kind bank (ds l.deal) (st l.deal) l = R) := Lib.hid (by rw [hd]; exact hR)
          have HRok : Hid (R.2.ok) := Lib.hid (by rw [← hR]; exact take_ok (HZ.out.sok _))
          have HNUM := Lib.hid hnum
          have hnf := nil_fT f W2
          have hng := fun x y => nil_gT f x y W2
          have hc3 := hc2
          simp only [fnV] at hnf hng
          clear hf hd hDe HDV hc1 hc2 hR hnum hb1 hok
          go_wp2_with ((refine stop_load 57 _ rfl ?_; refine wpList_load_want rfl 57 _ rfl gl rfl 57 _ _ HK2.out Tryz.underlying57 rfl (by kernel_rfl) ?_))
          refine HC1.out.mono ?_
          rintro e w3 ⟨v, rfl, hv3, hd3, hf3⟩
          obtain ⟨cs, A3, n3, g3, rfl, hn3, hg3, ha3, hs3, he3⟩ := hv3.stamps l.deal dy hf3.size
          have HF3 := Lib.hid hf3; have HD3 := Lib.hid hd3; have HE3 := Lib.hid he3; have HS3 := Lib.hid hs3; have HA3 := Lib.hid ha3; have HG3 := Lib.hid hg3
          clear hv3 hd3 hf3 he3 hs3 ha3 hg3 hc3 hnf hng
          go_wp2_with fail
          go_loopw [44] (fun i wr => ∃ k : Nat, k ≤ n3 ∧ i = .int .i64 k ∧ Hid (0 < n3 → Blk wr g3 57 (cs k)) ∧ Hid (Fr (fun j => j = g3) w3 wr)) (fun i _ => n3 - (intOf i).toNat)
          case atStart => exact ⟨0, by omega, rfl, Lib.hid (fun h => (HA3.out h).2), Lib.hid (Fr.refl _ _)⟩
          case round =>
            obtain ⟨k, hk, rfl, hbk, hfr⟩ := hrel
            by_cases hlt : k < n3
            · have hA := (HA3.out (by omega)).1
              subst hA
              have hb := hbk.out (by omega)
              obtain ⟨u5, u9, hu5, hu9, hcs⟩ := HS3.out k hlt
              have k5 : wr.cell? ⟨g3, k * 14 + 5, none⟩ = some u5 := by rw [hb.cell]; exact hu5
              have f5 := hb.frozen (k * 14 + 5)
              have hb2 : Blk (wr.setCell ⟨g3, k * 14 + 5, none⟩ (.string l.deal)) g3 57 _ := hb.set_ (k * 14 + 5) (.string l.deal)
              have k9 : (wr.setCell ⟨g3, k * 14 + 5, none⟩ (.string l.deal)).cell? ⟨g3, k * 14 + 9, none⟩ = some u9 := by rw [hb2.cell]; exact hu9
              have f9 := hb2.frozen (k * 14 + 9)
              have HBn : Hid (0 < n3 → Blk ((wr.setCell ⟨g3, k * 14 + 5, none⟩ (.string l.deal)).setCell ⟨g3, k * 14 + 9, none⟩ (.int .i64 dy)) g3 57 (cs (k + 1))) := Lib.hid (fun _ => by rw [hcs]; exact hb2.set_ (k * 14 + 9) (.int .i64 dy))
              have HFn : Hid (Fr (fun j => j = g3) w3 ((wr.setCell ⟨g3, k * 14 + 5, none⟩ (.string l.deal)).setCell ⟨g3, k * 14 + 9, none⟩ (.int .i64 dy))) := Lib.hid ((hfr.out.setCell (p := ⟨g3, k * 14 + 5, none⟩) (.inl rfl) _).setCell (p := ⟨g3, k * 14 + 9, none⟩) (.inl rfl) _)
              have hne : p ≠ g3 := by
                have h1 := HD3.out.ne_ (HA3.out (by omega)).2 (by decide)
                exact h1
              have hdn := (HD3.out.fr hfr.out hne).cell 0
              simp only [List.getElem?_toArray, List.getElem?_cons_zero] at hdn
              rw [HNUM.out] at hdn
              have i0 : (k : Int) < (n3 : Int) := by omega
              clear hb hu5 hu9 hcs hb2 hbk hfr hne
              go_wp2_with fail
              go_roundw
              case rel => exact ⟨k + 1, by omega, by go_num, HBn, HFn⟩
              case measure => simp [intOf]; omega
            · have hkn : n3 = k := by omega
              subst hkn
              go_wp2_with fail
              go_ret
              have hfin : Fr (fun j => j = p) w wr := ((Fr.of_below HB2.out (Nat.le_refl _)).trans HF3.out (fun k e => .inl e)).trans (S' := fun j => j = g3) hfr.out (fun k e => .inr (by rw [e]; exact Nat.le_trans HB2.out.size HG3.out))
              have hne : p ≠ g3 := by have h1 := HPIN.out.2; have h2 := HHI.out; have h3 := HB2.out.size; have h4 := HG3.out; omega
              refine ⟨_, rfl, ?_, ?_, hfin.mono (fun k e => e ▸ HPIN.out)⟩
              · rw [HR.out]
                exact (HE3.out wr hbk.out hfr.out).lower HB2.out.size
              · rw [HR.out]
                exact HZ.out.turn HMP.out HDD.out hfin (HD3.out.fr hfr.out hne) HRok.out
end Go.Proofs.YtdanjegnhdpnlaaGreatDoor.kit
