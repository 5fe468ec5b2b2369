/- A deed done to either bill; whether both tell the same. No condition. -/
import Derived.Test.YteannbphaodadaaDgD
import Derived.Test.YteannbphaodadaaDgC0
import Derived.Test.YteannbphaodadaaDgC1
import Derived.Test.YteannbphaodadaaDgC2
import Derived.Test.YteannbphaodadaaDgC3
import Derived.Test.YteannbphaodadaaDfE
import Derived.Test.YteannbphaodadaaDfF
namespace Go.Proofs.Yteannbphaodadaa.kit
open Go.RowKit Go.PlainAid Go.Maps
set_option linter.unusedVariables false

def DoB (g mb : Nat) (b : Bl) (x : De) (w : World) (e : Ending) (w' : World) : Prop :=
  e = .returned (.int .i64 (codeD b x)) ∧ IsBill w' g mb (nextD b x) ∧ Turn g mb w w'
theorem codeD_of {b : Bl} {x : De} (h : 0 ≤ x.call) (h' : x.call ≤ 3) : codeD b x = codeV b x.call x.by_ x.to_ x.day := if_pos ⟨h, h'⟩
theorem nextD_of {b : Bl} {x : De} (h : 0 ≤ x.call) (h' : x.call ≤ 3) : nextD b x = nextV b x.call x.by_ x.to_ x.day := if_pos ⟨h, h'⟩
set_option maxRecDepth 100000 in
set_option maxHeartbeats 1600000 in
theorem do_any (g mb : Nat) (b : Bl) (x : De) (w : World) (hb : IsBill w g mb b) (hx : x.ok) (hlen : b.pas.length < 1000) :
    Calls Try.prog 25 #[(.pointer (some ⟨g, 0, none⟩)), .agg #[.int .i64 x.call, .string x.by_, .string x.to_, .int .i64 x.day]] w (DoB g mb b x w) := by
  obtain ⟨call, s, t, on⟩ := x
  have hs := hx.b
  have ht := hx.t
  have HB := Lib.hid (hb.below (one_alloc w (.cells #[.int .i64 call, .string s, .string t, .int .i64 on] 48)))
  have HT0 := Lib.hid (Turn.of_below (g := g) (mb := mb) (one_alloc w (.cells #[.int .i64 call, .string s, .string t, .int .i64 on] 48)) (Nat.le_of_lt hb.blk.lt))
  clear hb hx
  by_cases h0 : call = 0
  · subst h0
    go_enter Try.func25, Try.ntmps25
    go_wp2_with fail
    refine (accept_any g mb b s t on _ HB.out hs).mono ?_
    rintro e w1 ⟨rfl, hb1, ht1⟩
    have HB1 := Lib.hid hb1
    have HT1 := Lib.hid ht1
    clear hb1 ht1
    go_wp2_with fail
    go_ret
    exact ⟨ret_int (codeD_of (x := ⟨0, s, t, on⟩) (by show (0 : Int) ≤ 0; omega) (by show (0 : Int) ≤ 3; omega)).symm, by rw [nextD_of (x := ⟨0, s, t, on⟩) (by show (0 : Int) ≤ 0; omega) (by show (0 : Int) ≤ 3; omega)]; exact HB1.out, HT0.out.trans HT1.out⟩
  by_cases h1 : call = 1
  · subst h1
    go_enter Try.func25, Try.ntmps25
    go_wp2_with fail
    refine (pass_any g mb b s t on _ HB.out hs ht hlen).mono ?_
    rintro e w1 ⟨rfl, hb1, ht1⟩
    have HB1 := Lib.hid hb1
    have HT1 := Lib.hid ht1
    clear hb1 ht1
    go_wp2_with fail
    go_ret
    exact ⟨ret_int (codeD_of (x := ⟨1, s, t, on⟩) (by show (0 : Int) ≤ 1; omega) (by show (1 : Int) ≤ 3; omega)).symm, by rw [nextD_of (x := ⟨1, s, t, on⟩) (by show (0 : Int) ≤ 1; omega) (by show (1 : Int) ≤ 3; omega)]; exact HB1.out, HT0.out.trans HT1.out⟩
  by_cases h2 : call = 2
  · subst h2
    go_enter Try.func25, Try.ntmps25
    go_wp2_with fail
    refine (pay_any g mb b s t on _ HB.out hs).mono ?_
    rintro e w1 ⟨rfl, hb1, ht1⟩
    have HB1 := Lib.hid hb1
    have HT1 := Lib.hid ht1
    clear hb1 ht1
    go_wp2_with fail
    go_ret
    exact ⟨ret_int (codeD_of (x := ⟨2, s, t, on⟩) (by show (0 : Int) ≤ 2; omega) (by show (2 : Int) ≤ 3; omega)).symm, by rw [nextD_of (x := ⟨2, s, t, on⟩) (by show (0 : Int) ≤ 2; omega) (by show (2 : Int) ≤ 3; omega)]; exact HB1.out, HT0.out.trans HT1.out⟩
  by_cases h3 : call = 3
  · subst h3
    go_enter Try.func25, Try.ntmps25
    go_wp2_with fail
    refine (protest_any g mb b s t on _ HB.out hs).mono ?_
    rintro e w1 ⟨rfl, hb1, ht1⟩
    have HB1 := Lib.hid hb1
    have HT1 := Lib.hid ht1
    clear hb1 ht1
    go_wp2_with fail
    go_ret
    exact ⟨ret_int (codeD_of (x := ⟨3, s, t, on⟩) (by show (0 : Int) ≤ 3; omega) (by show (3 : Int) ≤ 3; omega)).symm, by rw [nextD_of (x := ⟨3, s, t, on⟩) (by show (0 : Int) ≤ 3; omega) (by show (3 : Int) ≤ 3; omega)]; exact HB1.out, HT0.out.trans HT1.out⟩
  have d0 : (call == 0) = false := by simpa using h0
  have d1 : (call == 1) = false := by simpa using h1
  have d2 : (call == 2) = false := by simpa using h2
  have d3 : (call == 3) = false := by simpa using h3
  have e1 : codeD b ⟨call, s, t, on⟩ = -1 := if_neg (fun h => by have := h.1; have := h.2; simp only at *; omega)
  have e2 : nextD b ⟨call, s, t, on⟩ = b := if_neg (fun h => by have := h.1; have := h.2; simp only at *; omega)
  have E1 := Lib.hid e1
  have E2 := Lib.hid e2
  clear h0 h1 h2 h3 e1 e2
  go_enter Try.func25, Try.ntmps25
  go_wp2_with fail
  go_ret
  exact ⟨ret_int E1.out.symm, by rw [E2.out]; exact HB.out, HT0.out⟩
theorem rdo_any (g : Nat) (A : Option Addr) (n c : Nat) (b : Bl) (x : De) (w : World) (hb : IsRef w g A n c b) (hx : x.ok) (h0 : 0 ≤ x.call) (h3 : x.call ≤ 3) (hlen : b.pas.length < 1000) :
    Calls Try.prog 26 #[(.pointer (some ⟨g, 0, none⟩)), .int .i64 x.call, .string x.by_, .string x.to_, .int .i64 x.day] w (DoPost g A b x.call x.by_ x.to_ x.day w) := by
  have h : x.call = 0 ∨ x.call = 1 ∨ x.call = 2 ∨ x.call = 3 := by omega
  rcases h with h | h | h | h
  · rw [h]; exact rdo0_any g A n c b _ _ _ w hb hx.b hx.t hlen
  · rw [h]; exact rdo1_any g A n c b _ _ _ w hb hx.b hx.t hlen
  · rw [h]; exact rdo2_any g A n c b _ _ _ w hb hx.b hx.t hlen
  · rw [h]; exact rdo3_any g A n c b _ _ _ w hb hx.b hx.t hlen
set_option maxRecDepth 100000 in
set_option maxHeartbeats 3200000 in
theorem even_any (g mb gr : Nat) (A : Option Addr) (n c : Nat) (b : Bl) (w : World) (hb : IsBill w g mb b) (hr : IsRef w gr A n c b) :
    Calls Try.prog 24 #[(.pointer (some ⟨g, 0, none⟩)), (.pointer (some ⟨gr, 0, none⟩))] w fun e w' => e = .returned (.bool true) ∧ Below w.heap.size w w' := by
  have HB := Lib.hid hb
  have HR := Lib.hid (hr.drewN 1)
  have HM : Hid ((liaV b).length ≤ maxLen) := Lib.hid (by have := lia_len b; have := hb.len; unfold maxLen; omega)
  have k9 : w.cell? ⟨gr, 9, none⟩ = some (.int .i64 b.st) := hr.blk.cell 9
  have k11 : w.cell? ⟨gr, 11, none⟩ = some (.string b.hol) := hr.blk.cell 11
  have d1 : (b.st == b.st) = true := by simp
  have d2 : (b.hol.toList == b.hol.toList) = true := by rw [eq_str]; simp
  clear hb hr
  go_enter Try.func24, Try.ntmps24
  go_wp2_with fail
  go_region_held3 (fun x => x.cell? ⟨gr, 9, none⟩ = some (.int .i64 b.st) ∧ x.cell? ⟨gr, 11, none⟩ = some (.string b.hol)) (go_keep)
    (first | (go_at_call 21; (with_reducible refine Calls.mono (state_any g mb b _ HB.out.drew) ?_); rintro e w2 ⟨rfl, rfl⟩) | (go_at_call 17; (with_reducible refine Calls.mono (holder_any g mb b _ HB.out.drew) ?_); rintro e w2 ⟨rfl, rfl⟩) | (go_at_call 19; (with_reducible refine Calls.mono (liable_any g mb b _ HB.out.drew) ?_); rintro e w1 ⟨v, rfl, A1, c1, rfl, hs1, hb1⟩; have q0 := (HR.out.below hb1).blk.cell 9; have q1 := (HR.out.below hb1).blk.cell 11; simp only [List.getElem?_toArray, List.getElem?_cons_zero, List.getElem?_cons_succ] at q0 q1; have HS1 := Lib.hid hs1; have HB1 := Lib.hid hb1; have HR1 := Lib.hid (HR.out.below hb1); clear hs1 hb1) | (go_at_call 44; (with_reducible refine Calls.mono (rliable_any gr A n c b _ HR1.out) ?_); rintro e w2 ⟨v, rfl, A2, c2, rfl, hs2, hb2⟩; have q2 := (HR1.out.below hb2).blk.cell 9; have q3 := (HR1.out.below hb2).blk.cell 11; simp only [List.getElem?_toArray, List.getElem?_cons_zero, List.getElem?_cons_succ] at q2 q3; have HS2 := Lib.hid hs2; have HB2 := Lib.hid (HB1.out.trans (hb2.mono HB1.out.size)); have HR2 := Lib.hid (HR1.out.below hb2); have HS12 := Lib.hid (HS1.out.below hb2); clear hs2 hb2) | (go_at_call 18; (with_reducible refine Calls.mono (texts_any _ _ _ (liaV b) _ _ _ (liaV b) _ HS12.out HS2.out HM.out HM.out) ?_); rw [decide_eq_true (rfl : liaV b = liaV b)]; rintro e w3 ⟨rfl, hb3⟩; have q4 := (HR2.out.below hb3).blk.cell 9; have q5 := (HR2.out.below hb3).blk.cell 11; simp only [List.getElem?_toArray, List.getElem?_cons_zero, List.getElem?_cons_succ] at q4 q5; have HB3 := Lib.hid (HB2.out.trans (hb3.mono HB2.out.size)); clear hb3))
  all_goals
    go_wp2_with fail
    go_ret
    exact ⟨rfl, ⟨HB3.out.os, HB3.out.tape, HB3.out.output, HB3.out.size, HB3.out.block⟩⟩
end Go.Proofs.Yteannbphaodadaa.kit
