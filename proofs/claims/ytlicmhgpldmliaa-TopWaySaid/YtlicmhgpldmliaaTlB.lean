/- An end of a link: what lies in memory, and its small questions. No condition. -/
import Derived.Test.YtlicmhgpldmliaaTlA
namespace Go.Proofs.Ytlicmhgpldmliaa.kit
open Go.RowKit
set_option linter.unusedVariables false

theorem acked_any (s o : ByteArray) (A : Option Addr) (n c : Nat) (sent got sure : Int) (gm g : Nat) (ow : Bool) (w : World) (hk : Blk w g 90 #[.string s, .string o, (.slice A n c), .int .i64 sent, .int .i64 got, .int .i64 sure, .map (some gm), .bool ow]) (h1 : 0 ≤ sent ∧ sent ≤ 1048576) (h2 : n ≤ 4096) :
    Calls Try.prog 34 #[(.pointer (some ⟨g, 0, none⟩))] w fun e w' => e = .returned (.int .i64 (sent - n)) ∧ Below w.heap.size w w' := by
  have q1 : IntKind.i64.wrap (sent - n) = sent - n := IntWalk.i64_in _ (by omega)
  have e0 := hk.cell 0; have e1 := hk.cell 1; have e2 := hk.cell 2; have e3 := hk.cell 3; have e4 := hk.cell 4; have e5 := hk.cell 5; have e6 := hk.cell 6; have e7 := hk.cell 7
  simp only [List.getElem?_toArray, List.getElem?_cons_zero, List.getElem?_cons_succ] at e0 e1 e2 e3 e4 e5 e6 e7
  clear hk
  go_enter Try.func34, Try.ntmps34
  go_wp2_with fail
  go_quiet (fail)
  go_wp2_with fail
  go_ret
  exact ⟨rfl, below_drewN (Below.refl _ _) _⟩
theorem got_any (s o : ByteArray) (v : Value) (sent got sure : Int) (gm g : Nat) (ow : Bool) (w : World) (hk : Blk w g 90 #[.string s, .string o, v, .int .i64 sent, .int .i64 got, .int .i64 sure, .map (some gm), .bool ow]) :
    Calls Try.prog 13 #[(.pointer (some ⟨g, 0, none⟩))] w fun e w' => e = .returned (.int .i64 got) ∧ w = w' := by
  have e0 := hk.cell 0; have e1 := hk.cell 1; have e2 := hk.cell 2; have e3 := hk.cell 3; have e4 := hk.cell 4; have e5 := hk.cell 5; have e6 := hk.cell 6; have e7 := hk.cell 7
  simp only [List.getElem?_toArray, List.getElem?_cons_zero, List.getElem?_cons_succ] at e0 e1 e2 e3 e4 e5 e6 e7
  clear hk
  go_enter Try.func13, Try.ntmps13
  go_wp2_with fail
  go_ret
  exact ⟨rfl, rfl⟩
theorem isOwn_any (s o : ByteArray) (v : Value) (sent got sure : Int) (gm g : Nat) (ow : Bool) (x : Lr) (w : World) (hk : Blk w g 90 #[.string s, .string o, v, .int .i64 sent, .int .i64 got, .int .i64 sure, .map (some gm), .bool ow]) (h1 : x.fr = o) (h2 : x.dst = s) (h3 : 0 ≤ x.ack ∧ x.ack ≤ sent) (h4 : (x.kind = 28 ∧ x.num = 0) ∨ (x.kind ≠ 28 ∧ 1 ≤ x.num)) :
    Calls Try.prog 30 #[(.pointer (some ⟨g, 0, none⟩)), .agg #[.string x.fr, .string x.dst, .int .i64 x.num, .int .i64 x.kind, .int .i64 x.ack, .string ⟨#[]⟩, .string ⟨#[]⟩, .string ⟨#[]⟩, .int .i64 x.idx, .int .i64 0, .string ⟨#[]⟩, .int .i64 0, .slice none 0 0, .slice none 0 0]] w fun e w' => e = .returned (.bool true) ∧ Below w.heap.size w w' := by
  obtain ⟨fr, dst, num, kind, ack, idx⟩ := x
  dsimp only at h1 h2 h3 h4 ⊢
  subst h1 h2
  have hB0 := one_alloc w (.cells #[.string fr, .string dst, .int .i64 num, .int .i64 kind, .int .i64 ack, .string ⟨#[]⟩, .string ⟨#[]⟩, .string ⟨#[]⟩, .int .i64 idx, .int .i64 0, .string ⟨#[]⟩, .int .i64 0, .slice none 0 0, .slice none 0 0] 32)
  have hk0 := hk.alloc (.cells #[.string fr, .string dst, .int .i64 num, .int .i64 kind, .int .i64 ack, .string ⟨#[]⟩, .string ⟨#[]⟩, .string ⟨#[]⟩, .int .i64 idx, .int .i64 0, .string ⟨#[]⟩, .int .i64 0, .slice none 0 0, .slice none 0 0] 32)
  have hl0 := Blk.new w 32 #[.string fr, .string dst, .int .i64 num, .int .i64 kind, .int .i64 ack, .string ⟨#[]⟩, .string ⟨#[]⟩, .string ⟨#[]⟩, .int .i64 idx, .int .i64 0, .string ⟨#[]⟩, .int .i64 0, .slice none 0 0, .slice none 0 0]
  have e0 := hk0.cell 0; have e1 := hk0.cell 1; have e2 := hk0.cell 2; have e3 := hk0.cell 3; have e4 := hk0.cell 4; have e5 := hk0.cell 5; have e6 := hk0.cell 6; have e7 := hk0.cell 7
  simp only [List.getElem?_toArray, List.getElem?_cons_zero, List.getElem?_cons_succ] at e0 e1 e2 e3 e4 e5 e6 e7
  have d0 := hl0.cell 0; have d1 := hl0.cell 1; have d2 := hl0.cell 2; have d3 := hl0.cell 3; have d4 := hl0.cell 4
  simp only [List.getElem?_toArray, List.getElem?_cons_zero, List.getElem?_cons_succ] at d0 d1 d2 d3 d4
  have hlt := hk.lt
  have t0 : (fr.toList == fr.toList) = true := by simp
  have t1 : (dst.toList == dst.toList) = true := by simp
  have t2 : decide (ack < 0) = false := decide_eq_false (by omega)
  have t3 : decide (sent < ack) = false := decide_eq_false (by omega)
  have HB := Lib.hid hB0
  clear hk hk0 hl0 hB0 h3
  rcases h4 with ⟨rfl, rfl⟩ | ⟨hk4, hn4⟩
  · go_enter Try.func30, Try.ntmps30
    go_wp2_with fail
    go_quiet (fail)
    go_wp2_with fail
    go_ret
    exact ⟨rfl, below_drewN HB.out _⟩
  · have t4 : (kind == 28) = false := by simpa using hk4
    have t5 : decide (1 ≤ num) = true := decide_eq_true hn4
    clear hk4 hn4
    go_enter Try.func30, Try.ntmps30
    go_wp2_with fail
    go_quiet (fail)
    go_wp2_with fail
    go_ret
    exact ⟨rfl, below_drewN HB.out _⟩
end Go.Proofs.Ytlicmhgpldmliaa.kit
