/- An office: the paper of a deal's insurance. Condition: the table of powers of ten. -/
import Derived.Test.YtdanjegnhdpnlaaGreatDoorOfF
import Derived.Test.YtdanjegnhdpnlaaGreatDoorOfH
namespace Go.Proofs.YtdanjegnhdpnlaaGreatDoor.kit
open Go.RowKit Go.PlainAid
set_option linter.unusedVariables false
set_option linter.unusedSimpArgs false
theorem bs10 (a0 a1 a2 a3 a4 a5 a6 a7 a8 a9 : ByteArray) (w : World) : (Instr.buildSlice 55 10 #[(0, .string a0), (1, .string a1), (2, .string a2), (3, .string a3), (4, .string a4), (5, .string a5), (6, .string a6), (7, .string a7), (8, .string a8), (9, .string a9)]).run Tryz.prog w = .ok (.slice (some ⟨w.heap.size, 0, none⟩) 10 10) (w.alloc (.cells #[.string a0, .string a1, .string a2, .string a3, .string a4, .string a5, .string a6, .string a7, .string a8, .string a9] 9)) := by kernel_rfl
theorem SliceOf.rowF {α : Type} {w : World} {C n : Nat} {en : α → List Value} {A : Option Addr} {xs : List α} (h : SliceOf w C en A n xs) {g : Nat} {cs : Array Value} (hA : ∀ x off, A = some ⟨x, off, none⟩ → x ≠ g) : SliceOf (w.setRow g cs) C en A n xs := by
  refine ⟨h.len, ?_⟩
  rcases h.cells with h0 | ⟨b, off, rfl, hb, hc⟩
  · exact .inl h0
  · refine .inr ⟨b, off, rfl, by simpa [World.setRow] using hb, fun i x hx j v hv => ?_⟩
    unfold World.cell?
    rw [setRow_other w g b cs (hA b off rfl)]
    exact hc i x hx j v hv
/-- A slice that reads as a list, and lies high. -/
def SlHi (lo C : Nat) {α : Type} (en : α → List Value) (n : Nat) (xs : List α) : Value → World → Prop := fun v W => ∃ A c, v = .slice A n c ∧ SliceOf W C en A n xs ∧ ∀ x off, A = some ⟨x, off, none⟩ → lo ≤ x
theorem stab_slhi (lo C : Nat) {α : Type} (en : α → List Value) (n : Nat) (xs : List α) : Stab (SlHi lo C en n xs) := fun _ _ _ ⟨A, c, h1, h2, h3⟩ hb => ⟨A, c, h1, h2.below hb, h3⟩
/-- The insurance, its fields high. -/
def DocHi (lo : Nat) (d : Dl) (m : Mon) : Value → World → Prop := fun v W => ∃ A c, v = .agg #[.int .i64 3, .string (⟨#[105, 110, 45]⟩ ++ d.num), .string d.ins, .slice A 5 c] ∧ SliceOf W 2 fdC A 5 (covP d m).fs ∧ ∀ x off, A = some ⟨x, off, none⟩ → lo ≤ x
theorem stab_dochi (lo : Nat) (d : Dl) (m : Mon) : Stab (DocHi lo d m) := fun _ _ _ ⟨A, c, h1, h2, h3⟩ hb => ⟨A, c, h1, h2.below hb, h3⟩
set_option maxRecDepth 100000 in
set_option maxHeartbeats 12800000 in
theorem pcov_any (d : Dl) (A : Option Addr) (nb c : Nat) (m : Mon) (w : World) (hm : I64 m.amt) (hn : d.num.size ≤ 140737488355328) (ht : PowTab w) :
    Calls Tryz.prog 64 #[.agg #[.string d.num, .string d.sel, .string d.buy, .string d.car, .string d.iss, .string d.hou, .string d.ins, .string d.fr, .string d.dst, .string d.cur, .int .i64 d.amt, .slice A nb c, .int .i64 d.term, .int .i64 d.lat, .int .i64 d.exp, .int .i64 d.ten, .int .i64 d.dut], .agg #[.string m.cur, .int .i64 m.amt]] w fun e w' => ∃ fa fc, e = .returned (.agg #[.int .i64 3, .string (⟨#[105, 110, 45]⟩ ++ d.num), .string d.ins, .slice fa 5 fc]) ∧ SliceOf w' 2 fdC fa 5 (covP d m).fs ∧ (∀ x off, fa = some ⟨x, off, none⟩ → w.heap.size ≤ x) ∧ Below w.heap.size w w' := by
  have HTB := Lib.hid (Lib.tabBelow_of_tabIs ht)
  have HI := Lib.hid hm
  have HN := Lib.hid hn
  clear ht hm hn
  have HB0 : Hid (Below w.heap.size w (((w.alloc (.cells #[.string d.num, .string d.sel, .string d.buy, .string d.car, .string d.iss, .string d.hou, .string d.ins, .string d.fr, .string d.dst, .string d.cur, .int .i64 d.amt, .slice A nb c, .int .i64 d.term, .int .i64 d.lat, .int .i64 d.exp, .int .i64 d.ten, .int .i64 d.dut] 53)).alloc (.cells #[.string m.cur, .int .i64 m.amt] 50)).alloc (.cells #[.int .i64 0, .string ⟨#[]⟩, .string ⟨#[]⟩, .slice none 0 0] 109))) := Lib.hid ((two_alloc w (.cells #[.string d.num, .string d.sel, .string d.buy, .string d.car, .string d.iss, .string d.hou, .string d.ins, .string d.fr, .string d.dst, .string d.cur, .int .i64 d.amt, .slice A nb c, .int .i64 d.term, .int .i64 d.lat, .int .i64 d.exp, .int .i64 d.ten, .int .i64 d.dut] 53) (.cells #[.string m.cur, .int .i64 m.amt] 50)).alloc (by simp; omega) _)
  have HK0 : Hid (Blk (((w.alloc (.cells #[.string d.num, .string d.sel, .string d.buy, .string d.car, .string d.iss, .string d.hou, .string d.ins, .string d.fr, .string d.dst, .string d.cur, .int .i64 d.amt, .slice A nb c, .int .i64 d.term, .int .i64 d.lat, .int .i64 d.exp, .int .i64 d.ten, .int .i64 d.dut] 53)).alloc (.cells #[.string m.cur, .int .i64 m.amt] 50)).alloc (.cells #[.int .i64 0, .string ⟨#[]⟩, .string ⟨#[]⟩, .slice none 0 0] 109)) w.heap.size 53 #[.string d.num, .string d.sel, .string d.buy, .string d.car, .string d.iss, .string d.hou, .string d.ins, .string d.fr, .string d.dst, .string d.cur, .int .i64 d.amt, .slice A nb c, .int .i64 d.term, .int .i64 d.lat, .int .i64 d.exp, .int .i64 d.ten, .int .i64 d.dut]) := Lib.hid (((Blk.new _ _ _).alloc _).alloc _)
  have HM0 : Hid (Blk (((w.alloc (.cells #[.string d.num, .string d.sel, .string d.buy, .string d.car, .string d.iss, .string d.hou, .string d.ins, .string d.fr, .string d.dst, .string d.cur, .int .i64 d.amt, .slice A nb c, .int .i64 d.term, .int .i64 d.lat, .int .i64 d.exp, .int .i64 d.ten, .int .i64 d.dut] 53)).alloc (.cells #[.string m.cur, .int .i64 m.amt] 50)).alloc (.cells #[.int .i64 0, .string ⟨#[]⟩, .string ⟨#[]⟩, .slice none 0 0] 109)) (w.heap.size + 1) 50 #[.string m.cur, .int .i64 m.amt]) := Lib.hid ((blk_second _ _ _ _).alloc _)
  have HR0 : Hid (Blk (((w.alloc (.cells #[.string d.num, .string d.sel, .string d.buy, .string d.car, .string d.iss, .string d.hou, .string d.ins, .string d.fr, .string d.dst, .string d.cur, .int .i64 d.amt, .slice A nb c, .int .i64 d.term, .int .i64 d.lat, .int .i64 d.exp, .int .i64 d.ten, .int .i64 d.dut] 53)).alloc (.cells #[.string m.cur, .int .i64 m.amt] 50)).alloc (.cells #[.int .i64 0, .string ⟨#[]⟩, .string ⟨#[]⟩, .slice none 0 0] 109)) (w.heap.size + 2) 109 #[.int .i64 0, .string ⟨#[]⟩, .string ⟨#[]⟩, .slice none 0 0]) := Lib.hid (Blk.new_at _ _ _ _ (by simp))
  have HS0 : Hid (w.heap.size + 3 ≤ (((w.alloc (.cells #[.string d.num, .string d.sel, .string d.buy, .string d.car, .string d.iss, .string d.hou, .string d.ins, .string d.fr, .string d.dst, .string d.cur, .int .i64 d.amt, .slice A nb c, .int .i64 d.term, .int .i64 d.lat, .int .i64 d.exp, .int .i64 d.ten, .int .i64 d.dut] 53)).alloc (.cells #[.string m.cur, .int .i64 m.amt] 50)).alloc (.cells #[.int .i64 0, .string ⟨#[]⟩, .string ⟨#[]⟩, .slice none 0 0] 109)).heap.size) := Lib.hid (by simp)
  obtain ⟨g, hg⟩ : ∃ g, w.heap.size = g := ⟨_, rfl⟩
  rw [hg] at HK0 HM0 HR0 HS0
  have HG := Lib.hid hg
  go_enter Tryz.func64, Tryz.ntmps64
  go_wp2_with fail
  clear hg
  refine wp_region_soft_last [Is (.pointer (some ⟨g, 0, none⟩)), Is (.string d.num), Is (.string ((⟨#[105, 110, 45]⟩ : ByteArray) ++ (d.num : ByteArray))), Is (.pointer (some ⟨g, 6, none⟩)), Is (.string d.ins), Is (.pointer (some ⟨g, 1, none⟩)), Is (.string d.sel), Is (.pointer (some ⟨g, 7, none⟩)), Is (.string d.fr), Is (.pointer (some ⟨g, 8, none⟩)), Is (.string d.dst), Is (.pointer (some ⟨g + 1, 0, none⟩)), Is (.string m.cur), Is (.pointer (some ⟨g + 1, 1, none⟩)), Is (.int .i64 m.amt), Is (.string (itS m.amt)), SlHi 0 1 strC 10 [⟨#[115, 101, 108, 108, 101, 114]⟩, d.sel, ⟨#[102, 114, 111, 109]⟩, d.fr, ⟨#[116, 111]⟩, d.dst, ⟨#[99, 117, 114, 114, 101, 110, 99, 121]⟩, m.cur, ⟨#[115, 117, 109]⟩, (itS m.amt)], SlHi (g + 3) 2 fdC 5 (covP d m).fs, DocHi (g + 3) d m] ⟨stab_is _, stab_is _, stab_is _, stab_is _, stab_is _, stab_is _, stab_is _, stab_is _, stab_is _, stab_is _, stab_is _, stab_is _, stab_is _, stab_is _, stab_is _, stab_is _, stab_slhi _ _ _ _ _, stab_slhi _ _ _ _ _, stab_dochi _ _ _, trivial⟩ (by kernel_rfl) (by kernel_rfl) (by kernel_rfl) (by simp) ?_
  refine ⟨?_, ?_, ?_, ?_, ?_, ?_, ?_, ?_, ?_, ?_, ?_, ?_, ?_, ?_, ?_, ?_, ?_, ?_, ?_, ?_⟩
  all_goals intro done vs ac W1 hdep hB hR hE
  all_goals have ec : ∀ v : Value, ac.eval (.const v) = v := fun _ => rfl
  all_goals try simp [Region.binds] at hdep
  · have e2 : ac.eval (.tmp 2) = .pointer (some ⟨g, 0, none⟩) := (hE 2 (by simp)).trans (by simp [evF, Act.eval])
    exact soft_value (.pointer (some ⟨g, 0, none⟩)) (by unfold execOp; simp only [e2]; kernel_rfl) rfl
  · have d0 : vs 0 = .pointer (some ⟨g, 0, none⟩) := hR 0 (by simp [hdep])
    have e5 : ac.eval (.tmp 5) = .pointer (some ⟨g, 0, none⟩) := (hE 5 (by simp)).trans (by simp [evF, hdep, d0])
    have hc0 : W1.cell? ⟨g, 0, none⟩ = some (.string d.num) := (HK0.out.below hB HK0.out.lt).cell 0
    exact soft_value (.string d.num) (by unfold execOp; simp only [e5]; go_simp) rfl
  · have d1 : vs 1 = .string d.num := hR 1 (by simp [hdep])
    have e6 : ac.eval (.tmp 6) = .string d.num := (hE 6 (by simp)).trans (by simp [evF, hdep, d1])
    exact soft_value (.string ((⟨#[105, 110, 45]⟩ : ByteArray) ++ (d.num : ByteArray))) (by have := HN.out; unfold execOp; simp only [e6, ec]; go_simp; omega) rfl
  · have e2 : ac.eval (.tmp 2) = .pointer (some ⟨g, 0, none⟩) := (hE 2 (by simp)).trans (by simp [evF, Act.eval])
    exact soft_value (.pointer (some ⟨g, 6, none⟩)) (by unfold execOp; simp only [e2]; kernel_rfl) rfl
  · have d3 : vs 3 = .pointer (some ⟨g, 6, none⟩) := hR 3 (by simp [hdep])
    have e8 : ac.eval (.tmp 8) = .pointer (some ⟨g, 6, none⟩) := (hE 8 (by simp)).trans (by simp [evF, hdep, d3])
    have hc6 : W1.cell? ⟨g, 6, none⟩ = some (.string d.ins) := (HK0.out.below hB HK0.out.lt).cell 6
    exact soft_value (.string d.ins) (by unfold execOp; simp only [e8]; go_simp) rfl
  · have e2 : ac.eval (.tmp 2) = .pointer (some ⟨g, 0, none⟩) := (hE 2 (by simp)).trans (by simp [evF, Act.eval])
    exact soft_value (.pointer (some ⟨g, 1, none⟩)) (by unfold execOp; simp only [e2]; kernel_rfl) rfl
  · have d5 : vs 5 = .pointer (some ⟨g, 1, none⟩) := hR 5 (by simp [hdep])
    have e10 : ac.eval (.tmp 10) = .pointer (some ⟨g, 1, none⟩) := (hE 10 (by simp)).trans (by simp [evF, hdep, d5])
    have hc1 : W1.cell? ⟨g, 1, none⟩ = some (.string d.sel) := (HK0.out.below hB HK0.out.lt).cell 1
    exact soft_value (.string d.sel) (by unfold execOp; simp only [e10]; go_simp) rfl
  · have e2 : ac.eval (.tmp 2) = .pointer (some ⟨g, 0, none⟩) := (hE 2 (by simp)).trans (by simp [evF, Act.eval])
    exact soft_value (.pointer (some ⟨g, 7, none⟩)) (by unfold execOp; simp only [e2]; kernel_rfl) rfl
  · have d7 : vs 7 = .pointer (some ⟨g, 7, none⟩) := hR 7 (by simp [hdep])
    have e12 : ac.eval (.tmp 12) = .pointer (some ⟨g, 7, none⟩) := (hE 12 (by simp)).trans (by simp [evF, hdep, d7])
    have hc7 : W1.cell? ⟨g, 7, none⟩ = some (.string d.fr) := (HK0.out.below hB HK0.out.lt).cell 7
    exact soft_value (.string d.fr) (by unfold execOp; simp only [e12]; go_simp) rfl
  · have e2 : ac.eval (.tmp 2) = .pointer (some ⟨g, 0, none⟩) := (hE 2 (by simp)).trans (by simp [evF, Act.eval])
    exact soft_value (.pointer (some ⟨g, 8, none⟩)) (by unfold execOp; simp only [e2]; kernel_rfl) rfl
  · have d9 : vs 9 = .pointer (some ⟨g, 8, none⟩) := hR 9 (by simp [hdep])
    have e14 : ac.eval (.tmp 14) = .pointer (some ⟨g, 8, none⟩) := (hE 14 (by simp)).trans (by simp [evF, hdep, d9])
    have hc8 : W1.cell? ⟨g, 8, none⟩ = some (.string d.dst) := (HK0.out.below hB HK0.out.lt).cell 8
    exact soft_value (.string d.dst) (by unfold execOp; simp only [e14]; go_simp) rfl
  · have e3 : ac.eval (.tmp 3) = .pointer (some ⟨g + 1, 0, none⟩) := (hE 3 (by simp)).trans (by simp [evF, Act.eval])
    exact soft_value (.pointer (some ⟨g + 1, 0, none⟩)) (by unfold execOp; simp only [e3]; kernel_rfl) rfl
  · have d11 : vs 11 = .pointer (some ⟨g + 1, 0, none⟩) := hR 11 (by simp [hdep])
    have e16 : ac.eval (.tmp 16) = .pointer (some ⟨g + 1, 0, none⟩) := (hE 16 (by simp)).trans (by simp [evF, hdep, d11])
    have hc0 : W1.cell? ⟨g + 1, 0, none⟩ = some (.string m.cur) := (HM0.out.below hB HM0.out.lt).cell 0
    exact soft_value (.string m.cur) (by unfold execOp; simp only [e16]; go_simp) rfl
  · have e3 : ac.eval (.tmp 3) = .pointer (some ⟨g + 1, 0, none⟩) := (hE 3 (by simp)).trans (by simp [evF, Act.eval])
    exact soft_value (.pointer (some ⟨g + 1, 1, none⟩)) (by unfold execOp; simp only [e3]; kernel_rfl) rfl
  · have d13 : vs 13 = .pointer (some ⟨g + 1, 1, none⟩) := hR 13 (by simp [hdep])
    have e18 : ac.eval (.tmp 18) = .pointer (some ⟨g + 1, 1, none⟩) := (hE 18 (by simp)).trans (by simp [evF, hdep, d13])
    have hc1 : W1.cell? ⟨g + 1, 1, none⟩ = some (.int .i64 m.amt) := (HM0.out.below hB HM0.out.lt).cell 1
    exact soft_value (.int .i64 m.amt) (by unfold execOp; simp only [e18]; go_simp) rfl
  · have d14 : vs 14 = .int .i64 m.amt := hR 14 (by simp [hdep])
    have e19 : ac.eval (.tmp 19) = .int .i64 m.amt := (hE 19 (by simp)).trans (by simp [evF, hdep, d14])
    refine soft_call 89 _ _ rfl (enters_fn Tryz.func89 (by kernel_rfl) rfl) #[.int .i64 m.amt] (by simp [e19, ec]) ?_
    refine (digits_any m.amt HI.out W1 (HTB.out.on (HB0.out.trans (hB.mono HB0.out.size))).here).mono ?_
    rintro e9 w9 ⟨rfl, hb9⟩
    exact ⟨_, rfl, hb9, rfl⟩
  · have d6 : vs 6 = .string d.sel := hR 6 (by simp [hdep])
    have e11 : ac.eval (.tmp 11) = .string d.sel := (hE 11 (by simp)).trans (by simp [evF, hdep, d6])
    have d8 : vs 8 = .string d.fr := hR 8 (by simp [hdep])
    have e13 : ac.eval (.tmp 13) = .string d.fr := (hE 13 (by simp)).trans (by simp [evF, hdep, d8])
    have d10 : vs 10 = .string d.dst := hR 10 (by simp [hdep])
    have e15 : ac.eval (.tmp 15) = .string d.dst := (hE 15 (by simp)).trans (by simp [evF, hdep, d10])
    have d12 : vs 12 = .string m.cur := hR 12 (by simp [hdep])
    have e17 : ac.eval (.tmp 17) = .string m.cur := (hE 17 (by simp)).trans (by simp [evF, hdep, d12])
    have d15 : vs 15 = .string (itS m.amt) := hR 15 (by simp [hdep])
    have e20 : ac.eval (.tmp 20) = .string (itS m.amt) := (hE 20 (by simp)).trans (by simp [evF, hdep, d15])
    refine soft_build 55 9 10 _ rfl #[(0, .string ⟨#[115, 101, 108, 108, 101, 114]⟩), (1, .string d.sel), (2, .string ⟨#[102, 114, 111, 109]⟩), (3, .string d.fr), (4, .string ⟨#[116, 111]⟩), (5, .string d.dst), (6, .string ⟨#[99, 117, 114, 114, 101, 110, 99, 121]⟩), (7, .string m.cur), (8, .string ⟨#[115, 117, 109]⟩), (9, .string (itS m.amt))] (by simp [e11, e13, e15, e17, e20, ec]) #[.string (⟨#[115, 101, 108, 108, 101, 114]⟩), .string (d.sel), .string (⟨#[102, 114, 111, 109]⟩), .string (d.fr), .string (⟨#[116, 111]⟩), .string (d.dst), .string (⟨#[99, 117, 114, 114, 101, 110, 99, 121]⟩), .string (m.cur), .string (⟨#[115, 117, 109]⟩), .string ((itS m.amt))] (bs10 (⟨#[115, 101, 108, 108, 101, 114]⟩) (d.sel) (⟨#[102, 114, 111, 109]⟩) (d.fr) (⟨#[116, 111]⟩) (d.dst) (⟨#[99, 117, 114, 114, 101, 110, 99, 121]⟩) (m.cur) (⟨#[115, 117, 109]⟩) ((itS m.amt)) W1) ⟨_, _, rfl, SliceOf.blk (en := strC) (Blk.new_at W1 9 _ _ rfl) [⟨#[115, 101, 108, 108, 101, 114]⟩, d.sel, ⟨#[102, 114, 111, 109]⟩, d.fr, ⟨#[116, 111]⟩, d.dst, ⟨#[99, 117, 114, 114, 101, 110, 99, 121]⟩, m.cur, ⟨#[115, 117, 109]⟩, (itS m.amt)] rfl (fun _ => rfl) rfl, fun _ _ _ => Nat.zero_le _⟩
  · obtain ⟨A16, c16, d16, h16, _⟩ := (show (SlHi 0 1 strC 10 [⟨#[115, 101, 108, 108, 101, 114]⟩, d.sel, ⟨#[102, 114, 111, 109]⟩, d.fr, ⟨#[116, 111]⟩, d.dst, ⟨#[99, 117, 114, 114, 101, 110, 99, 121]⟩, m.cur, ⟨#[115, 117, 109]⟩, (itS m.amt)]) (vs 16) W1 from hR 16 (by simp [hdep]))
    have e21 : ac.eval (.tmp 21) = .slice A16 10 c16 := (hE 21 (by simp)).trans (by simp [evF, hdep, d16])
    refine soft_call 88 _ _ rfl (enters_fn Tryz.func88 (by kernel_rfl) rfl) #[.slice A16 10 c16] (by simp [e21, ec]) ?_
    refine (fields_any A16 10 5 c16 [⟨#[115, 101, 108, 108, 101, 114]⟩, d.sel, ⟨#[102, 114, 111, 109]⟩, d.fr, ⟨#[116, 111]⟩, d.dst, ⟨#[99, 117, 114, 114, 101, 110, 99, 121]⟩, m.cur, ⟨#[115, 117, 109]⟩, (itS m.amt)] W1 h16 rfl (by omega)).mono ?_
    rintro e9 w9 ⟨B, d9, rfl, hs9, hA9, hb9⟩
    exact ⟨_, rfl, hb9, ⟨B, d9, rfl, hs9, fun x off e => Nat.le_trans (Nat.le_trans HS0.out hB.size) (hA9 x off e)⟩⟩
  · have d2 : vs 2 = .string ((⟨#[105, 110, 45]⟩ : ByteArray) ++ (d.num : ByteArray)) := hR 2 (by simp [hdep])
    have e7 : ac.eval (.tmp 7) = .string ((⟨#[105, 110, 45]⟩ : ByteArray) ++ (d.num : ByteArray)) := (hE 7 (by simp)).trans (by simp [evF, hdep, d2])
    have d4 : vs 4 = .string d.ins := hR 4 (by simp [hdep])
    have e9 : ac.eval (.tmp 9) = .string d.ins := (hE 9 (by simp)).trans (by simp [evF, hdep, d4])
    obtain ⟨A17, c17, d17, h17, l17⟩ := (show (SlHi (g + 3) 2 fdC 5 (covP d m).fs) (vs 17) W1 from hR 17 (by simp [hdep]))
    have e22 : ac.eval (.tmp 22) = .slice A17 5 c17 := (hE 22 (by simp)).trans (by simp [evF, hdep, d17])
    exact soft_value (.agg #[.int .i64 3, .string ((⟨#[105, 110, 45]⟩ : ByteArray) ++ (d.num : ByteArray)), .string d.ins, .slice A17 5 c17]) (by unfold execOp; simp [e7, e9, e22, ec]; kernel_rfl) ⟨A17, c17, rfl, h17, l17⟩
  · have hall := hdep
    have e4 : ac.eval (.tmp 4) = .pointer (some ⟨g + 2, 0, none⟩) := (hE 4 (by simp)).trans (by simp [evF, Act.eval])
    obtain ⟨A17, c17, d18, h18, l18⟩ := (show (DocHi (g + 3) d m) (vs 18) W1 from hR 18 (by omega))
    have e23 : ac.eval (.tmp 23) = .agg #[.int .i64 3, .string ((⟨#[105, 110, 45]⟩ : ByteArray) ++ (d.num : ByteArray)), .string d.ins, .slice A17 5 c17] := (hE 23 (by simp)).trans (by simp [evF, hall 18 (by omega), d18])
    have hk := HR0.out.below hB HR0.out.lt
    refine wp_store_row 109 _ _ rfl (g + 2) #[.int .i64 3, .string ((⟨#[105, 110, 45]⟩ : ByteArray) ++ (d.num : ByteArray)), .string d.ins, .slice A17 5 c17] e4 e23 109 _ hk (by kernel_rfl) rfl (by simp [Value.oneCell']) ⟨_, rfl, ?_⟩
    have hk2 : Blk (W1.setRow (g + 2) #[.int .i64 3, .string ((⟨#[105, 110, 45]⟩ : ByteArray) ++ (d.num : ByteArray)), .string d.ins, .slice A17 5 c17]) (g + 2) 109 #[.int .i64 3, .string ((⟨#[105, 110, 45]⟩ : ByteArray) ++ (d.num : ByteArray)), .string d.ins, .slice A17 5 c17] := setRow_heap W1 (g + 2) _ _ _ (0, 0) hk
    have hs2 := h18.rowF (g := g + 2) (cs := #[.int .i64 3, .string ((⟨#[105, 110, 45]⟩ : ByteArray) ++ (d.num : ByteArray)), .string d.ins, .slice A17 5 c17]) (fun x off e => by have := l18 x off e; omega)
    have hb2 : Below w.heap.size w (W1.setRow (g + 2) #[.int .i64 3, .string ((⟨#[105, 110, 45]⟩ : ByteArray) ++ (d.num : ByteArray)), .string d.ins, .slice A17 5 c17]) := (HB0.out.trans (hB.mono HB0.out.size)).trans ⟨rfl, rfl, rfl, by simp [World.setRow], fun j hj => setRow_other W1 (g + 2) j _ (by have := HG.out; omega)⟩
    have q0 := hk2.cell 0; have q1 := hk2.cell 1; have q2 := hk2.cell 2; have q3 := hk2.cell 3
    simp only [List.getElem?_toArray, List.getElem?_cons_zero, List.getElem?_cons_succ] at q0 q1 q2 q3
    simp only [fillA, Act.put, List.setIfInBounds_toArray, List.set_cons_zero, List.set_cons_succ, if_true]
    have HS2 := Lib.hid hs2
    have HB2 := Lib.hid hb2
    have HL2 : Hid (∀ x off, A17 = some ⟨x, off, none⟩ → w.heap.size ≤ x) := Lib.hid (fun x off e => by have := l18 x off e; have := HG.out; omega)
    clear hs2 hb2 hk hk2 hB hR hE hdep hall
    go_wp2_with fail
    refine bodyPost_ret (v := .agg #[.int .i64 3, .string ((⟨#[105, 110, 45]⟩ : ByteArray) ++ (d.num : ByteArray)), .string d.ins, .slice A17 5 c17]) (by simp [results, Tryz.results64, go_sem, q0, q1, q2, q3]) rfl ?_
    exact ⟨_, _, rfl, HS2.out, HL2.out, HB2.out⟩
end Go.Proofs.YtdanjegnhdpnlaaGreatDoor.kit
