/- The papers of a deal without boxes: invoice, packing list, origin. Condition: the table of powers of ten. -/
import Derived.Test.YtlicmhgpldmliaaDoorPpC
namespace Go.Proofs.YtlicmhgpldmliaaDoor.kit
open Go.RowKit Go.PlainAid
set_option linter.unusedVariables false
set_option linter.unusedSimpArgs false

theorem SliceOf.rowF {α : Type} {w : World} {C n : Nat} {en : α → List Value} {A : Option Addr} {xs : List α} (h : SliceOf w C en A n xs) {g : Nat} {cs : Array Value} (hA : ∀ x off, A = some ⟨x, off, none⟩ → x ≠ g) : SliceOf (w.setRow g cs) C en A n xs := by
  refine ⟨h.len, ?_⟩
  rcases h.cells with h0 | ⟨b, off, rfl, hb, hc⟩
  · exact .inl h0
  · refine .inr ⟨b, off, rfl, by simpa [World.setRow] using hb, fun i x hx j v hv => ?_⟩
    unfold World.cell?
    rw [setRow_other w g b cs (hA b off rfl)]
    exact hc i x hx j v hv
/-- A slice that reads as a list, and lies high. -/
def SlHi (lo C : Nat) {α : Type} (en : α → List Value) (n : Nat) (xs : List α) : Value → World → Prop := fun v W => ∃ A c, v = .slice A n c ∧ SliceOf W C en A n xs ∧ ∀ x off, A = some ⟨x, off, none⟩ → lo ≤ x
theorem stab_slhi (lo C : Nat) {α : Type} (en : α → List Value) (n : Nat) (xs : List α) : Stab (SlHi lo C en n xs) := fun _ _ _ ⟨A, c, h1, h2, h3⟩ hb => ⟨A, c, h1, h2.below hb, h3⟩
/-- A paper whose fields read as a list, and lie high. -/
def DocHi (lo : Nat) (k : Int) (nu is : ByteArray) (n : Nat) (xs : List Fd) : Value → World → Prop := fun v W => ∃ A c, v = .agg #[.int .i64 k, .string nu, .string is, .slice A n c] ∧ SliceOf W 2 fdC A n xs ∧ ∀ x off, A = some ⟨x, off, none⟩ → lo ≤ x
theorem stab_dochi (lo : Nat) (k : Int) (nu is : ByteArray) (n : Nat) (xs : List Fd) : Stab (DocHi lo k nu is n xs) := fun _ _ _ ⟨A, c, h1, h2, h3⟩ hb => ⟨A, c, h1, h2.below hb, h3⟩
def DocIs (w : World) (k : Int) (nu is : ByteArray) (n : Nat) (FS : List Fd) (e : Ending) (w' : World) : Prop :=
  ∃ A c, e = .returned (.agg #[.int .i64 k, .string nu, .string is, .slice A n c]) ∧ SliceOf w' 2 fdC A n FS ∧ Below w.heap.size w w'

theorem bs16 (a0 a1 a2 a3 a4 a5 a6 a7 a8 a9 a10 a11 a12 a13 a14 a15 : ByteArray) (w : World) : (Instr.buildSlice 73 16 #[(0, .string a0), (1, .string a1), (2, .string a2), (3, .string a3), (4, .string a4), (5, .string a5), (6, .string a6), (7, .string a7), (8, .string a8), (9, .string a9), (10, .string a10), (11, .string a11), (12, .string a12), (13, .string a13), (14, .string a14), (15, .string a15)]).run Tryd.prog w = .ok (.slice (some ⟨w.heap.size, 0, none⟩) 16 16) (w.alloc (.cells #[.string a0, .string a1, .string a2, .string a3, .string a4, .string a5, .string a6, .string a7, .string a8, .string a9, .string a10, .string a11, .string a12, .string a13, .string a14, .string a15] 9)) := by kernel_rfl
theorem bs12 (a0 a1 a2 a3 a4 a5 a6 a7 a8 a9 a10 a11 : ByteArray) (w : World) : (Instr.buildSlice 73 12 #[(0, .string a0), (1, .string a1), (2, .string a2), (3, .string a3), (4, .string a4), (5, .string a5), (6, .string a6), (7, .string a7), (8, .string a8), (9, .string a9), (10, .string a10), (11, .string a11)]).run Tryd.prog w = .ok (.slice (some ⟨w.heap.size, 0, none⟩) 12 12) (w.alloc (.cells #[.string a0, .string a1, .string a2, .string a3, .string a4, .string a5, .string a6, .string a7, .string a8, .string a9, .string a10, .string a11] 9)) := by kernel_rfl
theorem bs6 (a0 a1 a2 a3 a4 a5 : ByteArray) (w : World) : (Instr.buildSlice 73 6 #[(0, .string a0), (1, .string a1), (2, .string a2), (3, .string a3), (4, .string a4), (5, .string a5)]).run Tryd.prog w = .ok (.slice (some ⟨w.heap.size, 0, none⟩) 6 6) (w.alloc (.cells #[.string a0, .string a1, .string a2, .string a3, .string a4, .string a5] 9)) := by kernel_rfl
set_option maxRecDepth 100000 in
set_option maxHeartbeats 12800000 in
theorem invoice_any (nu se bu ca is ho fr dst cu : ByteArray) (am term la ex te du : Int) (w : World) (h1 : I64 am) (h2 : I64 term) (hn : nu.size ≤ 1000) (ht : PowTab w) :
    Calls Tryd.prog 24 #[.agg #[.string nu, .string se, .string bu, .string ca, .string is, .string ho, .string ⟨#[]⟩, .string fr, .string dst, .string cu, .int .i64 am, .slice none 0 0, .int .i64 term, .int .i64 la, .int .i64 ex, .int .i64 te, .int .i64 du]] w (DocIs w 0 ((⟨#[105, 118, 45]⟩ : ByteArray) ++ (nu : ByteArray)) se 8 (pairF ([⟨#[115, 101, 108, 108, 101, 114]⟩, se, ⟨#[98, 117, 121, 101, 114]⟩, bu, ⟨#[99, 117, 114, 114, 101, 110, 99, 121]⟩, cu, ⟨#[115, 117, 109]⟩, (itS am), ⟨#[102, 114, 111, 109]⟩, fr, ⟨#[116, 111]⟩, dst, ⟨#[98, 111, 120, 101, 115]⟩, (itS 0), ⟨#[116, 101, 114, 109]⟩, (itS term)].take (2 * 8)))) := by
  have HTB := Lib.hid (Lib.tabBelow_of_tabIs ht)
  have HI := Lib.hid (⟨h1, h2⟩ : I64 am ∧ I64 term)
  have HN := Lib.hid hn
  clear ht h1 h2 hn
  have HB0 := Lib.hid (two_alloc w (.cells #[.string nu, .string se, .string bu, .string ca, .string is, .string ho, .string ⟨#[]⟩, .string fr, .string dst, .string cu, .int .i64 am, .slice none 0 0, .int .i64 term, .int .i64 la, .int .i64 ex, .int .i64 te, .int .i64 du] 47) (.cells #[.int .i64 0, .string ⟨#[]⟩, .string ⟨#[]⟩, .slice none 0 0] 66))
  have HK0 : Hid (Blk ((w.alloc (.cells #[.string nu, .string se, .string bu, .string ca, .string is, .string ho, .string ⟨#[]⟩, .string fr, .string dst, .string cu, .int .i64 am, .slice none 0 0, .int .i64 term, .int .i64 la, .int .i64 ex, .int .i64 te, .int .i64 du] 47)).alloc (.cells #[.int .i64 0, .string ⟨#[]⟩, .string ⟨#[]⟩, .slice none 0 0] 66)) w.heap.size 47 #[.string nu, .string se, .string bu, .string ca, .string is, .string ho, .string ⟨#[]⟩, .string fr, .string dst, .string cu, .int .i64 am, .slice none 0 0, .int .i64 term, .int .i64 la, .int .i64 ex, .int .i64 te, .int .i64 du]) := Lib.hid ((Blk.new _ _ _).alloc _)
  have HR0 : Hid (Blk ((w.alloc (.cells #[.string nu, .string se, .string bu, .string ca, .string is, .string ho, .string ⟨#[]⟩, .string fr, .string dst, .string cu, .int .i64 am, .slice none 0 0, .int .i64 term, .int .i64 la, .int .i64 ex, .int .i64 te, .int .i64 du] 47)).alloc (.cells #[.int .i64 0, .string ⟨#[]⟩, .string ⟨#[]⟩, .slice none 0 0] 66)) (w.heap.size + 1) 66 #[.int .i64 0, .string ⟨#[]⟩, .string ⟨#[]⟩, .slice none 0 0]) := Lib.hid (blk_second _ _ _ _)
  have HS0 : Hid (w.heap.size + 2 ≤ ((w.alloc (.cells #[.string nu, .string se, .string bu, .string ca, .string is, .string ho, .string ⟨#[]⟩, .string fr, .string dst, .string cu, .int .i64 am, .slice none 0 0, .int .i64 term, .int .i64 la, .int .i64 ex, .int .i64 te, .int .i64 du] 47)).alloc (.cells #[.int .i64 0, .string ⟨#[]⟩, .string ⟨#[]⟩, .slice none 0 0] 66)).heap.size) := Lib.hid (by simp)
  obtain ⟨g, hg⟩ : ∃ g, w.heap.size = g := ⟨_, rfl⟩
  rw [hg] at HK0 HR0 HS0
  have HG := Lib.hid hg
  go_enter Tryd.func24, Tryd.ntmps24
  go_wp2_with fail
  clear hg
  refine wp_region_soft_last [Is (.pointer (some ⟨g, 0, none⟩)), Is (.string nu), Is (.string ((⟨#[105, 118, 45]⟩ : ByteArray) ++ (nu : ByteArray))), Is (.pointer (some ⟨g, 1, none⟩)), Is (.string se), Is (.pointer (some ⟨g, 1, none⟩)), Is (.string se), Is (.pointer (some ⟨g, 2, none⟩)), Is (.string bu), Is (.pointer (some ⟨g, 9, none⟩)), Is (.pointer (some ⟨g, 9, none⟩)), Is (.string cu), Is (.pointer (some ⟨g, 9, none⟩)), Is (.pointer (some ⟨g, 10, none⟩)), Is (.int .i64 am), Is (.string (itS am)), Is (.pointer (some ⟨g, 7, none⟩)), Is (.string fr), Is (.pointer (some ⟨g, 8, none⟩)), Is (.string dst), Is (.pointer (some ⟨g, 11, none⟩)), Is (.slice none 0 0), Is (.int .i64 0), Is (.string (itS 0)), Is (.pointer (some ⟨g, 12, none⟩)), Is (.int .i64 term), Is (.string (itS term)), SlHi 0 1 strC 16 [⟨#[115, 101, 108, 108, 101, 114]⟩, se, ⟨#[98, 117, 121, 101, 114]⟩, bu, ⟨#[99, 117, 114, 114, 101, 110, 99, 121]⟩, cu, ⟨#[115, 117, 109]⟩, (itS am), ⟨#[102, 114, 111, 109]⟩, fr, ⟨#[116, 111]⟩, dst, ⟨#[98, 111, 120, 101, 115]⟩, (itS 0), ⟨#[116, 101, 114, 109]⟩, (itS term)], SlHi (g + 2) 2 fdC 8 (pairF ([⟨#[115, 101, 108, 108, 101, 114]⟩, se, ⟨#[98, 117, 121, 101, 114]⟩, bu, ⟨#[99, 117, 114, 114, 101, 110, 99, 121]⟩, cu, ⟨#[115, 117, 109]⟩, (itS am), ⟨#[102, 114, 111, 109]⟩, fr, ⟨#[116, 111]⟩, dst, ⟨#[98, 111, 120, 101, 115]⟩, (itS 0), ⟨#[116, 101, 114, 109]⟩, (itS term)].take (2 * 8))), DocHi (g + 2) 0 ((⟨#[105, 118, 45]⟩ : ByteArray) ++ (nu : ByteArray)) se 8 (pairF ([⟨#[115, 101, 108, 108, 101, 114]⟩, se, ⟨#[98, 117, 121, 101, 114]⟩, bu, ⟨#[99, 117, 114, 114, 101, 110, 99, 121]⟩, cu, ⟨#[115, 117, 109]⟩, (itS am), ⟨#[102, 114, 111, 109]⟩, fr, ⟨#[116, 111]⟩, dst, ⟨#[98, 111, 120, 101, 115]⟩, (itS 0), ⟨#[116, 101, 114, 109]⟩, (itS term)].take (2 * 8)))] ⟨stab_is _, stab_is _, stab_is _, stab_is _, stab_is _, stab_is _, stab_is _, stab_is _, stab_is _, stab_is _, stab_is _, stab_is _, stab_is _, stab_is _, stab_is _, stab_is _, stab_is _, stab_is _, stab_is _, stab_is _, stab_is _, stab_is _, stab_is _, stab_is _, stab_is _, stab_is _, stab_is _, stab_slhi _ _ _ _ _, stab_slhi _ _ _ _ _, stab_dochi _ _ _ _ _ _, trivial⟩ (by kernel_rfl) (by kernel_rfl) (by kernel_rfl) (by simp) ?_
  refine ⟨?_, ?_, ?_, ?_, ?_, ?_, ?_, ?_, ?_, ?_, ?_, ?_, ?_, ?_, ?_, ?_, ?_, ?_, ?_, ?_, ?_, ?_, ?_, ?_, ?_, ?_, ?_, ?_, ?_, ?_, ?_⟩
  all_goals intro done vs ac W1 hdep hB hR hE
  all_goals have ec : ∀ v : Value, ac.eval (.const v) = v := fun _ => rfl
  all_goals try simp [Region.binds] at hdep
  · have e1 : ac.eval (.tmp 1) = .pointer (some ⟨g, 0, none⟩) := (hE 1 (by simp)).trans (by simp [evF, Act.eval])
    exact soft_value (.pointer (some ⟨g, 0, none⟩)) (by unfold execOp; simp only [e1]; kernel_rfl) rfl
  · have d0 : vs 0 = .pointer (some ⟨g, 0, none⟩) := hR 0 (by simp [hdep])
    have e3 : ac.eval (.tmp 3) = .pointer (some ⟨g, 0, none⟩) := (hE 3 (by simp)).trans (by simp [evF, hdep, d0])
    have hc0 : W1.cell? ⟨g, 0, none⟩ = some (.string nu) := (HK0.out.below hB HK0.out.lt).cell 0
    exact soft_value (.string nu) (by unfold execOp; simp only [e3]; go_simp) rfl
  · have d1 : vs 1 = .string nu := hR 1 (by simp [hdep])
    have e4 : ac.eval (.tmp 4) = .string nu := (hE 4 (by simp)).trans (by simp [evF, hdep, d1])
    exact soft_value (.string ((⟨#[105, 118, 45]⟩ : ByteArray) ++ (nu : ByteArray))) (by have := HN.out; unfold execOp; simp only [e4, ec]; go_simp; omega) rfl
  · have e1 : ac.eval (.tmp 1) = .pointer (some ⟨g, 0, none⟩) := (hE 1 (by simp)).trans (by simp [evF, Act.eval])
    exact soft_value (.pointer (some ⟨g, 1, none⟩)) (by unfold execOp; simp only [e1]; kernel_rfl) rfl
  · have d3 : vs 3 = .pointer (some ⟨g, 1, none⟩) := hR 3 (by simp [hdep])
    have e6 : ac.eval (.tmp 6) = .pointer (some ⟨g, 1, none⟩) := (hE 6 (by simp)).trans (by simp [evF, hdep, d3])
    have hc1 : W1.cell? ⟨g, 1, none⟩ = some (.string se) := (HK0.out.below hB HK0.out.lt).cell 1
    exact soft_value (.string se) (by unfold execOp; simp only [e6]; go_simp) rfl
  · have e1 : ac.eval (.tmp 1) = .pointer (some ⟨g, 0, none⟩) := (hE 1 (by simp)).trans (by simp [evF, Act.eval])
    exact soft_value (.pointer (some ⟨g, 1, none⟩)) (by unfold execOp; simp only [e1]; kernel_rfl) rfl
  · have d5 : vs 5 = .pointer (some ⟨g, 1, none⟩) := hR 5 (by simp [hdep])
    have e8 : ac.eval (.tmp 8) = .pointer (some ⟨g, 1, none⟩) := (hE 8 (by simp)).trans (by simp [evF, hdep, d5])
    have hc1 : W1.cell? ⟨g, 1, none⟩ = some (.string se) := (HK0.out.below hB HK0.out.lt).cell 1
    exact soft_value (.string se) (by unfold execOp; simp only [e8]; go_simp) rfl
  · have e1 : ac.eval (.tmp 1) = .pointer (some ⟨g, 0, none⟩) := (hE 1 (by simp)).trans (by simp [evF, Act.eval])
    exact soft_value (.pointer (some ⟨g, 2, none⟩)) (by unfold execOp; simp only [e1]; kernel_rfl) rfl
  · have d7 : vs 7 = .pointer (some ⟨g, 2, none⟩) := hR 7 (by simp [hdep])
    have e10 : ac.eval (.tmp 10) = .pointer (some ⟨g, 2, none⟩) := (hE 10 (by simp)).trans (by simp [evF, hdep, d7])
    have hc2 : W1.cell? ⟨g, 2, none⟩ = some (.string bu) := (HK0.out.below hB HK0.out.lt).cell 2
    exact soft_value (.string bu) (by unfold execOp; simp only [e10]; go_simp) rfl
  · have e1 : ac.eval (.tmp 1) = .pointer (some ⟨g, 0, none⟩) := (hE 1 (by simp)).trans (by simp [evF, Act.eval])
    exact soft_value (.pointer (some ⟨g, 9, none⟩)) (by unfold execOp; simp only [e1]; kernel_rfl) rfl
  · have d9 : vs 9 = .pointer (some ⟨g, 9, none⟩) := hR 9 (by simp [hdep])
    have e12 : ac.eval (.tmp 12) = .pointer (some ⟨g, 9, none⟩) := (hE 12 (by simp)).trans (by simp [evF, hdep, d9])
    exact soft_value (.pointer (some ⟨g, 9, none⟩)) (by unfold execOp; simp only [e12]; kernel_rfl) rfl
  · have d10 : vs 10 = .pointer (some ⟨g, 9, none⟩) := hR 10 (by simp [hdep])
    have e13 : ac.eval (.tmp 13) = .pointer (some ⟨g, 9, none⟩) := (hE 13 (by simp)).trans (by simp [evF, hdep, d10])
    have hc9 : W1.cell? ⟨g, 9, none⟩ = some (.string cu) := (HK0.out.below hB HK0.out.lt).cell 9
    exact soft_value (.string cu) (by unfold execOp; simp only [e13]; go_simp) rfl
  · have e1 : ac.eval (.tmp 1) = .pointer (some ⟨g, 0, none⟩) := (hE 1 (by simp)).trans (by simp [evF, Act.eval])
    exact soft_value (.pointer (some ⟨g, 9, none⟩)) (by unfold execOp; simp only [e1]; kernel_rfl) rfl
  · have d12 : vs 12 = .pointer (some ⟨g, 9, none⟩) := hR 12 (by simp [hdep])
    have e15 : ac.eval (.tmp 15) = .pointer (some ⟨g, 9, none⟩) := (hE 15 (by simp)).trans (by simp [evF, hdep, d12])
    exact soft_value (.pointer (some ⟨g, 10, none⟩)) (by unfold execOp; simp only [e15]; kernel_rfl) rfl
  · have d13 : vs 13 = .pointer (some ⟨g, 10, none⟩) := hR 13 (by simp [hdep])
    have e16 : ac.eval (.tmp 16) = .pointer (some ⟨g, 10, none⟩) := (hE 16 (by simp)).trans (by simp [evF, hdep, d13])
    have hc10 : W1.cell? ⟨g, 10, none⟩ = some (.int .i64 am) := (HK0.out.below hB HK0.out.lt).cell 10
    exact soft_value (.int .i64 am) (by unfold execOp; simp only [e16]; go_simp) rfl
  · have d14 : vs 14 = .int .i64 am := hR 14 (by simp [hdep])
    have e17 : ac.eval (.tmp 17) = .int .i64 am := (hE 17 (by simp)).trans (by simp [evF, hdep, d14])
    refine soft_call 32 _ _ rfl (enters_fn Tryd.func32 (by kernel_rfl) rfl) #[.int .i64 am] (by simp [e17, ec]) ?_
    refine (digits_any am HI.out.1 W1 (HTB.out.on (HB0.out.trans (hB.mono HB0.out.size))).here).mono ?_
    rintro e9 w9 ⟨rfl, hb9⟩
    exact ⟨_, rfl, hb9, rfl⟩
  · have e1 : ac.eval (.tmp 1) = .pointer (some ⟨g, 0, none⟩) := (hE 1 (by simp)).trans (by simp [evF, Act.eval])
    exact soft_value (.pointer (some ⟨g, 7, none⟩)) (by unfold execOp; simp only [e1]; kernel_rfl) rfl
  · have d16 : vs 16 = .pointer (some ⟨g, 7, none⟩) := hR 16 (by simp [hdep])
    have e19 : ac.eval (.tmp 19) = .pointer (some ⟨g, 7, none⟩) := (hE 19 (by simp)).trans (by simp [evF, hdep, d16])
    have hc7 : W1.cell? ⟨g, 7, none⟩ = some (.string fr) := (HK0.out.below hB HK0.out.lt).cell 7
    exact soft_value (.string fr) (by unfold execOp; simp only [e19]; go_simp) rfl
  · have e1 : ac.eval (.tmp 1) = .pointer (some ⟨g, 0, none⟩) := (hE 1 (by simp)).trans (by simp [evF, Act.eval])
    exact soft_value (.pointer (some ⟨g, 8, none⟩)) (by unfold execOp; simp only [e1]; kernel_rfl) rfl
  · have d18 : vs 18 = .pointer (some ⟨g, 8, none⟩) := hR 18 (by simp [hdep])
    have e21 : ac.eval (.tmp 21) = .pointer (some ⟨g, 8, none⟩) := (hE 21 (by simp)).trans (by simp [evF, hdep, d18])
    have hc8 : W1.cell? ⟨g, 8, none⟩ = some (.string dst) := (HK0.out.below hB HK0.out.lt).cell 8
    exact soft_value (.string dst) (by unfold execOp; simp only [e21]; go_simp) rfl
  · have e1 : ac.eval (.tmp 1) = .pointer (some ⟨g, 0, none⟩) := (hE 1 (by simp)).trans (by simp [evF, Act.eval])
    exact soft_value (.pointer (some ⟨g, 11, none⟩)) (by unfold execOp; simp only [e1]; kernel_rfl) rfl
  · have d20 : vs 20 = .pointer (some ⟨g, 11, none⟩) := hR 20 (by simp [hdep])
    have e23 : ac.eval (.tmp 23) = .pointer (some ⟨g, 11, none⟩) := (hE 23 (by simp)).trans (by simp [evF, hdep, d20])
    have hc11 : W1.cell? ⟨g, 11, none⟩ = some (.slice none 0 0) := (HK0.out.below hB HK0.out.lt).cell 11
    exact soft_value (.slice none 0 0) (by unfold execOp; simp only [e23]; go_simp) rfl
  · have d21 : vs 21 = .slice none 0 0 := hR 21 (by simp [hdep])
    have e24 : ac.eval (.tmp 24) = .slice none 0 0 := (hE 24 (by simp)).trans (by simp [evF, hdep, d21])
    have hl : (Builtin.len_ #[45] 3 #[.slice none 0 0]).run Tryd.prog W1 = .ok (.int .i64 0) W1 := by kernel_rfl
    exact soft_value (.int .i64 0) (by simp [execOp, resolve, invoke, builtin, e24, hl, Result.andThen]) rfl
  · have d22 : vs 22 = .int .i64 0 := hR 22 (by simp [hdep])
    have e25 : ac.eval (.tmp 25) = .int .i64 0 := (hE 25 (by simp)).trans (by simp [evF, hdep, d22])
    refine soft_call 33 _ _ rfl (enters_fn Tryd.func33 (by kernel_rfl) rfl) #[.int .i64 0] (by simp [e25, ec]) ?_
    refine (count_any 0 ⟨by omega, by omega⟩ W1 (HTB.out.on (HB0.out.trans (hB.mono HB0.out.size))).here).mono ?_
    rintro e9 w9 ⟨rfl, hb9⟩
    exact ⟨_, rfl, hb9, rfl⟩
  · have e1 : ac.eval (.tmp 1) = .pointer (some ⟨g, 0, none⟩) := (hE 1 (by simp)).trans (by simp [evF, Act.eval])
    exact soft_value (.pointer (some ⟨g, 12, none⟩)) (by unfold execOp; simp only [e1]; kernel_rfl) rfl
  · have d24 : vs 24 = .pointer (some ⟨g, 12, none⟩) := hR 24 (by simp [hdep])
    have e27 : ac.eval (.tmp 27) = .pointer (some ⟨g, 12, none⟩) := (hE 27 (by simp)).trans (by simp [evF, hdep, d24])
    have hc12 : W1.cell? ⟨g, 12, none⟩ = some (.int .i64 term) := (HK0.out.below hB HK0.out.lt).cell 12
    exact soft_value (.int .i64 term) (by unfold execOp; simp only [e27]; go_simp) rfl
  · have d25 : vs 25 = .int .i64 term := hR 25 (by simp [hdep])
    have e28 : ac.eval (.tmp 28) = .int .i64 term := (hE 28 (by simp)).trans (by simp [evF, hdep, d25])
    refine soft_call 33 _ _ rfl (enters_fn Tryd.func33 (by kernel_rfl) rfl) #[.int .i64 term] (by simp [e28, ec]) ?_
    refine (count_any term HI.out.2 W1 (HTB.out.on (HB0.out.trans (hB.mono HB0.out.size))).here).mono ?_
    rintro e9 w9 ⟨rfl, hb9⟩
    exact ⟨_, rfl, hb9, rfl⟩
  · have d6 : vs 6 = .string se := hR 6 (by simp [hdep])
    have e9 : ac.eval (.tmp 9) = .string se := (hE 9 (by simp)).trans (by simp [evF, hdep, d6])
    have d8 : vs 8 = .string bu := hR 8 (by simp [hdep])
    have e11 : ac.eval (.tmp 11) = .string bu := (hE 11 (by simp)).trans (by simp [evF, hdep, d8])
    have d11 : vs 11 = .string cu := hR 11 (by simp [hdep])
    have e14 : ac.eval (.tmp 14) = .string cu := (hE 14 (by simp)).trans (by simp [evF, hdep, d11])
    have d15 : vs 15 = .string (itS am) := hR 15 (by simp [hdep])
    have e18 : ac.eval (.tmp 18) = .string (itS am) := (hE 18 (by simp)).trans (by simp [evF, hdep, d15])
    have d17 : vs 17 = .string fr := hR 17 (by simp [hdep])
    have e20 : ac.eval (.tmp 20) = .string fr := (hE 20 (by simp)).trans (by simp [evF, hdep, d17])
    have d19 : vs 19 = .string dst := hR 19 (by simp [hdep])
    have e22 : ac.eval (.tmp 22) = .string dst := (hE 22 (by simp)).trans (by simp [evF, hdep, d19])
    have d23 : vs 23 = .string (itS 0) := hR 23 (by simp [hdep])
    have e26 : ac.eval (.tmp 26) = .string (itS 0) := (hE 26 (by simp)).trans (by simp [evF, hdep, d23])
    have d26 : vs 26 = .string (itS term) := hR 26 (by simp [hdep])
    have e29 : ac.eval (.tmp 29) = .string (itS term) := (hE 29 (by simp)).trans (by simp [evF, hdep, d26])
    refine soft_build 73 9 16 _ rfl #[(0, .string ⟨#[115, 101, 108, 108, 101, 114]⟩), (1, .string se), (2, .string ⟨#[98, 117, 121, 101, 114]⟩), (3, .string bu), (4, .string ⟨#[99, 117, 114, 114, 101, 110, 99, 121]⟩), (5, .string cu), (6, .string ⟨#[115, 117, 109]⟩), (7, .string (itS am)), (8, .string ⟨#[102, 114, 111, 109]⟩), (9, .string fr), (10, .string ⟨#[116, 111]⟩), (11, .string dst), (12, .string ⟨#[98, 111, 120, 101, 115]⟩), (13, .string (itS 0)), (14, .string ⟨#[116, 101, 114, 109]⟩), (15, .string (itS term))] (by simp [e9, e11, e14, e18, e20, e22, e26, e29, ec]) #[.string ⟨#[115, 101, 108, 108, 101, 114]⟩, .string se, .string ⟨#[98, 117, 121, 101, 114]⟩, .string bu, .string ⟨#[99, 117, 114, 114, 101, 110, 99, 121]⟩, .string cu, .string ⟨#[115, 117, 109]⟩, .string ((itS am)), .string ⟨#[102, 114, 111, 109]⟩, .string fr, .string ⟨#[116, 111]⟩, .string dst, .string ⟨#[98, 111, 120, 101, 115]⟩, .string ((itS 0)), .string ⟨#[116, 101, 114, 109]⟩, .string ((itS term))] (bs16 ⟨#[115, 101, 108, 108, 101, 114]⟩ se ⟨#[98, 117, 121, 101, 114]⟩ bu ⟨#[99, 117, 114, 114, 101, 110, 99, 121]⟩ cu ⟨#[115, 117, 109]⟩ ((itS am)) ⟨#[102, 114, 111, 109]⟩ fr ⟨#[116, 111]⟩ dst ⟨#[98, 111, 120, 101, 115]⟩ ((itS 0)) ⟨#[116, 101, 114, 109]⟩ ((itS term)) W1) ⟨_, _, rfl, SliceOf.blk (en := strC) (Blk.new_at W1 9 _ _ rfl) [⟨#[115, 101, 108, 108, 101, 114]⟩, se, ⟨#[98, 117, 121, 101, 114]⟩, bu, ⟨#[99, 117, 114, 114, 101, 110, 99, 121]⟩, cu, ⟨#[115, 117, 109]⟩, (itS am), ⟨#[102, 114, 111, 109]⟩, fr, ⟨#[116, 111]⟩, dst, ⟨#[98, 111, 120, 101, 115]⟩, (itS 0), ⟨#[116, 101, 114, 109]⟩, (itS term)] rfl (fun _ => rfl) rfl, fun _ _ _ => Nat.zero_le _⟩
  · obtain ⟨A27, c27, d27, h27, _⟩ := (show (SlHi 0 1 strC 16 [⟨#[115, 101, 108, 108, 101, 114]⟩, se, ⟨#[98, 117, 121, 101, 114]⟩, bu, ⟨#[99, 117, 114, 114, 101, 110, 99, 121]⟩, cu, ⟨#[115, 117, 109]⟩, (itS am), ⟨#[102, 114, 111, 109]⟩, fr, ⟨#[116, 111]⟩, dst, ⟨#[98, 111, 120, 101, 115]⟩, (itS 0), ⟨#[116, 101, 114, 109]⟩, (itS term)]) (vs 27) W1 from hR 27 (by simp [hdep]))
    have e30 : ac.eval (.tmp 30) = .slice A27 16 c27 := (hE 30 (by simp)).trans (by simp [evF, hdep, d27])
    refine soft_call 31 _ _ rfl (enters_fn Tryd.func31 (by kernel_rfl) rfl) #[.slice A27 16 c27] (by simp [e30, ec]) ?_
    refine (fields_any A27 16 8 c27 [⟨#[115, 101, 108, 108, 101, 114]⟩, se, ⟨#[98, 117, 121, 101, 114]⟩, bu, ⟨#[99, 117, 114, 114, 101, 110, 99, 121]⟩, cu, ⟨#[115, 117, 109]⟩, (itS am), ⟨#[102, 114, 111, 109]⟩, fr, ⟨#[116, 111]⟩, dst, ⟨#[98, 111, 120, 101, 115]⟩, (itS 0), ⟨#[116, 101, 114, 109]⟩, (itS term)] W1 h27 rfl (by omega)).mono ?_
    rintro e9 w9 ⟨B, d, rfl, hs9, hA9, hb9⟩
    exact ⟨_, rfl, hb9, ⟨B, d, rfl, hs9, fun x off e => Nat.le_trans (Nat.le_trans HS0.out hB.size) (hA9 x off e)⟩⟩
  · have d2 : vs 2 = .string ((⟨#[105, 118, 45]⟩ : ByteArray) ++ (nu : ByteArray)) := hR 2 (by simp [hdep])
    have e5 : ac.eval (.tmp 5) = .string ((⟨#[105, 118, 45]⟩ : ByteArray) ++ (nu : ByteArray)) := (hE 5 (by simp)).trans (by simp [evF, hdep, d2])
    have d4 : vs 4 = .string se := hR 4 (by simp [hdep])
    have e7 : ac.eval (.tmp 7) = .string se := (hE 7 (by simp)).trans (by simp [evF, hdep, d4])
    obtain ⟨A28, c28, d28, h28, l28⟩ := (show (SlHi (g + 2) 2 fdC 8 (pairF ([⟨#[115, 101, 108, 108, 101, 114]⟩, se, ⟨#[98, 117, 121, 101, 114]⟩, bu, ⟨#[99, 117, 114, 114, 101, 110, 99, 121]⟩, cu, ⟨#[115, 117, 109]⟩, (itS am), ⟨#[102, 114, 111, 109]⟩, fr, ⟨#[116, 111]⟩, dst, ⟨#[98, 111, 120, 101, 115]⟩, (itS 0), ⟨#[116, 101, 114, 109]⟩, (itS term)].take (2 * 8)))) (vs 28) W1 from hR 28 (by simp [hdep]))
    have e31 : ac.eval (.tmp 31) = .slice A28 8 c28 := (hE 31 (by simp)).trans (by simp [evF, hdep, d28])
    exact soft_value (.agg #[.int .i64 0, .string ((⟨#[105, 118, 45]⟩ : ByteArray) ++ (nu : ByteArray)), .string se, .slice A28 8 c28]) (by unfold execOp; simp [e5, e7, e31, ec]; kernel_rfl) ⟨A28, c28, rfl, h28, l28⟩
  · have hall := hdep
    have e2 : ac.eval (.tmp 2) = .pointer (some ⟨g + 1, 0, none⟩) := (hE 2 (by simp)).trans (by simp [evF, Act.eval])
    obtain ⟨A28, c28, d29, h29, l29⟩ := (show (DocHi (g + 2) 0 ((⟨#[105, 118, 45]⟩ : ByteArray) ++ (nu : ByteArray)) se 8 (pairF ([⟨#[115, 101, 108, 108, 101, 114]⟩, se, ⟨#[98, 117, 121, 101, 114]⟩, bu, ⟨#[99, 117, 114, 114, 101, 110, 99, 121]⟩, cu, ⟨#[115, 117, 109]⟩, (itS am), ⟨#[102, 114, 111, 109]⟩, fr, ⟨#[116, 111]⟩, dst, ⟨#[98, 111, 120, 101, 115]⟩, (itS 0), ⟨#[116, 101, 114, 109]⟩, (itS term)].take (2 * 8)))) (vs 29) W1 from hR 29 (by omega))
    have e32 : ac.eval (.tmp 32) = .agg #[.int .i64 0, .string ((⟨#[105, 118, 45]⟩ : ByteArray) ++ (nu : ByteArray)), .string se, .slice A28 8 c28] := (hE 32 (by simp)).trans (by simp [evF, hall 29 (by omega), d29])
    have hk := HR0.out.below hB HR0.out.lt
    refine wp_store_row 66 _ _ rfl (g + 1) #[.int .i64 0, .string ((⟨#[105, 118, 45]⟩ : ByteArray) ++ (nu : ByteArray)), .string se, .slice A28 8 c28] e2 e32 66 _ hk (by kernel_rfl) rfl (by simp [Value.oneCell']) ⟨_, rfl, ?_⟩
    have hk2 : Blk (W1.setRow (g + 1) #[.int .i64 0, .string ((⟨#[105, 118, 45]⟩ : ByteArray) ++ (nu : ByteArray)), .string se, .slice A28 8 c28]) (g + 1) 66 #[.int .i64 0, .string ((⟨#[105, 118, 45]⟩ : ByteArray) ++ (nu : ByteArray)), .string se, .slice A28 8 c28] := setRow_heap W1 (g + 1) _ _ _ (0, 0) hk
    have hs2 := h29.rowF (g := g + 1) (cs := #[.int .i64 0, .string ((⟨#[105, 118, 45]⟩ : ByteArray) ++ (nu : ByteArray)), .string se, .slice A28 8 c28]) (fun x off e => by have := l29 x off e; omega)
    have hb2 : Below w.heap.size w (W1.setRow (g + 1) #[.int .i64 0, .string ((⟨#[105, 118, 45]⟩ : ByteArray) ++ (nu : ByteArray)), .string se, .slice A28 8 c28]) := (HB0.out.trans (hB.mono HB0.out.size)).trans ⟨rfl, rfl, rfl, by simp [World.setRow], fun j hj => setRow_other W1 (g + 1) j _ (by have := HG.out; omega)⟩
    have q0 := hk2.cell 0; have q1 := hk2.cell 1; have q2 := hk2.cell 2; have q3 := hk2.cell 3
    simp only [List.getElem?_toArray, List.getElem?_cons_zero, List.getElem?_cons_succ] at q0 q1 q2 q3
    simp only [fillA, Act.put, List.setIfInBounds_toArray, List.set_cons_zero, List.set_cons_succ, if_true]
    have HS2 := Lib.hid hs2
    have HB2 := Lib.hid hb2
    clear hs2 hb2 hk hk2 hB hR hE hdep hall
    go_wp2_with fail
    refine bodyPost_ret (v := .agg #[.int .i64 0, .string ((⟨#[105, 118, 45]⟩ : ByteArray) ++ (nu : ByteArray)), .string se, .slice A28 8 c28]) (by simp [results, Tryd.results24, go_sem, q0, q1, q2, q3]) rfl ?_
    exact ⟨_, _, rfl, HS2.out, HB2.out⟩
set_option maxRecDepth 100000 in
set_option maxHeartbeats 12800000 in
theorem packing_any (nu se bu ca is ho fr dst cu : ByteArray) (am term la ex te du : Int) (w : World) (h1 : I64 am) (h2 : I64 term) (hn : nu.size ≤ 1000) (ht : PowTab w) :
    Calls Tryd.prog 25 #[.agg #[.string nu, .string se, .string bu, .string ca, .string is, .string ho, .string ⟨#[]⟩, .string fr, .string dst, .string cu, .int .i64 am, .slice none 0 0, .int .i64 term, .int .i64 la, .int .i64 ex, .int .i64 te, .int .i64 du]] w (fun e w' => ∃ FS, DocIs w 1 ((⟨#[112, 107, 45]⟩ : ByteArray) ++ (nu : ByteArray)) se 6 FS e w') := by
  have HTB := Lib.hid (Lib.tabBelow_of_tabIs ht)
  have HI := Lib.hid (⟨h1, h2⟩ : I64 am ∧ I64 term)
  have HN := Lib.hid hn
  clear ht h1 h2 hn
  have HB0 := Lib.hid (two_alloc w (.cells #[.string nu, .string se, .string bu, .string ca, .string is, .string ho, .string ⟨#[]⟩, .string fr, .string dst, .string cu, .int .i64 am, .slice none 0 0, .int .i64 term, .int .i64 la, .int .i64 ex, .int .i64 te, .int .i64 du] 47) (.cells #[.int .i64 0, .string ⟨#[]⟩, .string ⟨#[]⟩, .slice none 0 0] 66))
  have HK0 : Hid (Blk ((w.alloc (.cells #[.string nu, .string se, .string bu, .string ca, .string is, .string ho, .string ⟨#[]⟩, .string fr, .string dst, .string cu, .int .i64 am, .slice none 0 0, .int .i64 term, .int .i64 la, .int .i64 ex, .int .i64 te, .int .i64 du] 47)).alloc (.cells #[.int .i64 0, .string ⟨#[]⟩, .string ⟨#[]⟩, .slice none 0 0] 66)) w.heap.size 47 #[.string nu, .string se, .string bu, .string ca, .string is, .string ho, .string ⟨#[]⟩, .string fr, .string dst, .string cu, .int .i64 am, .slice none 0 0, .int .i64 term, .int .i64 la, .int .i64 ex, .int .i64 te, .int .i64 du]) := Lib.hid ((Blk.new _ _ _).alloc _)
  have HR0 : Hid (Blk ((w.alloc (.cells #[.string nu, .string se, .string bu, .string ca, .string is, .string ho, .string ⟨#[]⟩, .string fr, .string dst, .string cu, .int .i64 am, .slice none 0 0, .int .i64 term, .int .i64 la, .int .i64 ex, .int .i64 te, .int .i64 du] 47)).alloc (.cells #[.int .i64 0, .string ⟨#[]⟩, .string ⟨#[]⟩, .slice none 0 0] 66)) (w.heap.size + 1) 66 #[.int .i64 0, .string ⟨#[]⟩, .string ⟨#[]⟩, .slice none 0 0]) := Lib.hid (blk_second _ _ _ _)
  have HS0 : Hid (w.heap.size + 2 ≤ ((w.alloc (.cells #[.string nu, .string se, .string bu, .string ca, .string is, .string ho, .string ⟨#[]⟩, .string fr, .string dst, .string cu, .int .i64 am, .slice none 0 0, .int .i64 term, .int .i64 la, .int .i64 ex, .int .i64 te, .int .i64 du] 47)).alloc (.cells #[.int .i64 0, .string ⟨#[]⟩, .string ⟨#[]⟩, .slice none 0 0] 66)).heap.size) := Lib.hid (by simp)
  obtain ⟨g, hg⟩ : ∃ g, w.heap.size = g := ⟨_, rfl⟩
  rw [hg] at HK0 HR0 HS0
  have HG := Lib.hid hg
  go_enter Tryd.func25, Tryd.ntmps25
  go_wp2_with fail
  clear hg
  refine wp_region_soft_last [Is (.pointer (some ⟨g, 0, none⟩)), Is (.string nu), Is (.string ((⟨#[112, 107, 45]⟩ : ByteArray) ++ (nu : ByteArray))), Is (.pointer (some ⟨g, 1, none⟩)), Is (.string se), Is (.pointer (some ⟨g, 1, none⟩)), Is (.string se), Is (.pointer (some ⟨g, 7, none⟩)), Is (.string fr), Is (.pointer (some ⟨g, 8, none⟩)), Is (.string dst), Is (.pointer (some ⟨g, 11, none⟩)), Is (.slice none 0 0), Is (.int .i64 0), Is (.string (itS 0)), Is (.pointer (some ⟨g, 11, none⟩)), Is (.slice none 0 0), Is (.string ⟨#[]⟩), Is (.pointer (some ⟨g, 11, none⟩)), Is (.slice none 0 0), AnyT, fun v W => ∃ s20 : ByteArray, SlHi 0 1 strC 12 [⟨#[115, 101, 108, 108, 101, 114]⟩, se, ⟨#[102, 114, 111, 109]⟩, fr, ⟨#[116, 111]⟩, dst, ⟨#[98, 111, 120, 101, 115]⟩, (itS 0), ⟨#[109, 97, 114, 107, 115]⟩, ⟨#[]⟩, ⟨#[99, 111, 110, 116, 101, 110, 116]⟩, s20] v W, fun v W => ∃ FS : List Fd, SlHi (g + 2) 2 fdC 6 FS v W, fun v W => ∃ FS : List Fd, DocHi (g + 2) 1 ((⟨#[112, 107, 45]⟩ : ByteArray) ++ (nu : ByteArray)) se 6 FS v W] ⟨stab_is _, stab_is _, stab_is _, stab_is _, stab_is _, stab_is _, stab_is _, stab_is _, stab_is _, stab_is _, stab_is _, stab_is _, stab_is _, stab_is _, stab_is _, stab_is _, stab_is _, stab_is _, stab_is _, stab_is _, stab_anyt, (fun _ _ _ ⟨s, A, c, h1, h2, h3⟩ hb => ⟨s, A, c, h1, h2.below hb, h3⟩), (fun _ _ _ ⟨s, A, c, h1, h2, h3⟩ hb => ⟨s, A, c, h1, h2.below hb, h3⟩), (fun _ _ _ ⟨s, A, c, h1, h2, h3⟩ hb => ⟨s, A, c, h1, h2.below hb, h3⟩), trivial⟩ (by kernel_rfl) (by kernel_rfl) (by kernel_rfl) (by simp) ?_
  refine ⟨?_, ?_, ?_, ?_, ?_, ?_, ?_, ?_, ?_, ?_, ?_, ?_, ?_, ?_, ?_, ?_, ?_, ?_, ?_, ?_, ?_, ?_, ?_, ?_, ?_⟩
  all_goals intro done vs ac W1 hdep hB hR hE
  all_goals have ec : ∀ v : Value, ac.eval (.const v) = v := fun _ => rfl
  all_goals try simp [Region.binds] at hdep
  · have e1 : ac.eval (.tmp 1) = .pointer (some ⟨g, 0, none⟩) := (hE 1 (by simp)).trans (by simp [evF, Act.eval])
    exact soft_value (.pointer (some ⟨g, 0, none⟩)) (by unfold execOp; simp only [e1]; kernel_rfl) rfl
  · have d0 : vs 0 = .pointer (some ⟨g, 0, none⟩) := hR 0 (by simp [hdep])
    have e3 : ac.eval (.tmp 3) = .pointer (some ⟨g, 0, none⟩) := (hE 3 (by simp)).trans (by simp [evF, hdep, d0])
    have hc0 : W1.cell? ⟨g, 0, none⟩ = some (.string nu) := (HK0.out.below hB HK0.out.lt).cell 0
    exact soft_value (.string nu) (by unfold execOp; simp only [e3]; go_simp) rfl
  · have d1 : vs 1 = .string nu := hR 1 (by simp [hdep])
    have e4 : ac.eval (.tmp 4) = .string nu := (hE 4 (by simp)).trans (by simp [evF, hdep, d1])
    exact soft_value (.string ((⟨#[112, 107, 45]⟩ : ByteArray) ++ (nu : ByteArray))) (by have := HN.out; unfold execOp; simp only [e4, ec]; go_simp; omega) rfl
  · have e1 : ac.eval (.tmp 1) = .pointer (some ⟨g, 0, none⟩) := (hE 1 (by simp)).trans (by simp [evF, Act.eval])
    exact soft_value (.pointer (some ⟨g, 1, none⟩)) (by unfold execOp; simp only [e1]; kernel_rfl) rfl
  · have d3 : vs 3 = .pointer (some ⟨g, 1, none⟩) := hR 3 (by simp [hdep])
    have e6 : ac.eval (.tmp 6) = .pointer (some ⟨g, 1, none⟩) := (hE 6 (by simp)).trans (by simp [evF, hdep, d3])
    have hc1 : W1.cell? ⟨g, 1, none⟩ = some (.string se) := (HK0.out.below hB HK0.out.lt).cell 1
    exact soft_value (.string se) (by unfold execOp; simp only [e6]; go_simp) rfl
  · have e1 : ac.eval (.tmp 1) = .pointer (some ⟨g, 0, none⟩) := (hE 1 (by simp)).trans (by simp [evF, Act.eval])
    exact soft_value (.pointer (some ⟨g, 1, none⟩)) (by unfold execOp; simp only [e1]; kernel_rfl) rfl
  · have d5 : vs 5 = .pointer (some ⟨g, 1, none⟩) := hR 5 (by simp [hdep])
    have e8 : ac.eval (.tmp 8) = .pointer (some ⟨g, 1, none⟩) := (hE 8 (by simp)).trans (by simp [evF, hdep, d5])
    have hc1 : W1.cell? ⟨g, 1, none⟩ = some (.string se) := (HK0.out.below hB HK0.out.lt).cell 1
    exact soft_value (.string se) (by unfold execOp; simp only [e8]; go_simp) rfl
  · have e1 : ac.eval (.tmp 1) = .pointer (some ⟨g, 0, none⟩) := (hE 1 (by simp)).trans (by simp [evF, Act.eval])
    exact soft_value (.pointer (some ⟨g, 7, none⟩)) (by unfold execOp; simp only [e1]; kernel_rfl) rfl
  · have d7 : vs 7 = .pointer (some ⟨g, 7, none⟩) := hR 7 (by simp [hdep])
    have e10 : ac.eval (.tmp 10) = .pointer (some ⟨g, 7, none⟩) := (hE 10 (by simp)).trans (by simp [evF, hdep, d7])
    have hc7 : W1.cell? ⟨g, 7, none⟩ = some (.string fr) := (HK0.out.below hB HK0.out.lt).cell 7
    exact soft_value (.string fr) (by unfold execOp; simp only [e10]; go_simp) rfl
  · have e1 : ac.eval (.tmp 1) = .pointer (some ⟨g, 0, none⟩) := (hE 1 (by simp)).trans (by simp [evF, Act.eval])
    exact soft_value (.pointer (some ⟨g, 8, none⟩)) (by unfold execOp; simp only [e1]; kernel_rfl) rfl
  · have d9 : vs 9 = .pointer (some ⟨g, 8, none⟩) := hR 9 (by simp [hdep])
    have e12 : ac.eval (.tmp 12) = .pointer (some ⟨g, 8, none⟩) := (hE 12 (by simp)).trans (by simp [evF, hdep, d9])
    have hc8 : W1.cell? ⟨g, 8, none⟩ = some (.string dst) := (HK0.out.below hB HK0.out.lt).cell 8
    exact soft_value (.string dst) (by unfold execOp; simp only [e12]; go_simp) rfl
  · have e1 : ac.eval (.tmp 1) = .pointer (some ⟨g, 0, none⟩) := (hE 1 (by simp)).trans (by simp [evF, Act.eval])
    exact soft_value (.pointer (some ⟨g, 11, none⟩)) (by unfold execOp; simp only [e1]; kernel_rfl) rfl
  · have d11 : vs 11 = .pointer (some ⟨g, 11, none⟩) := hR 11 (by simp [hdep])
    have e14 : ac.eval (.tmp 14) = .pointer (some ⟨g, 11, none⟩) := (hE 14 (by simp)).trans (by simp [evF, hdep, d11])
    have hc11 : W1.cell? ⟨g, 11, none⟩ = some (.slice none 0 0) := (HK0.out.below hB HK0.out.lt).cell 11
    exact soft_value (.slice none 0 0) (by unfold execOp; simp only [e14]; go_simp) rfl
  · have d12 : vs 12 = .slice none 0 0 := hR 12 (by simp [hdep])
    have e15 : ac.eval (.tmp 15) = .slice none 0 0 := (hE 15 (by simp)).trans (by simp [evF, hdep, d12])
    have hl : (Builtin.len_ #[45] 3 #[.slice none 0 0]).run Tryd.prog W1 = .ok (.int .i64 0) W1 := by kernel_rfl
    exact soft_value (.int .i64 0) (by simp [execOp, resolve, invoke, builtin, e15, hl, Result.andThen]) rfl
  · have d13 : vs 13 = .int .i64 0 := hR 13 (by simp [hdep])
    have e16 : ac.eval (.tmp 16) = .int .i64 0 := (hE 16 (by simp)).trans (by simp [evF, hdep, d13])
    refine soft_call 33 _ _ rfl (enters_fn Tryd.func33 (by kernel_rfl) rfl) #[.int .i64 0] (by simp [e16, ec]) ?_
    refine (count_any 0 ⟨by omega, by omega⟩ W1 (HTB.out.on (HB0.out.trans (hB.mono HB0.out.size))).here).mono ?_
    rintro e9 w9 ⟨rfl, hb9⟩
    exact ⟨_, rfl, hb9, rfl⟩
  · have e1 : ac.eval (.tmp 1) = .pointer (some ⟨g, 0, none⟩) := (hE 1 (by simp)).trans (by simp [evF, Act.eval])
    exact soft_value (.pointer (some ⟨g, 11, none⟩)) (by unfold execOp; simp only [e1]; kernel_rfl) rfl
  · have d15 : vs 15 = .pointer (some ⟨g, 11, none⟩) := hR 15 (by simp [hdep])
    have e18 : ac.eval (.tmp 18) = .pointer (some ⟨g, 11, none⟩) := (hE 18 (by simp)).trans (by simp [evF, hdep, d15])
    have hc11 : W1.cell? ⟨g, 11, none⟩ = some (.slice none 0 0) := (HK0.out.below hB HK0.out.lt).cell 11
    exact soft_value (.slice none 0 0) (by unfold execOp; simp only [e18]; go_simp) rfl
  · have d16 : vs 16 = .slice none 0 0 := hR 16 (by simp [hdep])
    have e19 : ac.eval (.tmp 19) = .slice none 0 0 := (hE 19 (by simp)).trans (by simp [evF, hdep, d16])
    refine soft_call 27 _ _ rfl (enters_fn Tryd.func27 (by kernel_rfl) rfl) #[.slice none 0 0] (by simp [e19, ec]) ?_
    refine (marks_none W1).mono ?_
    rintro e9 w9 ⟨rfl, hb9⟩
    exact ⟨_, rfl, hb9, rfl⟩
  · have e1 : ac.eval (.tmp 1) = .pointer (some ⟨g, 0, none⟩) := (hE 1 (by simp)).trans (by simp [evF, Act.eval])
    exact soft_value (.pointer (some ⟨g, 11, none⟩)) (by unfold execOp; simp only [e1]; kernel_rfl) rfl
  · have d18 : vs 18 = .pointer (some ⟨g, 11, none⟩) := hR 18 (by simp [hdep])
    have e21 : ac.eval (.tmp 21) = .pointer (some ⟨g, 11, none⟩) := (hE 21 (by simp)).trans (by simp [evF, hdep, d18])
    have hc11 : W1.cell? ⟨g, 11, none⟩ = some (.slice none 0 0) := (HK0.out.below hB HK0.out.lt).cell 11
    exact soft_value (.slice none 0 0) (by unfold execOp; simp only [e21]; go_simp) rfl
  · have d19 : vs 19 = .slice none 0 0 := hR 19 (by simp [hdep])
    have e22 : ac.eval (.tmp 22) = .slice none 0 0 := (hE 22 (by simp)).trans (by simp [evF, hdep, d19])
    refine soft_call 34 _ _ rfl (enters_fn Tryd.func34 (by kernel_rfl) rfl) #[.slice none 0 0] (by simp [e22, ec]) ?_
    refine (list_none W1).mono ?_
    rintro e9 w9 ⟨s, rfl, hb9⟩
    exact ⟨_, rfl, hb9, ⟨s, rfl⟩⟩
  · have d6 : vs 6 = .string se := hR 6 (by simp [hdep])
    have e9 : ac.eval (.tmp 9) = .string se := (hE 9 (by simp)).trans (by simp [evF, hdep, d6])
    have d8 : vs 8 = .string fr := hR 8 (by simp [hdep])
    have e11 : ac.eval (.tmp 11) = .string fr := (hE 11 (by simp)).trans (by simp [evF, hdep, d8])
    have d10 : vs 10 = .string dst := hR 10 (by simp [hdep])
    have e13 : ac.eval (.tmp 13) = .string dst := (hE 13 (by simp)).trans (by simp [evF, hdep, d10])
    have d14 : vs 14 = .string (itS 0) := hR 14 (by simp [hdep])
    have e17 : ac.eval (.tmp 17) = .string (itS 0) := (hE 17 (by simp)).trans (by simp [evF, hdep, d14])
    have d17 : vs 17 = .string ⟨#[]⟩ := hR 17 (by simp [hdep])
    have e20 : ac.eval (.tmp 20) = .string ⟨#[]⟩ := (hE 20 (by simp)).trans (by simp [evF, hdep, d17])
    obtain ⟨s20, d20⟩ := (show (AnyT) (vs 20) W1 from hR 20 (by simp [hdep]))
    have e23 : ac.eval (.tmp 23) = .string s20 := (hE 23 (by simp)).trans (by simp [evF, hdep, d20])
    refine soft_build 73 9 12 _ rfl #[(0, .string ⟨#[115, 101, 108, 108, 101, 114]⟩), (1, .string se), (2, .string ⟨#[102, 114, 111, 109]⟩), (3, .string fr), (4, .string ⟨#[116, 111]⟩), (5, .string dst), (6, .string ⟨#[98, 111, 120, 101, 115]⟩), (7, .string (itS 0)), (8, .string ⟨#[109, 97, 114, 107, 115]⟩), (9, .string ⟨#[]⟩), (10, .string ⟨#[99, 111, 110, 116, 101, 110, 116]⟩), (11, .string s20)] (by simp [e9, e11, e13, e17, e20, e23, ec]) #[.string ⟨#[115, 101, 108, 108, 101, 114]⟩, .string se, .string ⟨#[102, 114, 111, 109]⟩, .string fr, .string ⟨#[116, 111]⟩, .string dst, .string ⟨#[98, 111, 120, 101, 115]⟩, .string ((itS 0)), .string ⟨#[109, 97, 114, 107, 115]⟩, .string ⟨#[]⟩, .string ⟨#[99, 111, 110, 116, 101, 110, 116]⟩, .string s20] (bs12 ⟨#[115, 101, 108, 108, 101, 114]⟩ se ⟨#[102, 114, 111, 109]⟩ fr ⟨#[116, 111]⟩ dst ⟨#[98, 111, 120, 101, 115]⟩ ((itS 0)) ⟨#[109, 97, 114, 107, 115]⟩ ⟨#[]⟩ ⟨#[99, 111, 110, 116, 101, 110, 116]⟩ s20 W1) ⟨s20, _, _, rfl, SliceOf.blk (en := strC) (Blk.new_at W1 9 _ _ rfl) [⟨#[115, 101, 108, 108, 101, 114]⟩, se, ⟨#[102, 114, 111, 109]⟩, fr, ⟨#[116, 111]⟩, dst, ⟨#[98, 111, 120, 101, 115]⟩, (itS 0), ⟨#[109, 97, 114, 107, 115]⟩, ⟨#[]⟩, ⟨#[99, 111, 110, 116, 101, 110, 116]⟩, s20] rfl (fun _ => rfl) rfl, fun _ _ _ => Nat.zero_le _⟩
  · obtain ⟨s20, A21, c21, d21, h21, _⟩ := (show (fun v W => ∃ s20 : ByteArray, SlHi 0 1 strC 12 [⟨#[115, 101, 108, 108, 101, 114]⟩, se, ⟨#[102, 114, 111, 109]⟩, fr, ⟨#[116, 111]⟩, dst, ⟨#[98, 111, 120, 101, 115]⟩, (itS 0), ⟨#[109, 97, 114, 107, 115]⟩, ⟨#[]⟩, ⟨#[99, 111, 110, 116, 101, 110, 116]⟩, s20] v W) (vs 21) W1 from hR 21 (by simp [hdep]))
    have e24 : ac.eval (.tmp 24) = .slice A21 12 c21 := (hE 24 (by simp)).trans (by simp [evF, hdep, d21])
    refine soft_call 31 _ _ rfl (enters_fn Tryd.func31 (by kernel_rfl) rfl) #[.slice A21 12 c21] (by simp [e24, ec]) ?_
    refine (fields_any A21 12 6 c21 [⟨#[115, 101, 108, 108, 101, 114]⟩, se, ⟨#[102, 114, 111, 109]⟩, fr, ⟨#[116, 111]⟩, dst, ⟨#[98, 111, 120, 101, 115]⟩, (itS 0), ⟨#[109, 97, 114, 107, 115]⟩, ⟨#[]⟩, ⟨#[99, 111, 110, 116, 101, 110, 116]⟩, s20] W1 h21 rfl (by omega)).mono ?_
    rintro e9 w9 ⟨B, d, rfl, hs9, hA9, hb9⟩
    exact ⟨_, rfl, hb9, ⟨_, B, d, rfl, hs9, fun x off e => Nat.le_trans (Nat.le_trans HS0.out hB.size) (hA9 x off e)⟩⟩
  · have d2 : vs 2 = .string ((⟨#[112, 107, 45]⟩ : ByteArray) ++ (nu : ByteArray)) := hR 2 (by simp [hdep])
    have e5 : ac.eval (.tmp 5) = .string ((⟨#[112, 107, 45]⟩ : ByteArray) ++ (nu : ByteArray)) := (hE 5 (by simp)).trans (by simp [evF, hdep, d2])
    have d4 : vs 4 = .string se := hR 4 (by simp [hdep])
    have e7 : ac.eval (.tmp 7) = .string se := (hE 7 (by simp)).trans (by simp [evF, hdep, d4])
    obtain ⟨FS, A22, c22, d22, h22, l22⟩ := (show (fun v W => ∃ FS : List Fd, SlHi (g + 2) 2 fdC 6 FS v W) (vs 22) W1 from hR 22 (by simp [hdep]))
    have e25 : ac.eval (.tmp 25) = .slice A22 6 c22 := (hE 25 (by simp)).trans (by simp [evF, hdep, d22])
    exact soft_value (.agg #[.int .i64 1, .string ((⟨#[112, 107, 45]⟩ : ByteArray) ++ (nu : ByteArray)), .string se, .slice A22 6 c22]) (by unfold execOp; simp [e5, e7, e25, ec]; kernel_rfl) ⟨_, A22, c22, rfl, h22, l22⟩
  · have hall := hdep
    have e2 : ac.eval (.tmp 2) = .pointer (some ⟨g + 1, 0, none⟩) := (hE 2 (by simp)).trans (by simp [evF, Act.eval])
    obtain ⟨FS, A22, c22, d23, h23, l23⟩ := (show (fun v W => ∃ FS : List Fd, DocHi (g + 2) 1 ((⟨#[112, 107, 45]⟩ : ByteArray) ++ (nu : ByteArray)) se 6 FS v W) (vs 23) W1 from hR 23 (by omega))
    have e26 : ac.eval (.tmp 26) = .agg #[.int .i64 1, .string ((⟨#[112, 107, 45]⟩ : ByteArray) ++ (nu : ByteArray)), .string se, .slice A22 6 c22] := (hE 26 (by simp)).trans (by simp [evF, hall 23 (by omega), d23])
    have hk := HR0.out.below hB HR0.out.lt
    refine wp_store_row 66 _ _ rfl (g + 1) #[.int .i64 1, .string ((⟨#[112, 107, 45]⟩ : ByteArray) ++ (nu : ByteArray)), .string se, .slice A22 6 c22] e2 e26 66 _ hk (by kernel_rfl) rfl (by simp [Value.oneCell']) ⟨_, rfl, ?_⟩
    have hk2 : Blk (W1.setRow (g + 1) #[.int .i64 1, .string ((⟨#[112, 107, 45]⟩ : ByteArray) ++ (nu : ByteArray)), .string se, .slice A22 6 c22]) (g + 1) 66 #[.int .i64 1, .string ((⟨#[112, 107, 45]⟩ : ByteArray) ++ (nu : ByteArray)), .string se, .slice A22 6 c22] := setRow_heap W1 (g + 1) _ _ _ (0, 0) hk
    have hs2 := h23.rowF (g := g + 1) (cs := #[.int .i64 1, .string ((⟨#[112, 107, 45]⟩ : ByteArray) ++ (nu : ByteArray)), .string se, .slice A22 6 c22]) (fun x off e => by have := l23 x off e; omega)
    have hb2 : Below w.heap.size w (W1.setRow (g + 1) #[.int .i64 1, .string ((⟨#[112, 107, 45]⟩ : ByteArray) ++ (nu : ByteArray)), .string se, .slice A22 6 c22]) := (HB0.out.trans (hB.mono HB0.out.size)).trans ⟨rfl, rfl, rfl, by simp [World.setRow], fun j hj => setRow_other W1 (g + 1) j _ (by have := HG.out; omega)⟩
    have q0 := hk2.cell 0; have q1 := hk2.cell 1; have q2 := hk2.cell 2; have q3 := hk2.cell 3
    simp only [List.getElem?_toArray, List.getElem?_cons_zero, List.getElem?_cons_succ] at q0 q1 q2 q3
    simp only [fillA, Act.put, List.setIfInBounds_toArray, List.set_cons_zero, List.set_cons_succ, if_true]
    have HS2 := Lib.hid hs2
    have HB2 := Lib.hid hb2
    clear hs2 hb2 hk hk2 hB hR hE hdep hall
    go_wp2_with fail
    refine bodyPost_ret (v := .agg #[.int .i64 1, .string ((⟨#[112, 107, 45]⟩ : ByteArray) ++ (nu : ByteArray)), .string se, .slice A22 6 c22]) (by simp [results, Tryd.results25, go_sem, q0, q1, q2, q3]) rfl ?_
    exact ⟨_, _, _, rfl, HS2.out, HB2.out⟩
set_option maxRecDepth 100000 in
set_option maxHeartbeats 12800000 in
theorem origin_any (nu se bu ca is ho fr dst cu : ByteArray) (am term la ex te du : Int) (w : World) (h1 : I64 am) (h2 : I64 term) (hn : nu.size ≤ 1000) (ht : PowTab w) (co : ByteArray) :
    Calls Tryd.prog 28 #[.agg #[.string nu, .string se, .string bu, .string ca, .string is, .string ho, .string ⟨#[]⟩, .string fr, .string dst, .string cu, .int .i64 am, .slice none 0 0, .int .i64 term, .int .i64 la, .int .i64 ex, .int .i64 te, .int .i64 du], .string co] w (DocIs w 4 ((⟨#[111, 114, 45]⟩ : ByteArray) ++ (nu : ByteArray)) se 3 (pairF ([⟨#[115, 101, 108, 108, 101, 114]⟩, se, ⟨#[99, 111, 117, 110, 116, 114, 121]⟩, co, ⟨#[98, 111, 120, 101, 115]⟩, (itS 0)].take (2 * 3)))) := by
  have HTB := Lib.hid (Lib.tabBelow_of_tabIs ht)
  have HI := Lib.hid (⟨h1, h2⟩ : I64 am ∧ I64 term)
  have HN := Lib.hid hn
  clear ht h1 h2 hn
  have HB0 := Lib.hid (two_alloc w (.cells #[.string nu, .string se, .string bu, .string ca, .string is, .string ho, .string ⟨#[]⟩, .string fr, .string dst, .string cu, .int .i64 am, .slice none 0 0, .int .i64 term, .int .i64 la, .int .i64 ex, .int .i64 te, .int .i64 du] 47) (.cells #[.int .i64 0, .string ⟨#[]⟩, .string ⟨#[]⟩, .slice none 0 0] 66))
  have HK0 : Hid (Blk ((w.alloc (.cells #[.string nu, .string se, .string bu, .string ca, .string is, .string ho, .string ⟨#[]⟩, .string fr, .string dst, .string cu, .int .i64 am, .slice none 0 0, .int .i64 term, .int .i64 la, .int .i64 ex, .int .i64 te, .int .i64 du] 47)).alloc (.cells #[.int .i64 0, .string ⟨#[]⟩, .string ⟨#[]⟩, .slice none 0 0] 66)) w.heap.size 47 #[.string nu, .string se, .string bu, .string ca, .string is, .string ho, .string ⟨#[]⟩, .string fr, .string dst, .string cu, .int .i64 am, .slice none 0 0, .int .i64 term, .int .i64 la, .int .i64 ex, .int .i64 te, .int .i64 du]) := Lib.hid ((Blk.new _ _ _).alloc _)
  have HR0 : Hid (Blk ((w.alloc (.cells #[.string nu, .string se, .string bu, .string ca, .string is, .string ho, .string ⟨#[]⟩, .string fr, .string dst, .string cu, .int .i64 am, .slice none 0 0, .int .i64 term, .int .i64 la, .int .i64 ex, .int .i64 te, .int .i64 du] 47)).alloc (.cells #[.int .i64 0, .string ⟨#[]⟩, .string ⟨#[]⟩, .slice none 0 0] 66)) (w.heap.size + 1) 66 #[.int .i64 0, .string ⟨#[]⟩, .string ⟨#[]⟩, .slice none 0 0]) := Lib.hid (blk_second _ _ _ _)
  have HS0 : Hid (w.heap.size + 2 ≤ ((w.alloc (.cells #[.string nu, .string se, .string bu, .string ca, .string is, .string ho, .string ⟨#[]⟩, .string fr, .string dst, .string cu, .int .i64 am, .slice none 0 0, .int .i64 term, .int .i64 la, .int .i64 ex, .int .i64 te, .int .i64 du] 47)).alloc (.cells #[.int .i64 0, .string ⟨#[]⟩, .string ⟨#[]⟩, .slice none 0 0] 66)).heap.size) := Lib.hid (by simp)
  obtain ⟨g, hg⟩ : ∃ g, w.heap.size = g := ⟨_, rfl⟩
  rw [hg] at HK0 HR0 HS0
  have HG := Lib.hid hg
  go_enter Tryd.func28, Tryd.ntmps28
  go_wp2_with fail
  clear hg
  refine wp_region_soft_last [Is (.pointer (some ⟨g, 0, none⟩)), Is (.string nu), Is (.string ((⟨#[111, 114, 45]⟩ : ByteArray) ++ (nu : ByteArray))), Is (.pointer (some ⟨g, 1, none⟩)), Is (.string se), Is (.pointer (some ⟨g, 1, none⟩)), Is (.string se), Is (.string co), Is (.pointer (some ⟨g, 11, none⟩)), Is (.slice none 0 0), Is (.int .i64 0), Is (.string (itS 0)), SlHi 0 1 strC 6 [⟨#[115, 101, 108, 108, 101, 114]⟩, se, ⟨#[99, 111, 117, 110, 116, 114, 121]⟩, co, ⟨#[98, 111, 120, 101, 115]⟩, (itS 0)], SlHi (g + 2) 2 fdC 3 (pairF ([⟨#[115, 101, 108, 108, 101, 114]⟩, se, ⟨#[99, 111, 117, 110, 116, 114, 121]⟩, co, ⟨#[98, 111, 120, 101, 115]⟩, (itS 0)].take (2 * 3))), DocHi (g + 2) 4 ((⟨#[111, 114, 45]⟩ : ByteArray) ++ (nu : ByteArray)) se 3 (pairF ([⟨#[115, 101, 108, 108, 101, 114]⟩, se, ⟨#[99, 111, 117, 110, 116, 114, 121]⟩, co, ⟨#[98, 111, 120, 101, 115]⟩, (itS 0)].take (2 * 3)))] ⟨stab_is _, stab_is _, stab_is _, stab_is _, stab_is _, stab_is _, stab_is _, stab_is _, stab_is _, stab_is _, stab_is _, stab_is _, stab_slhi _ _ _ _ _, stab_slhi _ _ _ _ _, stab_dochi _ _ _ _ _ _, trivial⟩ (by kernel_rfl) (by kernel_rfl) (by kernel_rfl) (by simp) ?_
  refine ⟨?_, ?_, ?_, ?_, ?_, ?_, ?_, ?_, ?_, ?_, ?_, ?_, ?_, ?_, ?_, ?_⟩
  all_goals intro done vs ac W1 hdep hB hR hE
  all_goals have ec : ∀ v : Value, ac.eval (.const v) = v := fun _ => rfl
  all_goals try simp [Region.binds] at hdep
  · have e2 : ac.eval (.tmp 2) = .pointer (some ⟨g, 0, none⟩) := (hE 2 (by simp)).trans (by simp [evF, Act.eval])
    exact soft_value (.pointer (some ⟨g, 0, none⟩)) (by unfold execOp; simp only [e2]; kernel_rfl) rfl
  · have d0 : vs 0 = .pointer (some ⟨g, 0, none⟩) := hR 0 (by simp [hdep])
    have e5 : ac.eval (.tmp 5) = .pointer (some ⟨g, 0, none⟩) := (hE 5 (by simp)).trans (by simp [evF, hdep, d0])
    have hc0 : W1.cell? ⟨g, 0, none⟩ = some (.string nu) := (HK0.out.below hB HK0.out.lt).cell 0
    exact soft_value (.string nu) (by unfold execOp; simp only [e5]; go_simp) rfl
  · have d1 : vs 1 = .string nu := hR 1 (by simp [hdep])
    have e6 : ac.eval (.tmp 6) = .string nu := (hE 6 (by simp)).trans (by simp [evF, hdep, d1])
    exact soft_value (.string ((⟨#[111, 114, 45]⟩ : ByteArray) ++ (nu : ByteArray))) (by have := HN.out; unfold execOp; simp only [e6, ec]; go_simp; omega) rfl
  · have e2 : ac.eval (.tmp 2) = .pointer (some ⟨g, 0, none⟩) := (hE 2 (by simp)).trans (by simp [evF, Act.eval])
    exact soft_value (.pointer (some ⟨g, 1, none⟩)) (by unfold execOp; simp only [e2]; kernel_rfl) rfl
  · have d3 : vs 3 = .pointer (some ⟨g, 1, none⟩) := hR 3 (by simp [hdep])
    have e8 : ac.eval (.tmp 8) = .pointer (some ⟨g, 1, none⟩) := (hE 8 (by simp)).trans (by simp [evF, hdep, d3])
    have hc1 : W1.cell? ⟨g, 1, none⟩ = some (.string se) := (HK0.out.below hB HK0.out.lt).cell 1
    exact soft_value (.string se) (by unfold execOp; simp only [e8]; go_simp) rfl
  · have e2 : ac.eval (.tmp 2) = .pointer (some ⟨g, 0, none⟩) := (hE 2 (by simp)).trans (by simp [evF, Act.eval])
    exact soft_value (.pointer (some ⟨g, 1, none⟩)) (by unfold execOp; simp only [e2]; kernel_rfl) rfl
  · have d5 : vs 5 = .pointer (some ⟨g, 1, none⟩) := hR 5 (by simp [hdep])
    have e10 : ac.eval (.tmp 10) = .pointer (some ⟨g, 1, none⟩) := (hE 10 (by simp)).trans (by simp [evF, hdep, d5])
    have hc1 : W1.cell? ⟨g, 1, none⟩ = some (.string se) := (HK0.out.below hB HK0.out.lt).cell 1
    exact soft_value (.string se) (by unfold execOp; simp only [e10]; go_simp) rfl
  · have e1 : ac.eval (.tmp 1) = .string co := (hE 1 (by simp)).trans (by simp [evF, Act.eval])
    exact soft_value (.string co) (by unfold execOp; simp only [e1, ec]; rfl) rfl
  · have e2 : ac.eval (.tmp 2) = .pointer (some ⟨g, 0, none⟩) := (hE 2 (by simp)).trans (by simp [evF, Act.eval])
    exact soft_value (.pointer (some ⟨g, 11, none⟩)) (by unfold execOp; simp only [e2]; kernel_rfl) rfl
  · have d8 : vs 8 = .pointer (some ⟨g, 11, none⟩) := hR 8 (by simp [hdep])
    have e13 : ac.eval (.tmp 13) = .pointer (some ⟨g, 11, none⟩) := (hE 13 (by simp)).trans (by simp [evF, hdep, d8])
    have hc11 : W1.cell? ⟨g, 11, none⟩ = some (.slice none 0 0) := (HK0.out.below hB HK0.out.lt).cell 11
    exact soft_value (.slice none 0 0) (by unfold execOp; simp only [e13]; go_simp) rfl
  · have d9 : vs 9 = .slice none 0 0 := hR 9 (by simp [hdep])
    have e14 : ac.eval (.tmp 14) = .slice none 0 0 := (hE 14 (by simp)).trans (by simp [evF, hdep, d9])
    have hl : (Builtin.len_ #[45] 3 #[.slice none 0 0]).run Tryd.prog W1 = .ok (.int .i64 0) W1 := by kernel_rfl
    exact soft_value (.int .i64 0) (by simp [execOp, resolve, invoke, builtin, e14, hl, Result.andThen]) rfl
  · have d10 : vs 10 = .int .i64 0 := hR 10 (by simp [hdep])
    have e15 : ac.eval (.tmp 15) = .int .i64 0 := (hE 15 (by simp)).trans (by simp [evF, hdep, d10])
    refine soft_call 33 _ _ rfl (enters_fn Tryd.func33 (by kernel_rfl) rfl) #[.int .i64 0] (by simp [e15, ec]) ?_
    refine (count_any 0 ⟨by omega, by omega⟩ W1 (HTB.out.on (HB0.out.trans (hB.mono HB0.out.size))).here).mono ?_
    rintro e9 w9 ⟨rfl, hb9⟩
    exact ⟨_, rfl, hb9, rfl⟩
  · have d6 : vs 6 = .string se := hR 6 (by simp [hdep])
    have e11 : ac.eval (.tmp 11) = .string se := (hE 11 (by simp)).trans (by simp [evF, hdep, d6])
    have d7 : vs 7 = .string co := hR 7 (by simp [hdep])
    have e12 : ac.eval (.tmp 12) = .string co := (hE 12 (by simp)).trans (by simp [evF, hdep, d7])
    have d11 : vs 11 = .string (itS 0) := hR 11 (by simp [hdep])
    have e16 : ac.eval (.tmp 16) = .string (itS 0) := (hE 16 (by simp)).trans (by simp [evF, hdep, d11])
    refine soft_build 73 9 6 _ rfl #[(0, .string ⟨#[115, 101, 108, 108, 101, 114]⟩), (1, .string se), (2, .string ⟨#[99, 111, 117, 110, 116, 114, 121]⟩), (3, .string co), (4, .string ⟨#[98, 111, 120, 101, 115]⟩), (5, .string (itS 0))] (by simp [e11, e12, e16, ec]) #[.string ⟨#[115, 101, 108, 108, 101, 114]⟩, .string se, .string ⟨#[99, 111, 117, 110, 116, 114, 121]⟩, .string co, .string ⟨#[98, 111, 120, 101, 115]⟩, .string ((itS 0))] (bs6 ⟨#[115, 101, 108, 108, 101, 114]⟩ se ⟨#[99, 111, 117, 110, 116, 114, 121]⟩ co ⟨#[98, 111, 120, 101, 115]⟩ ((itS 0)) W1) ⟨_, _, rfl, SliceOf.blk (en := strC) (Blk.new_at W1 9 _ _ rfl) [⟨#[115, 101, 108, 108, 101, 114]⟩, se, ⟨#[99, 111, 117, 110, 116, 114, 121]⟩, co, ⟨#[98, 111, 120, 101, 115]⟩, (itS 0)] rfl (fun _ => rfl) rfl, fun _ _ _ => Nat.zero_le _⟩
  · obtain ⟨A12, c12, d12, h12, _⟩ := (show (SlHi 0 1 strC 6 [⟨#[115, 101, 108, 108, 101, 114]⟩, se, ⟨#[99, 111, 117, 110, 116, 114, 121]⟩, co, ⟨#[98, 111, 120, 101, 115]⟩, (itS 0)]) (vs 12) W1 from hR 12 (by simp [hdep]))
    have e17 : ac.eval (.tmp 17) = .slice A12 6 c12 := (hE 17 (by simp)).trans (by simp [evF, hdep, d12])
    refine soft_call 31 _ _ rfl (enters_fn Tryd.func31 (by kernel_rfl) rfl) #[.slice A12 6 c12] (by simp [e17, ec]) ?_
    refine (fields_any A12 6 3 c12 [⟨#[115, 101, 108, 108, 101, 114]⟩, se, ⟨#[99, 111, 117, 110, 116, 114, 121]⟩, co, ⟨#[98, 111, 120, 101, 115]⟩, (itS 0)] W1 h12 rfl (by omega)).mono ?_
    rintro e9 w9 ⟨B, d, rfl, hs9, hA9, hb9⟩
    exact ⟨_, rfl, hb9, ⟨B, d, rfl, hs9, fun x off e => Nat.le_trans (Nat.le_trans HS0.out hB.size) (hA9 x off e)⟩⟩
  · have d2 : vs 2 = .string ((⟨#[111, 114, 45]⟩ : ByteArray) ++ (nu : ByteArray)) := hR 2 (by simp [hdep])
    have e7 : ac.eval (.tmp 7) = .string ((⟨#[111, 114, 45]⟩ : ByteArray) ++ (nu : ByteArray)) := (hE 7 (by simp)).trans (by simp [evF, hdep, d2])
    have d4 : vs 4 = .string se := hR 4 (by simp [hdep])
    have e9 : ac.eval (.tmp 9) = .string se := (hE 9 (by simp)).trans (by simp [evF, hdep, d4])
    obtain ⟨A13, c13, d13, h13, l13⟩ := (show (SlHi (g + 2) 2 fdC 3 (pairF ([⟨#[115, 101, 108, 108, 101, 114]⟩, se, ⟨#[99, 111, 117, 110, 116, 114, 121]⟩, co, ⟨#[98, 111, 120, 101, 115]⟩, (itS 0)].take (2 * 3)))) (vs 13) W1 from hR 13 (by simp [hdep]))
    have e18 : ac.eval (.tmp 18) = .slice A13 3 c13 := (hE 18 (by simp)).trans (by simp [evF, hdep, d13])
    exact soft_value (.agg #[.int .i64 4, .string ((⟨#[111, 114, 45]⟩ : ByteArray) ++ (nu : ByteArray)), .string se, .slice A13 3 c13]) (by unfold execOp; simp [e7, e9, e18, ec]; kernel_rfl) ⟨A13, c13, rfl, h13, l13⟩
  · have hall := hdep
    have e4 : ac.eval (.tmp 4) = .pointer (some ⟨g + 1, 0, none⟩) := (hE 4 (by simp)).trans (by simp [evF, Act.eval])
    obtain ⟨A13, c13, d14, h14, l14⟩ := (show (DocHi (g + 2) 4 ((⟨#[111, 114, 45]⟩ : ByteArray) ++ (nu : ByteArray)) se 3 (pairF ([⟨#[115, 101, 108, 108, 101, 114]⟩, se, ⟨#[99, 111, 117, 110, 116, 114, 121]⟩, co, ⟨#[98, 111, 120, 101, 115]⟩, (itS 0)].take (2 * 3)))) (vs 14) W1 from hR 14 (by omega))
    have e19 : ac.eval (.tmp 19) = .agg #[.int .i64 4, .string ((⟨#[111, 114, 45]⟩ : ByteArray) ++ (nu : ByteArray)), .string se, .slice A13 3 c13] := (hE 19 (by simp)).trans (by simp [evF, hall 14 (by omega), d14])
    have hk := HR0.out.below hB HR0.out.lt
    refine wp_store_row 66 _ _ rfl (g + 1) #[.int .i64 4, .string ((⟨#[111, 114, 45]⟩ : ByteArray) ++ (nu : ByteArray)), .string se, .slice A13 3 c13] e4 e19 66 _ hk (by kernel_rfl) rfl (by simp [Value.oneCell']) ⟨_, rfl, ?_⟩
    have hk2 : Blk (W1.setRow (g + 1) #[.int .i64 4, .string ((⟨#[111, 114, 45]⟩ : ByteArray) ++ (nu : ByteArray)), .string se, .slice A13 3 c13]) (g + 1) 66 #[.int .i64 4, .string ((⟨#[111, 114, 45]⟩ : ByteArray) ++ (nu : ByteArray)), .string se, .slice A13 3 c13] := setRow_heap W1 (g + 1) _ _ _ (0, 0) hk
    have hs2 := h14.rowF (g := g + 1) (cs := #[.int .i64 4, .string ((⟨#[111, 114, 45]⟩ : ByteArray) ++ (nu : ByteArray)), .string se, .slice A13 3 c13]) (fun x off e => by have := l14 x off e; omega)
    have hb2 : Below w.heap.size w (W1.setRow (g + 1) #[.int .i64 4, .string ((⟨#[111, 114, 45]⟩ : ByteArray) ++ (nu : ByteArray)), .string se, .slice A13 3 c13]) := (HB0.out.trans (hB.mono HB0.out.size)).trans ⟨rfl, rfl, rfl, by simp [World.setRow], fun j hj => setRow_other W1 (g + 1) j _ (by have := HG.out; omega)⟩
    have q0 := hk2.cell 0; have q1 := hk2.cell 1; have q2 := hk2.cell 2; have q3 := hk2.cell 3
    simp only [List.getElem?_toArray, List.getElem?_cons_zero, List.getElem?_cons_succ] at q0 q1 q2 q3
    simp only [fillA, Act.put, List.setIfInBounds_toArray, List.set_cons_zero, List.set_cons_succ, if_true]
    have HS2 := Lib.hid hs2
    have HB2 := Lib.hid hb2
    clear hs2 hb2 hk hk2 hB hR hE hdep hall
    go_wp2_with fail
    refine bodyPost_ret (v := .agg #[.int .i64 4, .string ((⟨#[111, 114, 45]⟩ : ByteArray) ++ (nu : ByteArray)), .string se, .slice A13 3 c13]) (by simp [results, Tryd.results28, go_sem, q0, q1, q2, q3]) rfl ?_
    exact ⟨_, _, rfl, HS2.out, HB2.out⟩
end Go.Proofs.YtlicmhgpldmliaaDoor.kit
