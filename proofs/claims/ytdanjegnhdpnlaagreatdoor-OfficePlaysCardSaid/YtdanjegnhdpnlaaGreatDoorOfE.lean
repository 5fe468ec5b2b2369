/- An office: what an insurer does with a letter that asks for a cover. Condition: the table of powers of ten. -/
import Derived.Test.YtdanjegnhdpnlaaGreatDoorOfC
import Derived.Test.YtdanjegnhdpnlaaGreatDoorOfD
namespace Go.Proofs.YtdanjegnhdpnlaaGreatDoor.kit
open Go.RowKit Go.PlainAid
set_option linter.unusedVariables false
set_option linter.unusedSimpArgs false
theorem scale_no {m : Mon} {n d way : Int} (h : (scaleV m n d way).2 = false) : (scaleV m n d way).1 = noM := by
  unfold scaleV at h ⊢
  split at h
  · split at h
    · cases h
    · rename_i h1 h2; rw [if_pos h1, if_neg h2]
  · rename_i h1; rw [if_neg h1]
theorem scale_amt (m : Mon) (n d way : Int) : I64 (scaleV m n d way).1.amt := by
  unfold scaleV I64
  split
  · split
    · rename_i h; dsimp only; split <;> omega
    · simp [noM]
  · simp [noM]
/-- The row of one paper, high; its letter; the letter's row. -/
def DocV (B : Nat) (p : Pp) : Value → World → Prop := fun v W => ∃ g, v = .slice (some ⟨g, 0, none⟩) 1 1 ∧ DocsAt W B W.heap.size (.slice (some ⟨g, 0, none⟩) 1 1) (some p)
theorem stab_docv (B : Nat) (p : Pp) : Stab (DocV B p) := fun _ _ _ ⟨g, h1, h2⟩ hb => ⟨g, h1, (h2.below hb).wide (Nat.le_refl _) hb.size⟩
def LetV (B : Nat) (a : ByteArray) (p : Pp) : Value → World → Prop := fun v W => ∃ g, v = .agg #[.string ⟨#[]⟩, .string a, .int .i64 0, .int .i64 7, .int .i64 0, .string ⟨#[]⟩, .string ⟨#[]⟩, .string ⟨#[]⟩, .int .i64 0, .int .i64 0, .string ⟨#[]⟩, .int .i64 0, .slice (some ⟨g, 0, none⟩) 1 1, .slice none 0 0] ∧ DocsAt W B W.heap.size (.slice (some ⟨g, 0, none⟩) 1 1) (some p)
theorem stab_letv (B : Nat) (a : ByteArray) (p : Pp) : Stab (LetV B a p) := fun _ _ _ ⟨g, h1, h2⟩ hb => ⟨g, h1, (h2.below hb).wide (Nat.le_refl _) hb.size⟩
def RowV (B : Nat) (a : ByteArray) (p : Pp) : Value → World → Prop := fun v W => ∃ r g, v = .slice (some ⟨r, 0, none⟩) 1 1 ∧ B ≤ r ∧ Blk W r 57 #[.string ⟨#[]⟩, .string a, .int .i64 0, .int .i64 7, .int .i64 0, .string ⟨#[]⟩, .string ⟨#[]⟩, .string ⟨#[]⟩, .int .i64 0, .int .i64 0, .string ⟨#[]⟩, .int .i64 0, .slice (some ⟨g, 0, none⟩) 1 1, .slice none 0 0] ∧ DocsAt W B r (.slice (some ⟨g, 0, none⟩) 1 1) (some p)
theorem stab_rowv (B : Nat) (a : ByteArray) (p : Pp) : Stab (RowV B a p) := fun _ _ _ ⟨r, g, h1, h2, h3, h4⟩ hb => ⟨r, g, h1, h2, h3.below hb h3.lt, h4.below hb⟩
theorem lbuildD (w : World) (a : ByteArray) (g : Nat) : (Instr.build 57 #[(1, .string a), (3, .int .i64 7), (11, .slice (some ⟨g, 0, none⟩) 1 1)]).run Tryz.prog w = .ok (.agg #[.string ⟨#[]⟩, .string a, .int .i64 0, .int .i64 7, .int .i64 0, .string ⟨#[]⟩, .string ⟨#[]⟩, .string ⟨#[]⟩, .int .i64 0, .int .i64 0, .string ⟨#[]⟩, .int .i64 0, .slice (some ⟨g, 0, none⟩) 1 1, .slice none 0 0]) w := run_build w _ _ _ (by kernel_rfl)
theorem lsliceD (w : World) (a : ByteArray) (g : Nat) : (Instr.buildSlice 30 1 #[(0, .agg #[.string ⟨#[]⟩, .string a, .int .i64 0, .int .i64 7, .int .i64 0, .string ⟨#[]⟩, .string ⟨#[]⟩, .string ⟨#[]⟩, .int .i64 0, .int .i64 0, .string ⟨#[]⟩, .int .i64 0, .slice (some ⟨g, 0, none⟩) 1 1, .slice none 0 0])]).run Tryz.prog w = .ok (.slice (some ⟨w.heap.size, 0, none⟩) 1 1) (w.alloc (.cells #[.string ⟨#[]⟩, .string a, .int .i64 0, .int .i64 7, .int .i64 0, .string ⟨#[]⟩, .string ⟨#[]⟩, .string ⟨#[]⟩, .int .i64 0, .int .i64 0, .string ⟨#[]⟩, .int .i64 0, .slice (some ⟨g, 0, none⟩) 1 1, .slice none 0 0] 57)) := by kernel_rfl
theorem dslice (w : World) (k : Int) (a b : ByteArray) (A : Option Addr) (n c : Nat) : (Instr.buildSlice 54 1 #[(0, .agg #[.int .i64 k, .string a, .string b, .slice A n c])]).run Tryz.prog w = .ok (.slice (some ⟨w.heap.size, 0, none⟩) 1 1) (w.alloc (.cells #[.int .i64 k, .string a, .string b, .slice A n c] 109)) := by kernel_rfl
theorem mzero (w : World) : (Instr.build 50 #[]).run Tryz.prog w = .ok (.agg #[.string ⟨#[]⟩, .int .i64 0]) w := run_build w _ _ _ (by kernel_rfl)
theorem docs_new {W1 : World} {B B0 : Nat} {fa : Option Addr} {d : Dl} {m : Mon} (fc : Nat) (h : SliceOf W1 2 fdC fa 5 (covP d m).fs) (hl : ∀ x off, fa = some ⟨x, off, none⟩ → B ≤ x) (hB : B ≤ W1.heap.size) (hB0 : B0 ≤ B) :
    DocsAt (W1.alloc (.cells #[.int .i64 3, .string (⟨#[105, 110, 45]⟩ ++ d.num), .string d.ins, .slice fa 5 fc] 109)) B0 (W1.alloc (.cells #[.int .i64 3, .string (⟨#[105, 110, 45]⟩ ++ d.num), .string d.ins, .slice fa 5 fc] 109)).heap.size (.slice (some ⟨W1.heap.size, 0, none⟩) 1 1) (some (covP d m)) :=
  ⟨_, fc, fa, rfl, ⟨Nat.le_trans hB0 hB, by rw [size_alloc]; omega⟩, Blk.new _ _ _, h.below (one_alloc _ _), fun x off e => ⟨Nat.le_trans hB0 (hl x off e), by
    obtain ⟨b, o, e2, hb, _⟩ := h.at_ (by omega)
    rw [e] at e2
    injection e2 with e2
    injection e2 with e2
    rw [size_alloc]
    omega⟩⟩
set_option maxRecDepth 100000 in
set_option maxHeartbeats 12800000 in
theorem cov_any (O : Value) (p : Nat) (d : Dl) (A : Option Addr) (nb c : Nat) (s : St) (l : Lt) (w : World) (h : DeAt w p d (.slice A nb c) s) (ho : d.ok) (ht : ∀ W, Fr (fun k => k = p) w W → PowTab W) :
    Calls Tryz.prog 46 #[O, (.pointer (some ⟨p, 0, none⟩)), .agg #[.string l.fr, .string l.to, .int .i64 l.num, .int .i64 l.kind, .int .i64 l.ack, .string l.deal, .string l.text, .string l.party, .int .i64 l.idx, .int .i64 l.day, .string l.cur, .int .i64 l.amt, .slice l.A1 l.n1 l.c1, .slice l.A2 l.n2 l.c2]] w (DoP w p d A nb c (covrV d s l)) := by
  have HT := Lib.hid ht
  have HO := Lib.hid ho
  have HZ := Lib.hid h
  have hD : DeAt (w.alloc (.cells #[.string l.fr, .string l.to, .int .i64 l.num, .int .i64 l.kind, .int .i64 l.ack, .string l.deal, .string l.text, .string l.party, .int .i64 l.idx, .int .i64 l.day, .string l.cur, .int .i64 l.amt, .slice l.A1 l.n1 l.c1, .slice l.A2 l.n2 l.c2] 57)) p d (.slice A nb c) s := Blk.alloc h _
  have hk : Blk (w.alloc (.cells #[.string l.fr, .string l.to, .int .i64 l.num, .int .i64 l.kind, .int .i64 l.ack, .string l.deal, .string l.text, .string l.party, .int .i64 l.idx, .int .i64 l.day, .string l.cur, .int .i64 l.amt, .slice l.A1 l.n1 l.c1, .slice l.A2 l.n2 l.c2] 57)) w.heap.size 57 #[.string l.fr, .string l.to, .int .i64 l.num, .int .i64 l.kind, .int .i64 l.ack, .string l.deal, .string l.text, .string l.party, .int .i64 l.idx, .int .i64 l.day, .string l.cur, .int .i64 l.amt, .slice l.A1 l.n1 l.c1, .slice l.A2 l.n2 l.c2] := Blk.new _ _ _
  have HB : Hid (Below w.heap.size w (w.alloc (.cells #[.string l.fr, .string l.to, .int .i64 l.num, .int .i64 l.kind, .int .i64 l.ack, .string l.deal, .string l.text, .string l.party, .int .i64 l.idx, .int .i64 l.day, .string l.cur, .int .i64 l.amt, .slice l.A1 l.n1 l.c1, .slice l.A2 l.n2 l.c2] 57))) := Lib.hid (one_alloc _ _)
  clear h ho ht
  go_enter Tryz.func46, Tryz.ntmps46
  go_upto_region 1 with (fail)
  obtain ⟨w1, hw1⟩ : ∃ W, w.alloc (.cells #[.string l.fr, .string l.to, .int .i64 l.num, .int .i64 l.kind, .int .i64 l.ack, .string l.deal, .string l.text, .string l.party, .int .i64 l.idx, .int .i64 l.day, .string l.cur, .int .i64 l.amt, .slice l.A1 l.n1 l.c1, .slice l.A2 l.n2 l.c2] 57) = W := ⟨_, rfl⟩
  rw [hw1] at hD hk HB ⊢
  clear hw1
  have HD := Lib.hid hD
  have a0 := hk.cell 0; have c1 := hD.cell 1; have c17 := hD.cell 17
  simp only [List.getElem?_toArray, List.getElem?_cons_zero, List.getElem?_cons_succ] at a0 c1 c17
  clear hk hD
  by_cases e1 : l.fr = d.sel
  · have q1 : (l.fr.toList == d.sel.toList) = true := by rw [eq_str]; exact decide_eq_true e1
    by_cases e2 : s.st = 0
    · have q2 : (s.st != 0) = false := by simp [e2]
      have HV : Hid (covrV d s l = (covL d, ⟨1, s.paid⟩)) := Lib.hid (by unfold covrV; rw [if_pos ⟨e1, e2⟩])
      clear e1 e2
      go_quiet (fail)
      have hDq := HD.out.drewN nq
      have HBq := Lib.hid (below_drewN HB.out nq)
      go_upto_region 3 with (fail)
      obtain ⟨w2, hw2⟩ : ∃ W, w1.drewN nq = W := ⟨_, rfl⟩
      rw [hw2] at hDq HBq ⊢
      clear hw2 a0 c1 c17 HD HB
      have c17 := hDq.cell 17; have f17 := hDq.frozen 17
      simp only [List.getElem?_toArray, List.getElem?_cons_zero, List.getElem?_cons_succ] at c17
      have HD3 : Hid (DeAt (w2.setCell ⟨p, 17, none⟩ (.int .i64 1)) p d (.slice A nb c) ⟨1, s.paid⟩) := Lib.hid (by have q := hDq.set_ 17 (.int .i64 1); simpa using q)
      have HF3 : Hid (Fr (fun k => k = p) w (w2.setCell ⟨p, 17, none⟩ (.int .i64 1))) := Lib.hid ((Fr.of_below (S := fun k => k = p) HBq.out (Nat.le_refl _)).setCell (p := ⟨p, 17, none⟩) (.inl rfl) _)
      clear hDq
      go_upto_region 4 with (fail)
      obtain ⟨w3, hw3⟩ : ∃ W, w2.setCell ⟨p, 17, none⟩ (.int .i64 1) = W := ⟨_, rfl⟩
      rw [hw3] at HD3 HF3 ⊢
      clear hw3 c17 f17 HBq
      obtain ⟨r, hr⟩ : ∃ r, scaleV ⟨d.cur, d.amt⟩ 11 10 1 = r := ⟨_, rfl⟩
      have HSC : Hid (∀ W, Calls Tryz.prog 63 #[.agg #[.string d.cur, .int .i64 d.amt], .agg #[.int .i64 11, .int .i64 10], .int .i64 1] W fun e w' => e = .returned (.tuple #[.agg #[.string r.1.cur, .int .i64 r.1.amt], .bool r.2]) ∧ Below W.heap.size W w') := Lib.hid (fun W => by
        have := scale1 ⟨d.cur, d.amt⟩ 11 10 W HO.out.cur ⟨by omega, by omega⟩ ⟨by omega, by omega⟩
        rw [hr] at this
        exact this)
      have HCV : Hid (covV d = r.1) := Lib.hid (by unfold covV; rw [hr])
      have HAM : Hid (I64 r.1.amt) := Lib.hid (by rw [← hr]; exact scale_amt _ _ _ _)
      have HNO : Hid (r.2 = false → r.1 = noM) := Lib.hid (by rw [← hr]; exact scale_no)
      clear hr
      have c9 := HD3.out.cell 9; have c10 := HD3.out.cell 10
      simp only [List.getElem?_toArray, List.getElem?_cons_zero, List.getElem?_cons_succ] at c9 c10
      have hrb := fun w => rbuild w 11 10
      go_wp2_with fail
      refine (HSC.out _).mono ?_
      rintro e w4 ⟨rfl, hb4⟩
      have HD5 := Lib.hid ((HD3.out.below hb4 HD3.out.lt).alloc (.cells #[.string r.1.cur, .int .i64 r.1.amt] 50))
      have HF5 := Lib.hid ((HF3.out.on hb4).alloc (.cells #[.string r.1.cur, .int .i64 r.1.amt] 50))
      have HM5 : Hid (Blk (w4.alloc (.cells #[.string r.1.cur, .int .i64 r.1.amt] 50)) w4.heap.size 50 #[.string r.1.cur, .int .i64 r.1.amt]) := Lib.hid (Blk.new _ _ _)
      have HG5 : Hid (w3.heap.size ≤ w4.heap.size) := Lib.hid hb4.size
      clear c9 c10 hb4
      go_upto_region 5 with ((refine stop_store 50 _ _ rfl ?_; refine wpList_store_new rfl 50 _ _ rfl _ rfl rfl (by kernel_rfl) rfl rfl ?_))
      obtain ⟨w5, hw5⟩ : ∃ W, w4.alloc (.cells #[.string r.1.cur, .int .i64 r.1.amt] 50) = W := ⟨_, rfl⟩
      obtain ⟨g, hg⟩ : ∃ g, w4.heap.size = g := ⟨_, rfl⟩
      rw [hw5] at HD5 HF5 HM5 ⊢
      rw [hg] at HM5 HG5
      simp only [hg]
      clear hw5 hg
      cases hr2 : r.2
      · have hmz := mzero w5
        have HN := Lib.hid (HNO.out hr2)
        go_upto_region 6 with (fail)
        go_upto_region 7 with (refine stop_store 50 _ _ rfl ?_; refine wpList_store_fr rfl 50 _ _ rfl _ rfl rfl HM5.out (by kernel_rfl) rfl rfl ?_; intro w6 hm6 fr6)
        have HD6 := Lib.hid (HD5.out.fr fr6 (HD5.out.ne_ HM5.out (by decide)))
        have HF6 := Lib.hid (HF5.out.trans (S' := fun k => k = g) fr6 (fun k e => .inr (by rw [e]; exact Nat.le_trans HF3.out.size HG5.out)))
        have HM6 : Hid (Blk w6 g 50 #[.string (covV d).cur, .int .i64 (covV d).amt]) := Lib.hid (by rw [HCV.out, HN.out]; exact hm6)
        have HI6 : Hid (I64 (covV d).amt) := Lib.hid (by rw [HCV.out]; exact HAM.out)
        clear hm6 fr6 hmz HD5 HF5 HM5 hr2
        try simp only [Act.put, List.setIfInBounds_toArray, List.set_cons_zero, List.set_cons_succ]
        refine wp_region_soft [Is (.pointer (some ⟨p, 0, none⟩)), Is (.pointer (some ⟨p, 0, none⟩)), Is (.pointer (some ⟨p, 0, none⟩)), Is (.pointer (some ⟨p, 1, none⟩)), Is (.string d.sel), Is (.pointer (some ⟨p, 0, none⟩)), Is (.pointer (some ⟨p, 0, none⟩)), Is (.pointer (some ⟨p, 0, none⟩)), Is (.agg #[.string d.num, .string d.sel, .string d.buy, .string d.car, .string d.iss, .string d.hou, .string d.ins, .string d.fr, .string d.dst, .string d.cur, .int .i64 d.amt, .slice A nb c, .int .i64 d.term, .int .i64 d.lat, .int .i64 d.exp, .int .i64 d.ten, .int .i64 d.dut]), Is (.agg #[.string (covV d).cur, .int .i64 (covV d).amt]), DocHi w6.heap.size d (covV d), DocV w.heap.size (covP d (covV d)), LetV w.heap.size d.sel (covP d (covV d)), RowV w.heap.size d.sel (covP d (covV d)), RowV w.heap.size d.sel (covP d (covV d))] ⟨stab_is _, stab_is _, stab_is _, stab_is _, stab_is _, stab_is _, stab_is _, stab_is _, stab_is _, stab_is _, stab_dochi _ _ _, stab_docv _ _, stab_letv _ _ _, stab_rowv _ _ _, stab_rowv _ _ _, trivial⟩ (by kernel_rfl) (by kernel_rfl) ?_ ?_
        · refine ⟨?_, ?_, ?_, ?_, ?_, ?_, ?_, ?_, ?_, ?_, ?_, ?_, ?_, ?_, ?_, trivial⟩
          all_goals intro done vs ac W1 hdep hB hR hE
          all_goals have ec : ∀ v : Value, ac.eval (.const v) = v := fun _ => rfl
          all_goals try simp [Region.binds] at hdep
          · have e1 : ac.eval (.tmp 1) = .pointer (some ⟨p, 0, none⟩) := (hE 1 (by simp)).trans (by simp [evF, Act.eval])
            exact soft_value (.pointer (some ⟨p, 0, none⟩)) (by unfold execOp; simp only [e1, ec]; rfl) rfl
          · have d0 : vs 0 = .pointer (some ⟨p, 0, none⟩) := hR 0 (by simp [hdep])
            have e40 : ac.eval (.tmp 40) = .pointer (some ⟨p, 0, none⟩) := (hE 40 (by simp)).trans (by simp [evF, hdep, d0])
            exact soft_value (.pointer (some ⟨p, 0, none⟩)) (by unfold execOp; simp only [e40]; go_simp) rfl
          · have d1 : vs 1 = .pointer (some ⟨p, 0, none⟩) := hR 1 (by simp [hdep])
            have e41 : ac.eval (.tmp 41) = .pointer (some ⟨p, 0, none⟩) := (hE 41 (by simp)).trans (by simp [evF, hdep, d1])
            exact soft_value (.pointer (some ⟨p, 0, none⟩)) (by unfold execOp; simp only [e41]; kernel_rfl) rfl
          · have d2 : vs 2 = .pointer (some ⟨p, 0, none⟩) := hR 2 (by simp [hdep])
            have e42 : ac.eval (.tmp 42) = .pointer (some ⟨p, 0, none⟩) := (hE 42 (by simp)).trans (by simp [evF, hdep, d2])
            exact soft_value (.pointer (some ⟨p, 1, none⟩)) (by unfold execOp; simp only [e42]; kernel_rfl) rfl
          · have d3 : vs 3 = .pointer (some ⟨p, 1, none⟩) := hR 3 (by simp [hdep])
            have e43 : ac.eval (.tmp 43) = .pointer (some ⟨p, 1, none⟩) := (hE 43 (by simp)).trans (by simp [evF, hdep, d3])
            have hc1 : W1.cell? ⟨p, 1, none⟩ = some (.string d.sel) := (HD6.out.below hB HD6.out.lt).cell 1
            exact soft_value (.string d.sel) (by unfold execOp; simp only [e43]; go_simp) rfl
          · have e1 : ac.eval (.tmp 1) = .pointer (some ⟨p, 0, none⟩) := (hE 1 (by simp)).trans (by simp [evF, Act.eval])
            exact soft_value (.pointer (some ⟨p, 0, none⟩)) (by unfold execOp; simp only [e1, ec]; rfl) rfl
          · have d5 : vs 5 = .pointer (some ⟨p, 0, none⟩) := hR 5 (by simp [hdep])
            have e45 : ac.eval (.tmp 45) = .pointer (some ⟨p, 0, none⟩) := (hE 45 (by simp)).trans (by simp [evF, hdep, d5])
            exact soft_value (.pointer (some ⟨p, 0, none⟩)) (by unfold execOp; simp only [e45]; go_simp) rfl
          · have d6 : vs 6 = .pointer (some ⟨p, 0, none⟩) := hR 6 (by simp [hdep])
            have e46 : ac.eval (.tmp 46) = .pointer (some ⟨p, 0, none⟩) := (hE 46 (by simp)).trans (by simp [evF, hdep, d6])
            exact soft_value (.pointer (some ⟨p, 0, none⟩)) (by unfold execOp; simp only [e46]; kernel_rfl) rfl
          · have d7 : vs 7 = .pointer (some ⟨p, 0, none⟩) := hR 7 (by simp [hdep])
            have e47 : ac.eval (.tmp 47) = .pointer (some ⟨p, 0, none⟩) := (hE 47 (by simp)).trans (by simp [evF, hdep, d7])
            exact wp_load_at 53 (.tmp 47) rfl p 0 e47 [.string d.num, .string d.sel, .string d.buy, .string d.car, .string d.iss, .string d.hou, .string d.ins, .string d.fr, .string d.dst, .string d.cur, .int .i64 d.amt, .slice A nb c, .int .i64 d.term, .int .i64 d.lat, .int .i64 d.exp, .int .i64 d.ten, .int .i64 d.dut] _ (fun j v hv => by have := blk_part (HD6.out.below hB HD6.out.lt) 0 17 j v (by simpa using hv); simpa using this) Tryz.underlying53 rfl (by kernel_rfl) ⟨_, rfl, Below.refl _ _, rfl⟩
          · have e7 : ac.eval (.tmp 7) = .pointer (some ⟨g, 0, none⟩) := (hE 7 (by simp)).trans (by simp [evF, Act.eval])
            exact wp_load_row 50 _ rfl (g) e7 50 _ (0, 0) _ (HM6.out.below hB HM6.out.lt) Tryz.underlying50 rfl (by kernel_rfl) ⟨_, rfl, Below.refl _ _, rfl⟩
          · have d8 : vs 8 = .agg #[.string d.num, .string d.sel, .string d.buy, .string d.car, .string d.iss, .string d.hou, .string d.ins, .string d.fr, .string d.dst, .string d.cur, .int .i64 d.amt, .slice A nb c, .int .i64 d.term, .int .i64 d.lat, .int .i64 d.exp, .int .i64 d.ten, .int .i64 d.dut] := hR 8 (by simp [hdep])
            have e48 : ac.eval (.tmp 48) = .agg #[.string d.num, .string d.sel, .string d.buy, .string d.car, .string d.iss, .string d.hou, .string d.ins, .string d.fr, .string d.dst, .string d.cur, .int .i64 d.amt, .slice A nb c, .int .i64 d.term, .int .i64 d.lat, .int .i64 d.exp, .int .i64 d.ten, .int .i64 d.dut] := (hE 48 (by simp)).trans (by simp [evF, hdep, d8])
            have d9 : vs 9 = .agg #[.string (covV d).cur, .int .i64 (covV d).amt] := hR 9 (by simp [hdep])
            have e49 : ac.eval (.tmp 49) = .agg #[.string (covV d).cur, .int .i64 (covV d).amt] := (hE 49 (by simp)).trans (by simp [evF, hdep, d9])
            refine soft_call 64 _ _ rfl (enters_fn Tryz.func64 (by kernel_rfl) rfl) #[.agg #[.string d.num, .string d.sel, .string d.buy, .string d.car, .string d.iss, .string d.hou, .string d.ins, .string d.fr, .string d.dst, .string d.cur, .int .i64 d.amt, .slice A nb c, .int .i64 d.term, .int .i64 d.lat, .int .i64 d.exp, .int .i64 d.ten, .int .i64 d.dut], .agg #[.string (covV d).cur, .int .i64 (covV d).amt]] (by simp [e48, e49, ec]) ?_
            refine (pcov_any d A nb c (covV d) W1 HI6.out HO.out.num (HT.out W1 (HF6.out.on hB))).mono ?_
            rintro e9 w9 ⟨fa, fc, rfl, hs9, hl9, hb9⟩
            exact ⟨_, rfl, hb9, ⟨fa, fc, rfl, hs9, fun x off e => Nat.le_trans hB.size (hl9 x off e)⟩⟩
          · obtain ⟨A10, c10, d10, h10, l10⟩ := (show (DocHi w6.heap.size d (covV d)) (vs 10) W1 from hR 10 (by simp [hdep]))
            have e50 : ac.eval (.tmp 50) = .agg #[.int .i64 3, .string (⟨#[105, 110, 45]⟩ ++ d.num), .string d.ins, .slice A10 5 c10] := (hE 50 (by simp)).trans (by simp [evF, hdep, d10])
            have hdn := Lib.hid (docs_new c10 h10 l10 hB.size HF6.out.size)
            obtain ⟨W2, hw2⟩ : ∃ W, W1.alloc (.cells #[.int .i64 3, .string (⟨#[105, 110, 45]⟩ ++ d.num), .string d.ins, .slice A10 5 c10] 109) = W := ⟨_, rfl⟩
            have hds := dslice W1 3 (⟨#[105, 110, 45]⟩ ++ d.num) d.ins A10 5 c10
            have hba : Below W1.heap.size W1 W2 := hw2 ▸ one_alloc W1 _
            have hpv : (Array.map (fun x : Nat × Operand => (x.1, ac.eval x.2)) #[(0, Operand.tmp 50)]) = #[(0, .agg #[.int .i64 3, .string (⟨#[105, 110, 45]⟩ ++ d.num), .string d.ins, .slice A10 5 c10])] := by simp [e50]
            refine wp_bs1 54 109 1 #[(0, .tmp 50)] rfl _ hpv _ hds ?_
            rw [hw2] at hdn ⊢
            exact ⟨_, rfl, hba, _, rfl, hdn.out⟩
          · have d4 : vs 4 = .string d.sel := hR 4 (by simp [hdep])
            have e44 : ac.eval (.tmp 44) = .string d.sel := (hE 44 (by simp)).trans (by simp [evF, hdep, d4])
            obtain ⟨g11, d11, x11⟩ := (show (DocV w.heap.size (covP d (covV d))) (vs 11) W1 from hR 11 (by simp [hdep]))
            have e51 : ac.eval (.tmp 51) = .slice (some ⟨g11, 0, none⟩) 1 1 := (hE 51 (by simp)).trans (by simp [evF, hdep, d11])
            exact soft_value (.agg #[.string ⟨#[]⟩, .string d.sel, .int .i64 0, .int .i64 7, .int .i64 0, .string ⟨#[]⟩, .string ⟨#[]⟩, .string ⟨#[]⟩, .int .i64 0, .int .i64 0, .string ⟨#[]⟩, .int .i64 0, .slice (some ⟨g11, 0, none⟩) 1 1, .slice none 0 0]) (by simp [execOp, e44, e51, ec, lbuildD, Result.andThen]) ⟨_, rfl, x11⟩
          · obtain ⟨g12, d12, x12⟩ := (show (LetV w.heap.size d.sel (covP d (covV d))) (vs 12) W1 from hR 12 (by simp [hdep]))
            have e52 : ac.eval (.tmp 52) = .agg #[.string ⟨#[]⟩, .string d.sel, .int .i64 0, .int .i64 7, .int .i64 0, .string ⟨#[]⟩, .string ⟨#[]⟩, .string ⟨#[]⟩, .int .i64 0, .int .i64 0, .string ⟨#[]⟩, .int .i64 0, .slice (some ⟨g12, 0, none⟩) 1 1, .slice none 0 0] := (hE 52 (by simp)).trans (by simp [evF, hdep, d12])
            refine wp_bs1 30 57 1 _ rfl #[(0, .agg #[.string ⟨#[]⟩, .string d.sel, .int .i64 0, .int .i64 7, .int .i64 0, .string ⟨#[]⟩, .string ⟨#[]⟩, .string ⟨#[]⟩, .int .i64 0, .int .i64 0, .string ⟨#[]⟩, .int .i64 0, .slice (some ⟨g12, 0, none⟩) 1 1, .slice none 0 0])] (by simp [e52]) _ (lsliceD W1 d.sel g12) ⟨_, rfl, one_alloc _ _, ⟨_, g12, rfl, Nat.le_trans HF6.out.size hB.size, Blk.new _ _ _, x12.below (one_alloc _ _)⟩⟩
          · obtain ⟨r13, g13, d13, l13, h13, x13⟩ := (show (RowV w.heap.size d.sel (covP d (covV d))) (vs 13) W1 from hR 13 (by simp [hdep]))
            have e53 : ac.eval (.tmp 53) = .slice (some ⟨r13, 0, none⟩) 1 1 := (hE 53 (by simp)).trans (by simp [evF, hdep, d13])
            exact soft_value (.slice (some ⟨r13, 0, none⟩) 1 1) (by unfold execOp; simp only [e53]; rfl) ⟨_, _, rfl, l13, h13, x13⟩
        · intro vs W hB hR
          obtain ⟨gr, gd, h14, l14, d14, x14⟩ := (show RowV w.heap.size d.sel (covP d (covV d)) (vs 14) W from hR 14 (by simp))
          have HO : Hid (OlAt W w.heap.size (.slice (some ⟨gr, 0, none⟩) 1 1) ⟨#[]⟩ 0 (covL d)) := Lib.hid (.inr (.inl ⟨gr, _, _, rfl, rfl, l14, d14, x14⟩))
          have HD7 := Lib.hid (HD6.out.below hB HD6.out.lt)
          have HF7 := Lib.hid (HF6.out.on hB)
          clear hR hB d14 x14
          simp only [fillA, Act.put, List.setIfInBounds_toArray, List.set_cons_zero, List.set_cons_succ, if_true, h14]
          go_wp2_with fail
          go_ret
          rw [HV.out]
          exact ⟨_, rfl, HO.out, HD7.out, HF7.out⟩
      · have HD6 := HD5
        have HF6 := HF5
        have HM6 : Hid (Blk w5 g 50 #[.string (covV d).cur, .int .i64 (covV d).amt]) := Lib.hid (by rw [HCV.out]; exact HM5.out)
        have HI6 : Hid (I64 (covV d).amt) := Lib.hid (by rw [HCV.out]; exact HAM.out)
        obtain ⟨w6, hw6⟩ : ∃ W, w5 = W := ⟨_, rfl⟩
        rw [hw6] at HD6 HF6 HM6 ⊢
        clear HD5 HF5 HM5 hr2 hw6
        go_upto_region 7 with (fail)
        try simp only [Act.put, List.setIfInBounds_toArray, List.set_cons_zero, List.set_cons_succ]
        refine wp_region_soft [Is (.pointer (some ⟨p, 0, none⟩)), Is (.pointer (some ⟨p, 0, none⟩)), Is (.pointer (some ⟨p, 0, none⟩)), Is (.pointer (some ⟨p, 1, none⟩)), Is (.string d.sel), Is (.pointer (some ⟨p, 0, none⟩)), Is (.pointer (some ⟨p, 0, none⟩)), Is (.pointer (some ⟨p, 0, none⟩)), Is (.agg #[.string d.num, .string d.sel, .string d.buy, .string d.car, .string d.iss, .string d.hou, .string d.ins, .string d.fr, .string d.dst, .string d.cur, .int .i64 d.amt, .slice A nb c, .int .i64 d.term, .int .i64 d.lat, .int .i64 d.exp, .int .i64 d.ten, .int .i64 d.dut]), Is (.agg #[.string (covV d).cur, .int .i64 (covV d).amt]), DocHi w6.heap.size d (covV d), DocV w.heap.size (covP d (covV d)), LetV w.heap.size d.sel (covP d (covV d)), RowV w.heap.size d.sel (covP d (covV d)), RowV w.heap.size d.sel (covP d (covV d))] ⟨stab_is _, stab_is _, stab_is _, stab_is _, stab_is _, stab_is _, stab_is _, stab_is _, stab_is _, stab_is _, stab_dochi _ _ _, stab_docv _ _, stab_letv _ _ _, stab_rowv _ _ _, stab_rowv _ _ _, trivial⟩ (by kernel_rfl) (by kernel_rfl) ?_ ?_
        · refine ⟨?_, ?_, ?_, ?_, ?_, ?_, ?_, ?_, ?_, ?_, ?_, ?_, ?_, ?_, ?_, trivial⟩
          all_goals intro done vs ac W1 hdep hB hR hE
          all_goals have ec : ∀ v : Value, ac.eval (.const v) = v := fun _ => rfl
          all_goals try simp [Region.binds] at hdep
          · have e1 : ac.eval (.tmp 1) = .pointer (some ⟨p, 0, none⟩) := (hE 1 (by simp)).trans (by simp [evF, Act.eval])
            exact soft_value (.pointer (some ⟨p, 0, none⟩)) (by unfold execOp; simp only [e1, ec]; rfl) rfl
          · have d0 : vs 0 = .pointer (some ⟨p, 0, none⟩) := hR 0 (by simp [hdep])
            have e40 : ac.eval (.tmp 40) = .pointer (some ⟨p, 0, none⟩) := (hE 40 (by simp)).trans (by simp [evF, hdep, d0])
            exact soft_value (.pointer (some ⟨p, 0, none⟩)) (by unfold execOp; simp only [e40]; go_simp) rfl
          · have d1 : vs 1 = .pointer (some ⟨p, 0, none⟩) := hR 1 (by simp [hdep])
            have e41 : ac.eval (.tmp 41) = .pointer (some ⟨p, 0, none⟩) := (hE 41 (by simp)).trans (by simp [evF, hdep, d1])
            exact soft_value (.pointer (some ⟨p, 0, none⟩)) (by unfold execOp; simp only [e41]; kernel_rfl) rfl
          · have d2 : vs 2 = .pointer (some ⟨p, 0, none⟩) := hR 2 (by simp [hdep])
            have e42 : ac.eval (.tmp 42) = .pointer (some ⟨p, 0, none⟩) := (hE 42 (by simp)).trans (by simp [evF, hdep, d2])
            exact soft_value (.pointer (some ⟨p, 1, none⟩)) (by unfold execOp; simp only [e42]; kernel_rfl) rfl
          · have d3 : vs 3 = .pointer (some ⟨p, 1, none⟩) := hR 3 (by simp [hdep])
            have e43 : ac.eval (.tmp 43) = .pointer (some ⟨p, 1, none⟩) := (hE 43 (by simp)).trans (by simp [evF, hdep, d3])
            have hc1 : W1.cell? ⟨p, 1, none⟩ = some (.string d.sel) := (HD6.out.below hB HD6.out.lt).cell 1
            exact soft_value (.string d.sel) (by unfold execOp; simp only [e43]; go_simp) rfl
          · have e1 : ac.eval (.tmp 1) = .pointer (some ⟨p, 0, none⟩) := (hE 1 (by simp)).trans (by simp [evF, Act.eval])
            exact soft_value (.pointer (some ⟨p, 0, none⟩)) (by unfold execOp; simp only [e1, ec]; rfl) rfl
          · have d5 : vs 5 = .pointer (some ⟨p, 0, none⟩) := hR 5 (by simp [hdep])
            have e45 : ac.eval (.tmp 45) = .pointer (some ⟨p, 0, none⟩) := (hE 45 (by simp)).trans (by simp [evF, hdep, d5])
            exact soft_value (.pointer (some ⟨p, 0, none⟩)) (by unfold execOp; simp only [e45]; go_simp) rfl
          · have d6 : vs 6 = .pointer (some ⟨p, 0, none⟩) := hR 6 (by simp [hdep])
            have e46 : ac.eval (.tmp 46) = .pointer (some ⟨p, 0, none⟩) := (hE 46 (by simp)).trans (by simp [evF, hdep, d6])
            exact soft_value (.pointer (some ⟨p, 0, none⟩)) (by unfold execOp; simp only [e46]; kernel_rfl) rfl
          · have d7 : vs 7 = .pointer (some ⟨p, 0, none⟩) := hR 7 (by simp [hdep])
            have e47 : ac.eval (.tmp 47) = .pointer (some ⟨p, 0, none⟩) := (hE 47 (by simp)).trans (by simp [evF, hdep, d7])
            exact wp_load_at 53 (.tmp 47) rfl p 0 e47 [.string d.num, .string d.sel, .string d.buy, .string d.car, .string d.iss, .string d.hou, .string d.ins, .string d.fr, .string d.dst, .string d.cur, .int .i64 d.amt, .slice A nb c, .int .i64 d.term, .int .i64 d.lat, .int .i64 d.exp, .int .i64 d.ten, .int .i64 d.dut] _ (fun j v hv => by have := blk_part (HD6.out.below hB HD6.out.lt) 0 17 j v (by simpa using hv); simpa using this) Tryz.underlying53 rfl (by kernel_rfl) ⟨_, rfl, Below.refl _ _, rfl⟩
          · have e7 : ac.eval (.tmp 7) = .pointer (some ⟨g, 0, none⟩) := (hE 7 (by simp)).trans (by simp [evF, Act.eval])
            exact wp_load_row 50 _ rfl (g) e7 50 _ (0, 0) _ (HM6.out.below hB HM6.out.lt) Tryz.underlying50 rfl (by kernel_rfl) ⟨_, rfl, Below.refl _ _, rfl⟩
          · have d8 : vs 8 = .agg #[.string d.num, .string d.sel, .string d.buy, .string d.car, .string d.iss, .string d.hou, .string d.ins, .string d.fr, .string d.dst, .string d.cur, .int .i64 d.amt, .slice A nb c, .int .i64 d.term, .int .i64 d.lat, .int .i64 d.exp, .int .i64 d.ten, .int .i64 d.dut] := hR 8 (by simp [hdep])
            have e48 : ac.eval (.tmp 48) = .agg #[.string d.num, .string d.sel, .string d.buy, .string d.car, .string d.iss, .string d.hou, .string d.ins, .string d.fr, .string d.dst, .string d.cur, .int .i64 d.amt, .slice A nb c, .int .i64 d.term, .int .i64 d.lat, .int .i64 d.exp, .int .i64 d.ten, .int .i64 d.dut] := (hE 48 (by simp)).trans (by simp [evF, hdep, d8])
            have d9 : vs 9 = .agg #[.string (covV d).cur, .int .i64 (covV d).amt] := hR 9 (by simp [hdep])
            have e49 : ac.eval (.tmp 49) = .agg #[.string (covV d).cur, .int .i64 (covV d).amt] := (hE 49 (by simp)).trans (by simp [evF, hdep, d9])
            refine soft_call 64 _ _ rfl (enters_fn Tryz.func64 (by kernel_rfl) rfl) #[.agg #[.string d.num, .string d.sel, .string d.buy, .string d.car, .string d.iss, .string d.hou, .string d.ins, .string d.fr, .string d.dst, .string d.cur, .int .i64 d.amt, .slice A nb c, .int .i64 d.term, .int .i64 d.lat, .int .i64 d.exp, .int .i64 d.ten, .int .i64 d.dut], .agg #[.string (covV d).cur, .int .i64 (covV d).amt]] (by simp [e48, e49, ec]) ?_
            refine (pcov_any d A nb c (covV d) W1 HI6.out HO.out.num (HT.out W1 (HF6.out.on hB))).mono ?_
            rintro e9 w9 ⟨fa, fc, rfl, hs9, hl9, hb9⟩
            exact ⟨_, rfl, hb9, ⟨fa, fc, rfl, hs9, fun x off e => Nat.le_trans hB.size (hl9 x off e)⟩⟩
          · obtain ⟨A10, c10, d10, h10, l10⟩ := (show (DocHi w6.heap.size d (covV d)) (vs 10) W1 from hR 10 (by simp [hdep]))
            have e50 : ac.eval (.tmp 50) = .agg #[.int .i64 3, .string (⟨#[105, 110, 45]⟩ ++ d.num), .string d.ins, .slice A10 5 c10] := (hE 50 (by simp)).trans (by simp [evF, hdep, d10])
            have hdn := Lib.hid (docs_new c10 h10 l10 hB.size HF6.out.size)
            obtain ⟨W2, hw2⟩ : ∃ W, W1.alloc (.cells #[.int .i64 3, .string (⟨#[105, 110, 45]⟩ ++ d.num), .string d.ins, .slice A10 5 c10] 109) = W := ⟨_, rfl⟩
            have hds := dslice W1 3 (⟨#[105, 110, 45]⟩ ++ d.num) d.ins A10 5 c10
            have hba : Below W1.heap.size W1 W2 := hw2 ▸ one_alloc W1 _
            have hpv : (Array.map (fun x : Nat × Operand => (x.1, ac.eval x.2)) #[(0, Operand.tmp 50)]) = #[(0, .agg #[.int .i64 3, .string (⟨#[105, 110, 45]⟩ ++ d.num), .string d.ins, .slice A10 5 c10])] := by simp [e50]
            refine wp_bs1 54 109 1 #[(0, .tmp 50)] rfl _ hpv _ hds ?_
            rw [hw2] at hdn ⊢
            exact ⟨_, rfl, hba, _, rfl, hdn.out⟩
          · have d4 : vs 4 = .string d.sel := hR 4 (by simp [hdep])
            have e44 : ac.eval (.tmp 44) = .string d.sel := (hE 44 (by simp)).trans (by simp [evF, hdep, d4])
            obtain ⟨g11, d11, x11⟩ := (show (DocV w.heap.size (covP d (covV d))) (vs 11) W1 from hR 11 (by simp [hdep]))
            have e51 : ac.eval (.tmp 51) = .slice (some ⟨g11, 0, none⟩) 1 1 := (hE 51 (by simp)).trans (by simp [evF, hdep, d11])
            exact soft_value (.agg #[.string ⟨#[]⟩, .string d.sel, .int .i64 0, .int .i64 7, .int .i64 0, .string ⟨#[]⟩, .string ⟨#[]⟩, .string ⟨#[]⟩, .int .i64 0, .int .i64 0, .string ⟨#[]⟩, .int .i64 0, .slice (some ⟨g11, 0, none⟩) 1 1, .slice none 0 0]) (by simp [execOp, e44, e51, ec, lbuildD, Result.andThen]) ⟨_, rfl, x11⟩
          · obtain ⟨g12, d12, x12⟩ := (show (LetV w.heap.size d.sel (covP d (covV d))) (vs 12) W1 from hR 12 (by simp [hdep]))
            have e52 : ac.eval (.tmp 52) = .agg #[.string ⟨#[]⟩, .string d.sel, .int .i64 0, .int .i64 7, .int .i64 0, .string ⟨#[]⟩, .string ⟨#[]⟩, .string ⟨#[]⟩, .int .i64 0, .int .i64 0, .string ⟨#[]⟩, .int .i64 0, .slice (some ⟨g12, 0, none⟩) 1 1, .slice none 0 0] := (hE 52 (by simp)).trans (by simp [evF, hdep, d12])
            refine wp_bs1 30 57 1 _ rfl #[(0, .agg #[.string ⟨#[]⟩, .string d.sel, .int .i64 0, .int .i64 7, .int .i64 0, .string ⟨#[]⟩, .string ⟨#[]⟩, .string ⟨#[]⟩, .int .i64 0, .int .i64 0, .string ⟨#[]⟩, .int .i64 0, .slice (some ⟨g12, 0, none⟩) 1 1, .slice none 0 0])] (by simp [e52]) _ (lsliceD W1 d.sel g12) ⟨_, rfl, one_alloc _ _, ⟨_, g12, rfl, Nat.le_trans HF6.out.size hB.size, Blk.new _ _ _, x12.below (one_alloc _ _)⟩⟩
          · obtain ⟨r13, g13, d13, l13, h13, x13⟩ := (show (RowV w.heap.size d.sel (covP d (covV d))) (vs 13) W1 from hR 13 (by simp [hdep]))
            have e53 : ac.eval (.tmp 53) = .slice (some ⟨r13, 0, none⟩) 1 1 := (hE 53 (by simp)).trans (by simp [evF, hdep, d13])
            exact soft_value (.slice (some ⟨r13, 0, none⟩) 1 1) (by unfold execOp; simp only [e53]; rfl) ⟨_, _, rfl, l13, h13, x13⟩
        · intro vs W hB hR
          obtain ⟨gr, gd, h14, l14, d14, x14⟩ := (show RowV w.heap.size d.sel (covP d (covV d)) (vs 14) W from hR 14 (by simp))
          have HO : Hid (OlAt W w.heap.size (.slice (some ⟨gr, 0, none⟩) 1 1) ⟨#[]⟩ 0 (covL d)) := Lib.hid (.inr (.inl ⟨gr, _, _, rfl, rfl, l14, d14, x14⟩))
          have HD7 := Lib.hid (HD6.out.below hB HD6.out.lt)
          have HF7 := Lib.hid (HF6.out.on hB)
          clear hR hB d14 x14
          simp only [fillA, Act.put, List.setIfInBounds_toArray, List.set_cons_zero, List.set_cons_succ, if_true, h14]
          go_wp2_with fail
          go_ret
          rw [HV.out]
          exact ⟨_, rfl, HO.out, HD7.out, HF7.out⟩
    · have q2 : (s.st != 0) = true := by simp [e2]
      have HV : Hid (covrV d s l = ([], s)) := Lib.hid (by unfold covrV; rw [if_neg (fun h => e2 h.2)])
      clear e1 e2
      go_quiet (fail)
      go_wp2_with fail
      go_ret
      rw [HV.out]
      exact DoP.none_ HZ.out (below_drewN HB.out _)
  · have q1 : (l.fr.toList == d.sel.toList) = false := by rw [eq_str]; exact decide_eq_false e1
    have HV : Hid (covrV d s l = ([], s)) := Lib.hid (by unfold covrV; rw [if_neg (fun h => e1 h.1)])
    clear e1
    go_quiet (fail)
    go_wp2_with fail
    go_ret
    rw [HV.out]
    exact DoP.none_ HZ.out (below_drewN HB.out _)
end Go.Proofs.YtdanjegnhdpnlaaGreatDoor.kit
