/- An end of a link: Send. No condition. -/
import Derived.Test.YtlicmhgpldmliaaTlC
import Derived.Test.YtlicmhgpldmliaaSoftX
namespace Go.Proofs.Ytlicmhgpldmliaa.kit
open Go.RowKit
set_option linter.unusedVariables false
set_option linter.unusedSimpArgs false

/-- A block with one letter, high. -/
def OneL (wb : World) (x : Lr) : Value → World → Prop := fun v W => ∃ b, v = .slice (some ⟨b, 0, none⟩) 1 1 ∧ Blk W b 32 #[.string x.fr, .string x.dst, .int .i64 x.num, .int .i64 x.kind, .int .i64 x.ack, .string ⟨#[]⟩, .string ⟨#[]⟩, .string ⟨#[]⟩, .int .i64 x.idx, .int .i64 0, .string ⟨#[]⟩, .int .i64 0, .slice none 0 0, .slice none 0 0] ∧ wb.heap.size ≤ b
theorem stab_onel (wb : World) (x : Lr) : Stab (OneL wb x) := fun _ _ _ ⟨b, h1, h2, h3⟩ hb => ⟨b, h1, h2.below hb h2.lt, h3⟩
theorem stabf_onel (S : Nat → Prop) (wb : World) (x : Lr) (hS : ∀ k, S k → k < wb.heap.size) : StabF S (OneL wb x) := fun _ _ _ ⟨b, h1, h2, h3⟩ hb => ⟨b, h1, h2.fr hb (fun q => by have := hS b q; omega), h3⟩
theorem bsl (x : Lr) (w : World) : (Instr.buildSlice 26 1 #[(0, .agg #[.string x.fr, .string x.dst, .int .i64 x.num, .int .i64 x.kind, .int .i64 x.ack, .string ⟨#[]⟩, .string ⟨#[]⟩, .string ⟨#[]⟩, .int .i64 x.idx, .int .i64 0, .string ⟨#[]⟩, .int .i64 0, .slice none 0 0, .slice none 0 0])]).run Try.prog w = .ok (.slice (some ⟨w.heap.size, 0, none⟩) 1 1) (w.alloc (.cells #[.string x.fr, .string x.dst, .int .i64 x.num, .int .i64 x.kind, .int .i64 x.ack, .string ⟨#[]⟩, .string ⟨#[]⟩, .string ⟨#[]⟩, .int .i64 x.idx, .int .i64 0, .string ⟨#[]⟩, .int .i64 0, .slice none 0 0, .slice none 0 0] 32)) := by kernel_rfl
set_option maxRecDepth 100000 in
set_option maxHeartbeats 12800000 in
theorem send_any (B : Nat) (s o : ByteArray) (v : Value) (xs : List Lr) (sent got sure idx : Int) (gm g : Nat) (ow : Bool) (w : World) (hk : Blk w g 90 #[.string s, .string o, v, .int .i64 sent, .int .i64 got, .int .i64 sure, .map (some gm), .bool ow]) (hv : w.ownsRow B 32 14 v xs.length (xs.flatMap ltC)) (hB : B ≤ w.heap.size) (h1 : 0 ≤ sent ∧ sent ≤ 1000000) (h2 : xs.length < 4096) :
    Calls Try.prog 10 #[(.pointer (some ⟨g, 0, none⟩)), .agg #[.string ⟨#[]⟩, .string ⟨#[]⟩, .int .i64 0, .int .i64 13, .int .i64 0, .string ⟨#[]⟩, .string ⟨#[]⟩, .string ⟨#[]⟩, .int .i64 idx, .int .i64 0, .string ⟨#[]⟩, .int .i64 0, .slice none 0 0, .slice none 0 0]] w fun e w' => e = .returned (.agg #[.string s, .string o, .int .i64 (sent + 1), .int .i64 13, .int .i64 0, .string ⟨#[]⟩, .string ⟨#[]⟩, .string ⟨#[]⟩, .int .i64 idx, .int .i64 0, .string ⟨#[]⟩, .int .i64 0, .slice none 0 0, .slice none 0 0]) ∧ ∃ v', Blk w' g 90 #[.string s, .string o, v', .int .i64 (sent + 1), .int .i64 got, .int .i64 sure, .map (some gm), .bool ow] ∧ w'.ownsRow B 32 14 v' (xs.length + 1) ((xs ++ [(⟨s, o, sent + 1, 13, 0, idx⟩ : Lr)]).flatMap ltC) ∧ NewRow w v v' ∧ Fr (fun k => k = g ∨ v.ownBlock = some k) w w' := by
  obtain ⟨A, c, rfl⟩ := own_slice hv
  obtain ⟨n, hn⟩ : ∃ n, xs.length = n := ⟨_, rfl⟩
  rw [hn] at hv h2 hk ⊢
  have HXN := Lib.hid hn
  obtain ⟨v, hvv⟩ : ∃ v, Value.slice A n c = v := ⟨_, rfl⟩
  have HVV := Lib.hid hvv
  have hlt := hk.lt
  have HV := Lib.hid hv
  have HBB0 := Lib.hid hB
  have HNB := Lib.hid (own_blk_ne hv hk (by decide))
  rw [hvv] at HV HNB
  clear hvv
  have HB1 := Lib.hid (two_alloc w (.cells #[.string ⟨#[]⟩, .string ⟨#[]⟩, .int .i64 0, .int .i64 13, .int .i64 0, .string ⟨#[]⟩, .string ⟨#[]⟩, .string ⟨#[]⟩, .int .i64 idx, .int .i64 0, .string ⟨#[]⟩, .int .i64 0, .slice none 0 0, .slice none 0 0] 32) (.cells #[.string ⟨#[]⟩, .string ⟨#[]⟩, .int .i64 0, .int .i64 0, .int .i64 0, .string ⟨#[]⟩, .string ⟨#[]⟩, .string ⟨#[]⟩, .int .i64 0, .int .i64 0, .string ⟨#[]⟩, .int .i64 0, .slice none 0 0, .slice none 0 0] 32))
  have HL0 : Hid (Blk ((w.alloc (.cells #[.string ⟨#[]⟩, .string ⟨#[]⟩, .int .i64 0, .int .i64 13, .int .i64 0, .string ⟨#[]⟩, .string ⟨#[]⟩, .string ⟨#[]⟩, .int .i64 idx, .int .i64 0, .string ⟨#[]⟩, .int .i64 0, .slice none 0 0, .slice none 0 0] 32)).alloc (.cells #[.string ⟨#[]⟩, .string ⟨#[]⟩, .int .i64 0, .int .i64 0, .int .i64 0, .string ⟨#[]⟩, .string ⟨#[]⟩, .string ⟨#[]⟩, .int .i64 0, .int .i64 0, .string ⟨#[]⟩, .int .i64 0, .slice none 0 0, .slice none 0 0] 32)) w.heap.size 32 #[.string ⟨#[]⟩, .string ⟨#[]⟩, .int .i64 0, .int .i64 13, .int .i64 0, .string ⟨#[]⟩, .string ⟨#[]⟩, .string ⟨#[]⟩, .int .i64 idx, .int .i64 0, .string ⟨#[]⟩, .int .i64 0, .slice none 0 0, .slice none 0 0]) := Lib.hid ((Blk.new _ _ _).alloc _)
  have HR0 : Hid (Blk ((w.alloc (.cells #[.string ⟨#[]⟩, .string ⟨#[]⟩, .int .i64 0, .int .i64 13, .int .i64 0, .string ⟨#[]⟩, .string ⟨#[]⟩, .string ⟨#[]⟩, .int .i64 idx, .int .i64 0, .string ⟨#[]⟩, .int .i64 0, .slice none 0 0, .slice none 0 0] 32)).alloc (.cells #[.string ⟨#[]⟩, .string ⟨#[]⟩, .int .i64 0, .int .i64 0, .int .i64 0, .string ⟨#[]⟩, .string ⟨#[]⟩, .string ⟨#[]⟩, .int .i64 0, .int .i64 0, .string ⟨#[]⟩, .int .i64 0, .slice none 0 0, .slice none 0 0] 32)) (w.heap.size + 1) 32 #[.string ⟨#[]⟩, .string ⟨#[]⟩, .int .i64 0, .int .i64 0, .int .i64 0, .string ⟨#[]⟩, .string ⟨#[]⟩, .string ⟨#[]⟩, .int .i64 0, .int .i64 0, .string ⟨#[]⟩, .int .i64 0, .slice none 0 0, .slice none 0 0]) := Lib.hid (blk_second _ _ _ _)
  have HKa := Lib.hid ((hk.alloc (.cells #[.string ⟨#[]⟩, .string ⟨#[]⟩, .int .i64 0, .int .i64 13, .int .i64 0, .string ⟨#[]⟩, .string ⟨#[]⟩, .string ⟨#[]⟩, .int .i64 idx, .int .i64 0, .string ⟨#[]⟩, .int .i64 0, .slice none 0 0, .slice none 0 0] 32)).alloc (.cells #[.string ⟨#[]⟩, .string ⟨#[]⟩, .int .i64 0, .int .i64 0, .int .i64 0, .string ⟨#[]⟩, .string ⟨#[]⟩, .string ⟨#[]⟩, .int .i64 0, .int .i64 0, .string ⟨#[]⟩, .int .i64 0, .slice none 0 0, .slice none 0 0] 32))
  have q1 : IntKind.i64.wrap (sent + 1) = sent + 1 := IntWalk.i64_in _ (by omega)
  have t1 : decide ((4096 : Int) ≤ (n : Int)) = false := decide_eq_false (by omega)
  have t2 : decide (1048576 ≤ sent) = false := decide_eq_false (by omega)
  obtain ⟨i0, hi, hz0, hz1, hz2⟩ := info_parts infoLt
  clear hk hv hB
  go_enter Try.func10, Try.ntmps10
  go_upto_region 1 with (fail)
  obtain ⟨wa, hwa⟩ : ∃ W, ((w.alloc (.cells #[.string ⟨#[]⟩, .string ⟨#[]⟩, .int .i64 0, .int .i64 13, .int .i64 0, .string ⟨#[]⟩, .string ⟨#[]⟩, .string ⟨#[]⟩, .int .i64 idx, .int .i64 0, .string ⟨#[]⟩, .int .i64 0, .slice none 0 0, .slice none 0 0] 32)).alloc (.cells #[.string ⟨#[]⟩, .string ⟨#[]⟩, .int .i64 0, .int .i64 0, .int .i64 0, .string ⟨#[]⟩, .string ⟨#[]⟩, .string ⟨#[]⟩, .int .i64 0, .int .i64 0, .string ⟨#[]⟩, .int .i64 0, .slice none 0 0, .slice none 0 0] 32)) = W := ⟨_, rfl⟩
  rw [hwa] at HB1 HL0 HR0 HKa ⊢
  obtain ⟨gl, hgl⟩ : ∃ gl, w.heap.size = gl := ⟨_, rfl⟩
  rw [hgl] at HL0 HR0 hlt
  simp only [hgl]
  have HGL := Lib.hid hgl
  have HNE : Hid (gl ≠ g) := Lib.hid (by omega)
  clear hgl hwa
  have d3 := HL0.out.cell 3
  simp only [List.getElem?_toArray, List.getElem?_cons_zero, List.getElem?_cons_succ] at d3
  have e2 := HKa.out.cell 2; have e3 := HKa.out.cell 3; have f3 := HKa.out.frozen 3
  simp only [List.getElem?_toArray, List.getElem?_cons_zero, List.getElem?_cons_succ] at e2 e3
  go_upto_region 4 with (fail)
  have HK0 : Hid (Blk (wa.setCell ⟨g, 3, none⟩ (.int .i64 (sent + 1))) g 90 #[.string s, .string o, v, .int .i64 (sent + 1), .int .i64 got, .int .i64 sure, .map (some gm), .bool ow]) := Lib.hid (by have := HKa.out.set_ 3 (.int .i64 (sent + 1)); rw [← HVV.out]; exact this)
  have HLb : Hid (Blk (wa.setCell ⟨g, 3, none⟩ (.int .i64 (sent + 1))) gl 32 #[.string ⟨#[]⟩, .string ⟨#[]⟩, .int .i64 0, .int .i64 13, .int .i64 0, .string ⟨#[]⟩, .string ⟨#[]⟩, .string ⟨#[]⟩, .int .i64 idx, .int .i64 0, .string ⟨#[]⟩, .int .i64 0, .slice none 0 0, .slice none 0 0]) := Lib.hid (HL0.out.far (p := ⟨g, 3, none⟩) HNE.out _)
  have HRb : Hid (Blk (wa.setCell ⟨g, 3, none⟩ (.int .i64 (sent + 1))) (gl + 1) 32 #[.string ⟨#[]⟩, .string ⟨#[]⟩, .int .i64 0, .int .i64 0, .int .i64 0, .string ⟨#[]⟩, .string ⟨#[]⟩, .string ⟨#[]⟩, .int .i64 0, .int .i64 0, .string ⟨#[]⟩, .int .i64 0, .slice none 0 0, .slice none 0 0]) := Lib.hid (HR0.out.far (p := ⟨g, 3, none⟩) (by have := hlt; simp; omega) _)
  have HFb : Hid (Fr (fun k => k = g ∨ v.ownBlock = some k) w (wa.setCell ⟨g, 3, none⟩ (.int .i64 (sent + 1)))) := Lib.hid ((Fr.of_below HB1.out (Nat.le_refl _)).setCell (p := ⟨g, 3, none⟩) (.inl (.inl rfl)) _)
  have HVb : Hid ((wa.setCell ⟨g, 3, none⟩ (.int .i64 (sent + 1))).ownsRow B 32 14 v n (xs.flatMap ltC)) := Lib.hid (own_set (own_kept_below HV.out HB1.out) HKa.out 3 _)
  obtain ⟨wc, hwc⟩ : ∃ W, wa.setCell ⟨g, 3, none⟩ (.int .i64 (sent + 1)) = W := ⟨_, rfl⟩
  rw [hwc] at HK0 HLb HRb HFb HVb ⊢
  clear hwc e2 e3 f3 d3 HB1 HL0 HR0 HKa
  try simp only [Act.put]
  rw [show Value.slice A n c = v from HVV.out]
  refine wp_region_softX [Is (.pointer (some ⟨g, 0, none⟩)), Is (.pointer (some ⟨g, 0, none⟩)), Is (.pointer (some ⟨g, 0, none⟩)), Is (.string s), Is (.pointer (some ⟨g, 0, none⟩)), Is (.pointer (some ⟨g, 0, none⟩)), Is (.pointer (some ⟨g, 1, none⟩)), Is (.string o), Is (.pointer (some ⟨g, 0, none⟩)), Is (.pointer (some ⟨g, 0, none⟩)), Is (.pointer (some ⟨g, 3, none⟩)), Is (.int .i64 (sent + 1)), Is (.pointer (some ⟨gl, 0, none⟩)), AnyV, Is (.pointer (some ⟨gl, 1, none⟩)), AnyV, Is (.pointer (some ⟨gl, 2, none⟩)), AnyV, Is (.pointer (some ⟨gl, 4, none⟩)), AnyV] ⟨stab_is _, stab_is _, stab_is _, stab_is _, stab_is _, stab_is _, stab_is _, stab_is _, stab_is _, stab_is _, stab_is _, stab_is _, stab_is _, stab_anyv, stab_is _, stab_anyv, stab_is _, stab_anyv, stab_is _, stab_anyv, trivial⟩ (fun k => k = gl) ⟨stabf_is _ _, stabf_is _ _, stabf_is _ _, stabf_is _ _, stabf_is _ _, stabf_is _ _, stabf_is _ _, stabf_is _ _, stabf_is _ _, stabf_is _ _, stabf_is _ _, stabf_is _ _, stabf_is _ _, stabf_anyv _, stabf_is _ _, stabf_anyv _, stabf_is _ _, stabf_anyv _, stabf_is _ _, stabf_anyv _, trivial⟩ [false, false, false, false, false, false, false, false, false, false, false, false, false, true, false, true, false, true, false, true] (fun done _ W => Blk W gl 32 #[.string (if done 13 = true then s else ⟨#[]⟩), .string (if done 15 = true then o else ⟨#[]⟩), .int .i64 (if done 17 = true then sent + 1 else 0), .int .i64 13, .int .i64 0, .string ⟨#[]⟩, .string ⟨#[]⟩, .string ⟨#[]⟩, .int .i64 idx, .int .i64 0, .string ⟨#[]⟩, .int .i64 0, .slice none 0 0, .slice none 0 0]) ?_ ?_ (by kernel_rfl) (by kernel_rfl) ?_ ?_
  · intro k hk done vs v W W' h hnd hb
    have n13 : upDn done k 13 = done 13 := up_ne done (fun e => by subst e; exact absurd hk (by decide))
    have n15 : upDn done k 15 = done 15 := up_ne done (fun e => by subst e; exact absurd hk (by decide))
    have n17 : upDn done k 17 = done 17 := up_ne done (fun e => by subst e; exact absurd hk (by decide))
    have h5 := h.below hb h.lt
    simpa only [n13, n15, n17] using h5
  · exact HLb.out.drew
  · refine ⟨?_, ?_, ?_, ?_, ?_, ?_, ?_, ?_, ?_, ?_, ?_, ?_, ?_, ?_, ?_, ?_, ?_, ?_, ?_, ?_, trivial⟩
    all_goals intro done vs ac W1 hdep hnd hB hR hX hE
    all_goals have ec : ∀ v : Value, ac.eval (.const v) = v := fun _ => rfl
    all_goals try simp [Region.binds] at hdep
    · have e0 : ac.eval (.tmp 0) = .pointer (some ⟨g, 0, none⟩) := (hE 0 (by simp)).trans (by simp [evF, Act.eval])
      exact soft_value (.pointer (some ⟨g, 0, none⟩)) (by unfold execOp; simp only [e0, ec]; rfl) rfl
    · have d0 : vs 0 = .pointer (some ⟨g, 0, none⟩) := hR 0 (by simp [hdep])
      have e31 : ac.eval (.tmp 31) = .pointer (some ⟨g, 0, none⟩) := (hE 31 (by simp)).trans (by simp [evF, hdep, d0])
      exact soft_value (.pointer (some ⟨g, 0, none⟩)) (by unfold execOp; simp only [e31]; go_simp) rfl
    · have d1 : vs 1 = .pointer (some ⟨g, 0, none⟩) := hR 1 (by simp [hdep])
      have e32 : ac.eval (.tmp 32) = .pointer (some ⟨g, 0, none⟩) := (hE 32 (by simp)).trans (by simp [evF, hdep, d1])
      exact soft_value (.pointer (some ⟨g, 0, none⟩)) (by unfold execOp; simp only [e32]; kernel_rfl) rfl
    · have d2 : vs 2 = .pointer (some ⟨g, 0, none⟩) := hR 2 (by simp [hdep])
      have e33 : ac.eval (.tmp 33) = .pointer (some ⟨g, 0, none⟩) := (hE 33 (by simp)).trans (by simp [evF, hdep, d2])
      have hc0 : W1.cell? ⟨g, 0, none⟩ = some (.string s) := (HK0.out.fr hB (fun e => HNE.out e.symm)).cell 0
      exact soft_value (.string s) (by unfold execOp; simp only [e33]; go_simp) rfl
    · have e0 : ac.eval (.tmp 0) = .pointer (some ⟨g, 0, none⟩) := (hE 0 (by simp)).trans (by simp [evF, Act.eval])
      exact soft_value (.pointer (some ⟨g, 0, none⟩)) (by unfold execOp; simp only [e0, ec]; rfl) rfl
    · have d4 : vs 4 = .pointer (some ⟨g, 0, none⟩) := hR 4 (by simp [hdep])
      have e35 : ac.eval (.tmp 35) = .pointer (some ⟨g, 0, none⟩) := (hE 35 (by simp)).trans (by simp [evF, hdep, d4])
      exact soft_value (.pointer (some ⟨g, 0, none⟩)) (by unfold execOp; simp only [e35]; go_simp) rfl
    · have d5 : vs 5 = .pointer (some ⟨g, 0, none⟩) := hR 5 (by simp [hdep])
      have e36 : ac.eval (.tmp 36) = .pointer (some ⟨g, 0, none⟩) := (hE 36 (by simp)).trans (by simp [evF, hdep, d5])
      exact soft_value (.pointer (some ⟨g, 1, none⟩)) (by unfold execOp; simp only [e36]; kernel_rfl) rfl
    · have d6 : vs 6 = .pointer (some ⟨g, 1, none⟩) := hR 6 (by simp [hdep])
      have e37 : ac.eval (.tmp 37) = .pointer (some ⟨g, 1, none⟩) := (hE 37 (by simp)).trans (by simp [evF, hdep, d6])
      have hc1 : W1.cell? ⟨g, 1, none⟩ = some (.string o) := (HK0.out.fr hB (fun e => HNE.out e.symm)).cell 1
      exact soft_value (.string o) (by unfold execOp; simp only [e37]; go_simp) rfl
    · have e0 : ac.eval (.tmp 0) = .pointer (some ⟨g, 0, none⟩) := (hE 0 (by simp)).trans (by simp [evF, Act.eval])
      exact soft_value (.pointer (some ⟨g, 0, none⟩)) (by unfold execOp; simp only [e0, ec]; rfl) rfl
    · have d8 : vs 8 = .pointer (some ⟨g, 0, none⟩) := hR 8 (by simp [hdep])
      have e39 : ac.eval (.tmp 39) = .pointer (some ⟨g, 0, none⟩) := (hE 39 (by simp)).trans (by simp [evF, hdep, d8])
      exact soft_value (.pointer (some ⟨g, 0, none⟩)) (by unfold execOp; simp only [e39]; go_simp) rfl
    · have d9 : vs 9 = .pointer (some ⟨g, 0, none⟩) := hR 9 (by simp [hdep])
      have e40 : ac.eval (.tmp 40) = .pointer (some ⟨g, 0, none⟩) := (hE 40 (by simp)).trans (by simp [evF, hdep, d9])
      exact soft_value (.pointer (some ⟨g, 3, none⟩)) (by unfold execOp; simp only [e40]; kernel_rfl) rfl
    · have d10 : vs 10 = .pointer (some ⟨g, 3, none⟩) := hR 10 (by simp [hdep])
      have e41 : ac.eval (.tmp 41) = .pointer (some ⟨g, 3, none⟩) := (hE 41 (by simp)).trans (by simp [evF, hdep, d10])
      have hc3 : W1.cell? ⟨g, 3, none⟩ = some (.int .i64 (sent + 1)) := (HK0.out.fr hB (fun e => HNE.out e.symm)).cell 3
      exact soft_value (.int .i64 (sent + 1)) (by unfold execOp; simp only [e41]; go_simp) rfl
    · have e3 : ac.eval (.tmp 3) = .pointer (some ⟨gl, 0, none⟩) := (hE 3 (by simp)).trans (by simp [evF, Act.eval])
      exact soft_value (.pointer (some ⟨gl, 0, none⟩)) (by unfold execOp; simp only [e3]; kernel_rfl) rfl
    · have d12 : vs 12 = .pointer (some ⟨gl, 0, none⟩) := hR 12 (by simp [hdep])
      have e43 : ac.eval (.tmp 43) = .pointer (some ⟨gl, 0, none⟩) := (hE 43 (by simp)).trans (by simp [evF, hdep, d12])
      have d3 : vs 3 = .string s := hR 3 (by simp [hdep])
      have e34 : ac.eval (.tmp 34) = .string s := (hE 34 (by simp)).trans (by simp [evF, hdep, d3])
      have hcc := hX.cell 0; have hcf := hX.frozen 0
      simp only [List.getElem?_toArray, List.getElem?_cons_zero, List.getElem?_cons_succ] at hcc
      have n15 : upDn done 13 15 = done 15 := up_ne done (by decide)
      have n17 : upDn done 13 17 = done 17 := up_ne done (by decide)
      refine wp_store_val 9 _ _ rfl gl 0 (.string s) _ e43 e34 hcc hcf (by kernel_rfl) rfl rfl ⟨_, rfl, (Fr.refl _ _).setCell (p := ⟨gl, 0, none⟩) (by first | exact .inl rfl | rfl) _, ?_, trivial⟩
      have h5 := hX.set_ 0 (.string s)
      simp only [List.setIfInBounds_toArray, List.set_cons_zero, List.set_cons_succ] at h5
      simpa [up_same, n15, n17] using h5
    · have e3 : ac.eval (.tmp 3) = .pointer (some ⟨gl, 0, none⟩) := (hE 3 (by simp)).trans (by simp [evF, Act.eval])
      exact soft_value (.pointer (some ⟨gl, 1, none⟩)) (by unfold execOp; simp only [e3]; kernel_rfl) rfl
    · have d14 : vs 14 = .pointer (some ⟨gl, 1, none⟩) := hR 14 (by simp [hdep])
      have e44 : ac.eval (.tmp 44) = .pointer (some ⟨gl, 1, none⟩) := (hE 44 (by simp)).trans (by simp [evF, hdep, d14])
      have d7 : vs 7 = .string o := hR 7 (by simp [hdep])
      have e38 : ac.eval (.tmp 38) = .string o := (hE 38 (by simp)).trans (by simp [evF, hdep, d7])
      have hcc := hX.cell 1; have hcf := hX.frozen 1
      simp only [List.getElem?_toArray, List.getElem?_cons_zero, List.getElem?_cons_succ] at hcc
      have n13 : upDn done 15 13 = done 13 := up_ne done (by decide)
      have n17 : upDn done 15 17 = done 17 := up_ne done (by decide)
      refine wp_store_val 9 _ _ rfl gl 1 (.string o) _ e44 e38 hcc hcf (by kernel_rfl) rfl rfl ⟨_, rfl, (Fr.refl _ _).setCell (p := ⟨gl, 1, none⟩) (by first | exact .inl rfl | rfl) _, ?_, trivial⟩
      have h5 := hX.set_ 1 (.string o)
      simp only [List.setIfInBounds_toArray, List.set_cons_zero, List.set_cons_succ] at h5
      simpa [n13, up_same, n17] using h5
    · have e3 : ac.eval (.tmp 3) = .pointer (some ⟨gl, 0, none⟩) := (hE 3 (by simp)).trans (by simp [evF, Act.eval])
      exact soft_value (.pointer (some ⟨gl, 2, none⟩)) (by unfold execOp; simp only [e3]; kernel_rfl) rfl
    · have d16 : vs 16 = .pointer (some ⟨gl, 2, none⟩) := hR 16 (by simp [hdep])
      have e45 : ac.eval (.tmp 45) = .pointer (some ⟨gl, 2, none⟩) := (hE 45 (by simp)).trans (by simp [evF, hdep, d16])
      have d11 : vs 11 = .int .i64 (sent + 1) := hR 11 (by simp [hdep])
      have e42 : ac.eval (.tmp 42) = .int .i64 (sent + 1) := (hE 42 (by simp)).trans (by simp [evF, hdep, d11])
      have hcc := hX.cell 2; have hcf := hX.frozen 2
      simp only [List.getElem?_toArray, List.getElem?_cons_zero, List.getElem?_cons_succ] at hcc
      have n13 : upDn done 17 13 = done 13 := up_ne done (by decide)
      have n15 : upDn done 17 15 = done 15 := up_ne done (by decide)
      refine wp_store_val 3 _ _ rfl gl 2 (.int .i64 (sent + 1)) _ e45 e42 hcc hcf (by kernel_rfl) rfl rfl ⟨_, rfl, (Fr.refl _ _).setCell (p := ⟨gl, 2, none⟩) (by first | exact .inl rfl | rfl) _, ?_, trivial⟩
      have h5 := hX.set_ 2 (.int .i64 (sent + 1))
      simp only [List.setIfInBounds_toArray, List.set_cons_zero, List.set_cons_succ] at h5
      simpa [n13, n15, up_same] using h5
    · have e3 : ac.eval (.tmp 3) = .pointer (some ⟨gl, 0, none⟩) := (hE 3 (by simp)).trans (by simp [evF, Act.eval])
      exact soft_value (.pointer (some ⟨gl, 4, none⟩)) (by unfold execOp; simp only [e3]; kernel_rfl) rfl
    · have d18 : vs 18 = .pointer (some ⟨gl, 4, none⟩) := hR 18 (by simp [hdep])
      have e46 : ac.eval (.tmp 46) = .pointer (some ⟨gl, 4, none⟩) := (hE 46 (by simp)).trans (by simp [evF, hdep, d18])
      have hcc := hX.cell 4; have hcf := hX.frozen 4
      simp only [List.getElem?_toArray, List.getElem?_cons_zero, List.getElem?_cons_succ] at hcc
      have n13 : upDn done 19 13 = done 13 := up_ne done (by decide)
      have n15 : upDn done 19 15 = done 15 := up_ne done (by decide)
      have n17 : upDn done 19 17 = done 17 := up_ne done (by decide)
      refine wp_store_val 3 _ _ rfl gl 4 (.int .i64 0) _ e46 (ec _) hcc hcf (by kernel_rfl) rfl rfl ⟨_, rfl, (Fr.refl _ _).setCell (p := ⟨gl, 4, none⟩) (by first | exact .inl rfl | rfl) _, ?_, trivial⟩
      have h5 := hX.set_ 4 (.int .i64 0)
      simp only [List.setIfInBounds_toArray, List.set_cons_zero, List.set_cons_succ] at h5
      simpa [n13, n15, n17] using h5
  · intro done vs wb hall hB hR hX
    have x13 := hall 13 (by simp); have x15 := hall 15 (by simp); have x17 := hall 17 (by simp)
    simp only [x13, x15, x17, if_true] at hX
    have HL1 : Hid (Blk wb gl 32 #[.string s, .string o, .int .i64 (sent + 1), .int .i64 13, .int .i64 0, .string ⟨#[]⟩, .string ⟨#[]⟩, .string ⟨#[]⟩, .int .i64 idx, .int .i64 0, .string ⟨#[]⟩, .int .i64 0, .slice none 0 0, .slice none 0 0]) := Lib.hid hX
    have HK1 := Lib.hid (HK0.out.fr hB (fun e => HNE.out e.symm))
    have HR1 := Lib.hid (HRb.out.fr hB (by omega))
    have HF1 : Hid (Fr (fun k => k = g ∨ v.ownBlock = some k) w wb) := Lib.hid (HFb.out.trans hB (fun k hk => .inr (by rw [hk]; exact Nat.le_of_eq HGL.out)))
    have hlv := HV.out.lt
    have HV1 : Hid (wb.ownsRow B 32 14 v n (xs.flatMap ltC)) := Lib.hid (own_fr HVb.out hB (fun k hk e => by have := (hlv k hk).2; have := HGL.out; omega))
    simp only [fillA, Act.put, List.setIfInBounds_toArray, List.set_cons_zero, List.set_cons_succ, if_true]
    have HBB : Hid (B ≤ wb.heap.size) := Lib.hid (Nat.le_trans HBB0.out HF1.out.size)
    have hszb : w.heap.size ≤ wb.heap.size := HF1.out.size
    have HGS : Hid (gl + 1 < wb.heap.size) := Lib.hid HR1.out.lt
    have NS : ∀ k, (k = g ∨ v.ownBlock = some k) → k < wb.heap.size := fun k hk => by
      rcases hk with e | e
      · rw [e]; have := HGL.out; omega
      · have := (hlv k e).2; omega
    have NL : ¬ (gl = g ∨ v.ownBlock = some gl) := fun hk => by
      rcases hk with e | e
      · exact HNE.out e
      · have := (hlv gl e).2; have := HGL.out; omega
    have NR : ¬ (gl + 1 = g ∨ v.ownBlock = some (gl + 1)) := fun hk => by
      rcases hk with e | e
      · omega
      · have := (hlv (gl + 1) e).2; have := HGL.out; omega
    clear hall hR hX x13 x15 x17 hB HK0 HLb HRb HFb HVb
    go_wp2_with fail
    refine wp_region_softX [Is (.pointer (some ⟨g, 0, none⟩)), Is (.pointer (some ⟨g, 0, none⟩)), Is (.pointer (some ⟨g, 0, none⟩)), Is (.pointer (some ⟨g, 2, none⟩)), Is (v), Is (.agg #[.string s, .string o, .int .i64 (sent + 1), .int .i64 13, .int .i64 0, .string ⟨#[]⟩, .string ⟨#[]⟩, .string ⟨#[]⟩, .int .i64 idx, .int .i64 0, .string ⟨#[]⟩, .int .i64 0, .slice none 0 0, .slice none 0 0]), Is (.agg #[.string s, .string o, .int .i64 (sent + 1), .int .i64 13, .int .i64 0, .string ⟨#[]⟩, .string ⟨#[]⟩, .string ⟨#[]⟩, .int .i64 idx, .int .i64 0, .string ⟨#[]⟩, .int .i64 0, .slice none 0 0, .slice none 0 0]), OneL wb ⟨s, o, sent + 1, 13, 0, idx⟩, AnyV, Is (.pointer (some ⟨g, 0, none⟩)), Is (.pointer (some ⟨g, 2, none⟩)), AnyV] ⟨stab_is _, stab_is _, stab_is _, stab_is _, stab_is _, stab_is _, stab_is _, stab_onel _ _, stab_anyv, stab_is _, stab_is _, stab_anyv, trivial⟩ (fun k => k = g ∨ v.ownBlock = some k) ⟨stabf_is _ _, stabf_is _ _, stabf_is _ _, stabf_is _ _, stabf_is _ _, stabf_is _ _, stabf_is _ _, stabf_onel _ _ _ NS, stabf_anyv _, stabf_is _ _, stabf_is _ _, stabf_anyv _, trivial⟩ [false, false, false, false, false, false, false, false, true, false, false, true] (fun done vs W => (done 8 = false → W.ownsRow B 32 14 v n (xs.flatMap ltC)) ∧ (done 8 = true → W.ownsRow B 32 14 (vs 8) (n + 1) ((xs ++ [(⟨s, o, sent + 1, 13, 0, idx⟩ : Lr)]).flatMap ltC) ∧ NewRow wb v (vs 8)) ∧ Blk W g 90 #[.string s, .string o, (if done 11 = true then vs 8 else v), .int .i64 (sent + 1), .int .i64 got, .int .i64 sure, .map (some gm), .bool ow] ∧ (done 11 = true → done 8 = true) ∧ (done 8 = true → done 4 = true)) ?_ ?_ (by kernel_rfl) (by kernel_rfl) ?_ ?_
    · intro k hk done vs u W W' h hnd hb
      have n8 : upDn done k 8 = done 8 := up_ne done (fun e => by subst e; exact absurd hk (by decide))
      have n11 : upDn done k 11 = done 11 := up_ne done (fun e => by subst e; exact absurd hk (by decide))
      have m8 : upVs vs k u 8 = vs 8 := upv_ne vs u (fun e => by subst e; exact absurd hk (by decide))
      rw [n8, n11, m8]
      refine ⟨fun q => own_kept_below (h.1 q) hb, fun q => ⟨own_kept_below (h.2.1 q).1 hb, (h.2.1 q).2⟩, h.2.2.1.below hb h.2.2.1.lt, h.2.2.2.1, fun q => ?_⟩
      unfold upDn
      split
      · rfl
      · exact h.2.2.2.2 q
    · exact ⟨fun _ => HV1.out, fun h => (by cases h), HK1.out.drew, fun h => (by cases h), fun h => (by cases h)⟩
    · refine ⟨?_, ?_, ?_, ?_, ?_, ?_, ?_, ?_, ?_, ?_, ?_, ?_, trivial⟩
      all_goals intro done vs ac W1 hdep hnd hB hR hX hE
      all_goals try simp only [Nat.zero_add, Nat.reduceAdd] at hnd ⊢
      all_goals have ec : ∀ v : Value, ac.eval (.const v) = v := fun _ => rfl
      all_goals try simp [Region.binds] at hdep
      · have e0 : ac.eval (.tmp 0) = .pointer (some ⟨g, 0, none⟩) := (hE 0 (by simp)).trans (by simp [evF, Act.eval])
        exact soft_value (.pointer (some ⟨g, 0, none⟩)) (by unfold execOp; simp only [e0, ec]; rfl) rfl
      · have e0 : ac.eval (.tmp 0) = .pointer (some ⟨g, 0, none⟩) := (hE 0 (by simp)).trans (by simp [evF, Act.eval])
        exact soft_value (.pointer (some ⟨g, 0, none⟩)) (by unfold execOp; simp only [e0, ec]; rfl) rfl
      · have d1 : vs 1 = .pointer (some ⟨g, 0, none⟩) := hR 1 (by simp [hdep])
        have e48 : ac.eval (.tmp 48) = .pointer (some ⟨g, 0, none⟩) := (hE 48 (by simp)).trans (by simp [evF, hdep, d1])
        exact soft_value (.pointer (some ⟨g, 0, none⟩)) (by unfold execOp; simp only [e48]; go_simp) rfl
      · have d2 : vs 2 = .pointer (some ⟨g, 0, none⟩) := hR 2 (by simp [hdep])
        have e49 : ac.eval (.tmp 49) = .pointer (some ⟨g, 0, none⟩) := (hE 49 (by simp)).trans (by simp [evF, hdep, d2])
        exact soft_value (.pointer (some ⟨g, 2, none⟩)) (by unfold execOp; simp only [e49]; kernel_rfl) rfl
      · have d3 : vs 3 = .pointer (some ⟨g, 2, none⟩) := hR 3 (by simp [hdep])
        have e50 : ac.eval (.tmp 50) = .pointer (some ⟨g, 2, none⟩) := (hE 50 (by simp)).trans (by simp [evF, hdep, d3])
        have d8 : done 8 = false := not_of hX.2.2.2.2 hnd
        have d11 : done 11 = false := not_of hX.2.2.2.1 d8
        have hbk := hX.2.2.1
        rw [d11] at hbk
        have hcc := hbk.cell 2
        simp only [List.getElem?_toArray, List.getElem?_cons_zero, List.getElem?_cons_succ, Bool.false_eq_true, if_false] at hcc
        exact soft_value v (by unfold execOp; simp only [e50]; go_simp) rfl
      · have e3 : ac.eval (.tmp 3) = .pointer (some ⟨gl, 0, none⟩) := (hE 3 (by simp)).trans (by simp [evF, Act.eval])
        exact wp_load_row 32 _ rfl (gl) e3 32 _ (0, 0) _ (HL1.out.fr hB NL) Try.underlying32 rfl (by kernel_rfl) ⟨_, rfl, Below.refl _ _, rfl⟩
      · have d5 : vs 5 = .agg #[.string s, .string o, .int .i64 (sent + 1), .int .i64 13, .int .i64 0, .string ⟨#[]⟩, .string ⟨#[]⟩, .string ⟨#[]⟩, .int .i64 idx, .int .i64 0, .string ⟨#[]⟩, .int .i64 0, .slice none 0 0, .slice none 0 0] := hR 5 (by simp [hdep])
        have e52 : ac.eval (.tmp 52) = .agg #[.string s, .string o, .int .i64 (sent + 1), .int .i64 13, .int .i64 0, .string ⟨#[]⟩, .string ⟨#[]⟩, .string ⟨#[]⟩, .int .i64 idx, .int .i64 0, .string ⟨#[]⟩, .int .i64 0, .slice none 0 0, .slice none 0 0] := (hE 52 (by simp)).trans (by simp [evF, hdep, d5])
        refine soft_call 32 _ _ rfl (enters_fn Try.func32 (by kernel_rfl) rfl) #[.agg #[.string s, .string o, .int .i64 (sent + 1), .int .i64 13, .int .i64 0, .string ⟨#[]⟩, .string ⟨#[]⟩, .string ⟨#[]⟩, .int .i64 idx, .int .i64 0, .string ⟨#[]⟩, .int .i64 0, .slice none 0 0, .slice none 0 0]] (by simp [e52, ec]) ?_
        refine (own_any ⟨s, o, sent + 1, 13, 0, idx⟩ W1).mono ?_
        rintro e9 w9 ⟨rfl, hb9⟩
        exact ⟨_, rfl, hb9, rfl⟩
      · have d6 : vs 6 = .agg #[.string s, .string o, .int .i64 (sent + 1), .int .i64 13, .int .i64 0, .string ⟨#[]⟩, .string ⟨#[]⟩, .string ⟨#[]⟩, .int .i64 idx, .int .i64 0, .string ⟨#[]⟩, .int .i64 0, .slice none 0 0, .slice none 0 0] := hR 6 (by simp [hdep])
        have e53 : ac.eval (.tmp 53) = .agg #[.string s, .string o, .int .i64 (sent + 1), .int .i64 13, .int .i64 0, .string ⟨#[]⟩, .string ⟨#[]⟩, .string ⟨#[]⟩, .int .i64 idx, .int .i64 0, .string ⟨#[]⟩, .int .i64 0, .slice none 0 0, .slice none 0 0] := (hE 53 (by simp)).trans (by simp [evF, hdep, d6])
        refine soft_build 26 32 1 _ rfl #[(0, .agg #[.string s, .string o, .int .i64 (sent + 1), .int .i64 13, .int .i64 0, .string ⟨#[]⟩, .string ⟨#[]⟩, .string ⟨#[]⟩, .int .i64 idx, .int .i64 0, .string ⟨#[]⟩, .int .i64 0, .slice none 0 0, .slice none 0 0])] (by simp [e53, ec]) #[.string s, .string o, .int .i64 (sent + 1), .int .i64 13, .int .i64 0, .string ⟨#[]⟩, .string ⟨#[]⟩, .string ⟨#[]⟩, .int .i64 idx, .int .i64 0, .string ⟨#[]⟩, .int .i64 0, .slice none 0 0, .slice none 0 0] (bsl ⟨s, o, sent + 1, 13, 0, idx⟩ W1) ⟨_, rfl, Blk.new_at W1 32 _ _ rfl, hB.size⟩
      · have d4 : vs 4 = v := hR 4 (by simp [hdep])
        have e51 : ac.eval (.tmp 51) = v := (hE 51 (by simp)).trans (by simp [evF, hdep, d4])
        obtain ⟨b7, d7, h7, l7⟩ := (show (OneL wb ⟨s, o, sent + 1, 13, 0, idx⟩) (vs 7) W1 from hR 7 (by simp [hdep]))
        have e54 : ac.eval (.tmp 54) = .slice (some ⟨b7, 0, none⟩) 1 1 := (hE 54 (by simp)).trans (by simp [evF, hdep, d7])
        have ho := hX.1 hnd
        have d11 : done 11 = false := not_of hX.2.2.2.1 hnd
        have hbk := hX.2.2.1
        refine wp_append_any W1 (.tmp 51) (.tmp 54) 26 rfl B 32 i0 _ 14 192 Try.underlying26 hi hz0 hz1 hz2 rfl (by omega) v n (xs.flatMap ltC) e51 ho W1.heap.size (some ⟨b7, 0, none⟩) 1 1 (ltC ⟨s, o, sent + 1, 13, 0, idx⟩) e54 ((SliceOf.blk (en := ltC) h7 [(⟨s, o, sent + 1, 13, 0, idx⟩ : Lr)] rfl lt_len rfl).reads lt_len) (lt_one _) (by unfold maxLen; omega) (by omega) (Nat.le_trans HBB.out hB.size) ?_
        intro v' w' ho' hg' hl'
        have hnr : NewRow wb v v' := by rcases hl' with h | h; exact .inl h; exact .inr (fun b hb => by rw [h] at hb; injection hb with hb; have := hB.size; omega)
        have hbk' := hbk.grown hg' (fun e => own_blk_ne ho hbk (by decide) e.symm)
        rw [d11] at hbk'
        have n11 : upDn done 8 11 = false := by rw [up_ne done (by decide)]; exact d11
        have n4 : upDn done 8 4 = true := by rw [up_ne done (by decide)]; simp [hdep]
        have ho2 : w'.ownsRow B 32 14 v' (n + 1) ((xs ++ [(⟨s, o, sent + 1, 13, 0, idx⟩ : Lr)]).flatMap ltC) := by rw [List.flatMap_append]; simpa using ho'
        refine ⟨_, rfl, (Fr.refl _ _).grown hg' (fun k hk => .inl (.inr hk)), ⟨fun h => (by rw [up_same] at h; cases h), fun _ => (by rw [upv_same]; exact ⟨ho2, hnr⟩), (by rw [n11]; exact hbk'), fun h => (by rw [n11] at h; cases h), fun _ => n4⟩, trivial⟩
      · have d0 : vs 0 = .pointer (some ⟨g, 0, none⟩) := hR 0 (by simp [hdep])
        have e47 : ac.eval (.tmp 47) = .pointer (some ⟨g, 0, none⟩) := (hE 47 (by simp)).trans (by simp [evF, hdep, d0])
        exact soft_value (.pointer (some ⟨g, 0, none⟩)) (by unfold execOp; simp only [e47]; go_simp) rfl
      · have d9 : vs 9 = .pointer (some ⟨g, 0, none⟩) := hR 9 (by simp [hdep])
        have e56 : ac.eval (.tmp 56) = .pointer (some ⟨g, 0, none⟩) := (hE 56 (by simp)).trans (by simp [evF, hdep, d9])
        exact soft_value (.pointer (some ⟨g, 2, none⟩)) (by unfold execOp; simp only [e56]; kernel_rfl) rfl
      · have d10 : vs 10 = .pointer (some ⟨g, 2, none⟩) := hR 10 (by simp [hdep])
        have e57 : ac.eval (.tmp 57) = .pointer (some ⟨g, 2, none⟩) := (hE 57 (by simp)).trans (by simp [evF, hdep, d10])
        have d8 : vs 8 = vs 8 := rfl
        have e55 : ac.eval (.tmp 55) = (vs 8) := (hE 55 (by simp)).trans (by simp [evF, hdep, d8])
        have d8t : done 8 = true := by simp [hdep]
        have hbk := hX.2.2.1
        rw [hnd] at hbk
        have hcc := hbk.cell 2
        have hcf := hbk.frozen 2
        simp only [List.getElem?_toArray, List.getElem?_cons_zero, List.getElem?_cons_succ, Bool.false_eq_true, if_false] at hcc
        obtain ⟨A8, c8, q8⟩ := own_slice (hX.2.1 d8t).1
        have n8 : upDn done 11 8 = true := by rw [up_ne done (by decide)]; exact d8t
        have h5 := hbk.set_ 2 (vs 8)
        simp only [List.setIfInBounds_toArray, List.set_cons_zero, List.set_cons_succ] at h5
        have h6 := own_set (hX.2.1 d8t).1 hbk 2 (vs 8)
        refine wp_store_val 26 _ _ rfl g 2 (vs 8) _ e57 e55 hcc hcf (by kernel_rfl) (by rw [q8]; rfl) (by rw [q8]; rfl) ⟨_, rfl, (Fr.refl _ _).setCell (p := ⟨g, 2, none⟩) (.inl (.inl rfl)) _, ⟨fun h => (by rw [n8] at h; cases h), fun _ => (by rw [upv_ne vs _ (by decide)]; exact ⟨h6, (hX.2.1 d8t).2⟩), (by rw [up_same, upv_ne vs _ (by decide)]; exact h5), fun _ => n8, fun _ => (by rw [up_ne done (by decide)]; exact hX.2.2.2.2 d8t)⟩, trivial⟩
    · intro done vs W hall hB hR hX
      have x8 := hall 8 (by simp); have x11 := hall 11 (by simp)
      have HO2 := Lib.hid (hX.2.1 x8)
      have hbk := hX.2.2.1
      rw [x11, if_pos rfl] at hbk
      have HK2 := Lib.hid hbk
      have HL2 := Lib.hid (HL1.out.fr hB NL)
      have HR2 := Lib.hid (HR1.out.fr hB NR)
      have HF2 : Hid (Fr (fun k => k = g ∨ v.ownBlock = some k) w W) := Lib.hid (HF1.out.trans hB (fun k hk => .inl hk))
      simp only [fillA, Act.put, List.setIfInBounds_toArray, List.set_cons_zero, List.set_cons_succ, if_true]
      obtain ⟨v2, hv2⟩ : ∃ v2, vs 8 = v2 := ⟨_, rfl⟩
      rw [hv2] at HO2 HK2
      clear hall hR hX hbk x8 x11 hB HK1 HL1 HR1 HF1 NL NR NS hv2
      go_wp2_with ((refine stop_load 32 _ rfl ?_; refine wpList_load_want rfl 32 _ rfl gl rfl 32 _ _ HL2.out Try.underlying32 rfl (by kernel_rfl) ?_))
      refine (own_any ⟨s, o, sent + 1, 13, 0, idx⟩ _).mono ?_
      rintro e w3 ⟨rfl, hb3⟩
      have HR3 := Lib.hid (HR2.out.below hb3 HR2.out.lt)
      have HK3 := Lib.hid (HK2.out.below hb3 HK2.out.lt)
      have HO3 := Lib.hid (own_kept_below HO2.out.1 hb3)
      have HF3 := Lib.hid (HF2.out.on hb3)
      clear hb3
      go_wp2_with (refine stop_store 32 _ _ rfl ?_; refine wpList_store_fr rfl 32 _ _ rfl _ rfl rfl HR3.out (by kernel_rfl) rfl rfl ?_; intro w4 hn4 fr4)
      have q0 := hn4.cell 0; have q1 := hn4.cell 1; have q2 := hn4.cell 2; have q3 := hn4.cell 3; have q4 := hn4.cell 4; have q5 := hn4.cell 5; have q6 := hn4.cell 6; have q7 := hn4.cell 7; have q8 := hn4.cell 8; have q9 := hn4.cell 9; have q10 := hn4.cell 10; have q11 := hn4.cell 11; have q12 := hn4.cell 12; have q13 := hn4.cell 13
      simp only [List.getElem?_toArray, List.getElem?_cons_zero, List.getElem?_cons_succ] at q0 q1 q2 q3 q4 q5 q6 q7 q8 q9 q10 q11 q12 q13
      refine bodyPost_ret (v := .agg #[.string s, .string o, .int .i64 (sent + 1), .int .i64 13, .int .i64 0, .string ⟨#[]⟩, .string ⟨#[]⟩, .string ⟨#[]⟩, .int .i64 idx, .int .i64 0, .string ⟨#[]⟩, .int .i64 0, .slice none 0 0, .slice none 0 0]) (by simp [results, Try.results10, go_sem, q0, q1, q2, q3, q4, q5, q6, q7, q8, q9, q10, q11, q12, q13]) rfl ?_
      have hnr : NewRow w v v2 := by
        rcases HO2.out.2 with h | h
        · exact .inl h
        · exact .inr (fun b hb => Nat.le_trans hszb (h b hb))
      rw [HVV.out]
      refine ⟨rfl, v2, HK3.out.fr fr4 (by omega), own_fr HO3.out fr4 (fun k hk e => ?_), hnr, HF3.out.trans fr4 (fun k hk => .inr (by have := HGL.out; omega))⟩
      subst e
      rcases HO2.out.2 with h | h
      · have := (hlv (gl + 1) (by rw [← h]; exact hk)).2; have := HGL.out; omega
      · have := h _ hk; have := HGS.out; omega
end Go.Proofs.Ytlicmhgpldmliaa.kit
