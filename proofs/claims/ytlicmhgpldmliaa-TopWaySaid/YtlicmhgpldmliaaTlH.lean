/- An end of a link: Take of a letter that lies there already. No condition. -/
import Derived.Test.YtlicmhgpldmliaaTlG
namespace Go.Proofs.Ytlicmhgpldmliaa.kit
open Go.RowKit
set_option linter.unusedVariables false
set_option linter.unusedSimpArgs false

abbrev LMap (W : World) (gm n : Nat) (m : Int → Option Lr) : Prop := TMap W gm (.int .i64) (fun q : Int => .int .i64 q) (fun x : Lr => .agg #[.string x.fr, .string x.dst, .int .i64 x.num, .int .i64 x.kind, .int .i64 x.ack, .string ⟨#[]⟩, .string ⟨#[]⟩, .string ⟨#[]⟩, .int .i64 x.idx, .int .i64 0, .string ⟨#[]⟩, .int .i64 0, .slice none 0 0, .slice none 0 0]) n m
theorem zero_lt (u : World) : (zeroValue 32).run Try.prog u = .ok (.agg #[.string ⟨#[]⟩, .string ⟨#[]⟩, .int .i64 0, .int .i64 0, .int .i64 0, .string ⟨#[]⟩, .string ⟨#[]⟩, .string ⟨#[]⟩, .int .i64 0, .int .i64 0, .string ⟨#[]⟩, .int .i64 0, .slice none 0 0, .slice none 0 0]) u := by kernel_rfl
set_option maxRecDepth 100000 in
set_option maxHeartbeats 6400000 in
theorem take_held (s o : ByteArray) (got sure : Int) (gm g : Nat) (ow : Bool) (x : Lr) (w : World) (hk : Blk w g 90 #[.string s, .string o, .slice none 0 0, .int .i64 0, .int .i64 got, .int .i64 sure, .map (some gm), .bool ow]) (hf : x.fr = o) (hd : x.dst = s) (hack : x.ack = 0) (hkd : x.kind ≠ 28) (hnm : 1 ≤ x.num ∧ x.num ≤ 1048576) (hgt : 0 ≤ got ∧ got ≤ 1048576) (hx : got < x.num ∧ x.num ≤ got + 64) (n : Nat) (m : Int → Option Lr) (hm : LMap w gm n m) (y : Lr) (hy : m x.num = some y) :
    Calls Try.prog 9 #[(.pointer (some ⟨g, 0, none⟩)), .agg #[.string x.fr, .string x.dst, .int .i64 x.num, .int .i64 x.kind, .int .i64 x.ack, .string ⟨#[]⟩, .string ⟨#[]⟩, .string ⟨#[]⟩, .int .i64 x.idx, .int .i64 0, .string ⟨#[]⟩, .int .i64 0, .slice none 0 0, .slice none 0 0]] w (TakeN s o got sure gm g w) := by
  have HX := Lib.hid hx
  have HM := Lib.hid hm
  have HY : Hid (((m x.num).map fun x : Lr => Value.agg #[.string x.fr, .string x.dst, .int .i64 x.num, .int .i64 x.kind, .int .i64 x.ack, .string ⟨#[]⟩, .string ⟨#[]⟩, .string ⟨#[]⟩, .int .i64 x.idx, .int .i64 0, .string ⟨#[]⟩, .int .i64 0, .slice none 0 0, .slice none 0 0]).getD (.agg #[.string ⟨#[]⟩, .string ⟨#[]⟩, .int .i64 0, .int .i64 0, .int .i64 0, .string ⟨#[]⟩, .string ⟨#[]⟩, .string ⟨#[]⟩, .int .i64 0, .int .i64 0, .string ⟨#[]⟩, .int .i64 0, .slice none 0 0, .slice none 0 0]) = .agg #[.string y.fr, .string y.dst, .int .i64 y.num, .int .i64 y.kind, .int .i64 y.ack, .string ⟨#[]⟩, .string ⟨#[]⟩, .string ⟨#[]⟩, .int .i64 y.idx, .int .i64 0, .string ⟨#[]⟩, .int .i64 0, .slice none 0 0, .slice none 0 0] ∧ (m x.num).isSome = true) := Lib.hid (by rw [hy]; exact ⟨rfl, rfl⟩)
  have HNG := Lib.hid (hm.ne_blk hk)
  clear hx hm hy
  have hK0 := Lib.hid (hk.alloc (.cells #[.string x.fr, .string x.dst, .int .i64 x.num, .int .i64 x.kind, .int .i64 x.ack, .string ⟨#[]⟩, .string ⟨#[]⟩, .string ⟨#[]⟩, .int .i64 x.idx, .int .i64 0, .string ⟨#[]⟩, .int .i64 0, .slice none 0 0, .slice none 0 0] 32))
  have hL0 := Lib.hid (Blk.new w 32 #[.string x.fr, .string x.dst, .int .i64 x.num, .int .i64 x.kind, .int .i64 x.ack, .string ⟨#[]⟩, .string ⟨#[]⟩, .string ⟨#[]⟩, .int .i64 x.idx, .int .i64 0, .string ⟨#[]⟩, .int .i64 0, .slice none 0 0, .slice none 0 0])
  have HB0 := Lib.hid (one_alloc w (.cells #[.string x.fr, .string x.dst, .int .i64 x.num, .int .i64 x.kind, .int .i64 x.ack, .string ⟨#[]⟩, .string ⟨#[]⟩, .string ⟨#[]⟩, .int .i64 x.idx, .int .i64 0, .string ⟨#[]⟩, .int .i64 0, .slice none 0 0, .slice none 0 0] 32))
  have HG := Lib.hid hk.lt
  have HOWN : Hid (∀ W, Blk W g 90 #[.string s, .string o, .slice none 0 0, .int .i64 0, .int .i64 got, .int .i64 sure, .map (some gm), .bool ow] → Calls Try.prog 30 #[(.pointer (some ⟨g, 0, none⟩)), .agg #[.string x.fr, .string x.dst, .int .i64 x.num, .int .i64 x.kind, .int .i64 x.ack, .string ⟨#[]⟩, .string ⟨#[]⟩, .string ⟨#[]⟩, .int .i64 x.idx, .int .i64 0, .string ⟨#[]⟩, .int .i64 0, .slice none 0 0, .slice none 0 0]] W fun e w' => e = .returned (.bool true) ∧ Below W.heap.size W w') := Lib.hid (fun W hW => isOwn_any s o (.slice none 0 0) 0 got sure gm g ow x W hW hf hd (by omega) (.inr ⟨hkd, hnm.1⟩))
  have HAK : Hid (∀ W, Blk W g 90 #[.string s, .string o, .slice none 0 0, .int .i64 0, .int .i64 got, .int .i64 sure, .map (some gm), .bool ow] → Calls Try.prog 31 #[(.pointer (some ⟨g, 0, none⟩)), .int .i64 0] W fun e w' => e = .returned (.int .i64 0) ∧ Below W.heap.size W w') := Lib.hid (fun W hW => acked_none s o 0 got sure gm g ow W hW)
  have HNK := Lib.hid hkd
  have HACK := Lib.hid hack
  have HNM := Lib.hid hnm
  have HGT := Lib.hid hgt
  have k28 : (x.kind == 28) = false := by simpa using hkd
  clear hk hf hd hack hkd hnm hgt
  go_enter Try.func9, Try.ntmps9
  go_upto_region 1 with (fail)
  obtain ⟨w0, hw0⟩ : ∃ W, (w.alloc (.cells #[.string x.fr, .string x.dst, .int .i64 x.num, .int .i64 x.kind, .int .i64 x.ack, .string ⟨#[]⟩, .string ⟨#[]⟩, .string ⟨#[]⟩, .int .i64 x.idx, .int .i64 0, .string ⟨#[]⟩, .int .i64 0, .slice none 0 0, .slice none 0 0] 32)) = W := ⟨_, rfl⟩
  obtain ⟨gl, hgl⟩ : ∃ gl, w.heap.size = gl := ⟨_, rfl⟩
  rw [hw0] at hK0 hL0 HB0 ⊢
  have HGL := Lib.hid hgl
  rw [hgl] at hL0
  simp only [hgl]
  clear hw0 hgl
  refine wp_scope_jumps 0 (fun _ _ => False) (fun _ _ => 0) rfl ?_ (fun _ _ h => h.elim)
  go_wp2_with ((refine stop_load 32 _ rfl ?_; refine wpList_load_want rfl 32 _ rfl gl rfl 32 _ _ hL0.out Try.underlying32 rfl (by kernel_rfl) ?_))
  refine (HOWN.out _ hK0.out).mono ?_
  rintro e w1 ⟨rfl, hb1⟩
  have HB1 := Lib.hid (HB0.out.trans (hb1.mono HB0.out.size))
  have hK1 := Lib.hid (hK0.out.below hb1 hK0.out.lt)
  have hL1 := Lib.hid (hL0.out.below hb1 hL0.out.lt)
  clear hb1 hK0 hL0 HB0
  have c4 := hL1.out.cell 4
  simp only [List.getElem?_toArray, List.getElem?_cons_zero, List.getElem?_cons_succ] at c4
  rw [HACK.out] at c4
  go_wp2_with fail
  refine (HAK.out _ hK1.out).mono ?_
  rintro e w2 ⟨rfl, hb2⟩
  have HB2 := Lib.hid (HB1.out.trans (hb2.mono HB1.out.size))
  have hK2 := Lib.hid (hK1.out.below hb2 hK1.out.lt)
  have hL2 := Lib.hid (hL1.out.below hb2 hL1.out.lt)
  clear hb2 hK1 hL1 HB1 c4 HOWN HAK
  have c3 := hL2.out.cell 3
  have e7 := hK2.out.cell 7; have f7 := hK2.out.frozen 7
  simp only [List.getElem?_toArray, List.getElem?_cons_zero, List.getElem?_cons_succ] at c3 e7
  go_upto_region 7 with (fail)
  have HNE : Hid (gl ≠ g) := Lib.hid (by have := HG.out; have := HGL.out; omega)
  have hK3 : Hid (Blk (w2.setCell ⟨g, 7, none⟩ (.bool true)) g 90 #[.string s, .string o, .slice none 0 0, .int .i64 0, .int .i64 got, .int .i64 sure, .map (some gm), .bool true]) := Lib.hid (hK2.out.set_ 7 (.bool true))
  have hL3 : Hid (Blk (w2.setCell ⟨g, 7, none⟩ (.bool true)) gl 32 #[.string x.fr, .string x.dst, .int .i64 x.num, .int .i64 x.kind, .int .i64 x.ack, .string ⟨#[]⟩, .string ⟨#[]⟩, .string ⟨#[]⟩, .int .i64 x.idx, .int .i64 0, .string ⟨#[]⟩, .int .i64 0, .slice none 0 0, .slice none 0 0]) := Lib.hid (hL2.out.far (p := ⟨g, 7, none⟩) HNE.out _)
  have HF3 : Hid (Fr (fun k => k = g) w (w2.setCell ⟨g, 7, none⟩ (.bool true))) := Lib.hid ((show Fr (fun k => k = g) w w2 from Fr.of_below HB2.out (Nat.le_refl _)).setCell (p := ⟨g, 7, none⟩) (.inl rfl) _)
  obtain ⟨w3, hw3⟩ : ∃ W, w2.setCell ⟨g, 7, none⟩ (.bool true) = W := ⟨_, rfl⟩
  rw [hw3] at hK3 hL3 HF3 ⊢
  clear hw3 hK2 hL2 HB2 c3 e7 f7 k28
  have e0 := hK3.out.cell 0; have e1 := hK3.out.cell 1; have e2 := hK3.out.cell 2; have e3 := hK3.out.cell 3; have e4 := hK3.out.cell 4; have e5 := hK3.out.cell 5; have e6 := hK3.out.cell 6; have e7 := hK3.out.cell 7
  simp only [List.getElem?_toArray, List.getElem?_cons_zero, List.getElem?_cons_succ] at e0 e1 e2 e3 e4 e5 e6 e7
  have c2 := hL3.out.cell 2
  simp only [List.getElem?_toArray, List.getElem?_cons_zero, List.getElem?_cons_succ] at c2
  have t1 : decide (x.num ≤ got) = false := decide_eq_false (by have := HX.out; omega)
  have q1 : IntKind.i64.wrap (x.num - got) = x.num - got := IntWalk.i64_in _ (by have := HNM.out; have := HGT.out; omega)
  have t2 : decide (64 < x.num - got) = false := decide_eq_false (by have := HX.out; omega)
  have HM3 := Lib.hid (HM.out.fr HF3.out HNG.out)
  go_wp2_with fail
  go_quiet (fail)
  go_wp2_with fail
  obtain ⟨w4, hw4⟩ : ∃ W, w3.drewN nq = W := ⟨_, rfl⟩
  have hb4 : Below w3.heap.size w3 w4 := by rw [← hw4]; exact below_drewN (Below.refl _ _) _
  rw [hw4]
  clear hw4 e0 e1 e2 e3 e4 e5 e6 e7 c2
  have hK4 := Lib.hid (hK3.out.below hb4 hK3.out.lt)
  have hL4 := Lib.hid (hL3.out.below hb4 hL3.out.lt)
  have hM4 := Lib.hid (HM3.out.below hb4 HM3.out.lt)
  have HF4 := Lib.hid (HF3.out.on hb4)
  clear hb4 hK3 hL3 HM3 HF3
  have NG : ¬ w4.heap.size ≤ g := by have := hK4.out.lt; omega
  have NL : ¬ w4.heap.size ≤ gl := by have := hL4.out.lt; omega
  have NM : ¬ w4.heap.size ≤ gm := by have := hM4.out.lt; omega
  refine wp_region_softX [Is (.pointer (some ⟨g, 0, none⟩)), Is (.pointer (some ⟨g, 0, none⟩)), Is (.pointer (some ⟨g, 6, none⟩)), Is (.map (some gm)), Is (.pointer (some ⟨gl, 2, none⟩)), Is (.int .i64 x.num), Is (.tuple #[.agg #[.string y.fr, .string y.dst, .int .i64 y.num, .int .i64 y.kind, .int .i64 y.ack, .string ⟨#[]⟩, .string ⟨#[]⟩, .string ⟨#[]⟩, .int .i64 y.idx, .int .i64 0, .string ⟨#[]⟩, .int .i64 0, .slice none 0 0, .slice none 0 0], .bool true]), Is (.tuple #[.agg #[.string y.fr, .string y.dst, .int .i64 y.num, .int .i64 y.kind, .int .i64 y.ack, .string ⟨#[]⟩, .string ⟨#[]⟩, .string ⟨#[]⟩, .int .i64 y.idx, .int .i64 0, .string ⟨#[]⟩, .int .i64 0, .slice none 0 0, .slice none 0 0], .bool true]), Is (.agg #[.string y.fr, .string y.dst, .int .i64 y.num, .int .i64 y.kind, .int .i64 y.ack, .string ⟨#[]⟩, .string ⟨#[]⟩, .string ⟨#[]⟩, .int .i64 y.idx, .int .i64 0, .string ⟨#[]⟩, .int .i64 0, .slice none 0 0, .slice none 0 0]), Is (.bool true), AnyV, AnyV, Is (.bool true)] ⟨stab_is _, stab_is _, stab_is _, stab_is _, stab_is _, stab_is _, stab_is _, stab_is _, stab_is _, stab_is _, stab_anyv, stab_anyv, stab_is _, trivial⟩ (fun k => w4.heap.size ≤ k) ⟨stabf_is _ _, stabf_is _ _, stabf_is _ _, stabf_is _ _, stabf_is _ _, stabf_is _ _, stabf_is _ _, stabf_is _ _, stabf_is _ _, stabf_is _ _, stabf_anyv _, stabf_anyv _, stabf_is _ _, trivial⟩ [false, false, false, false, false, false, false, false, false, false, true, true, false] (fun done vs W => (done 10 = true → ∃ b, vs 10 = .pointer (some ⟨b, 0, none⟩) ∧ w4.heap.size ≤ b ∧ Blk W b 32 (if done 11 = true then #[.string y.fr, .string y.dst, .int .i64 y.num, .int .i64 y.kind, .int .i64 y.ack, .string ⟨#[]⟩, .string ⟨#[]⟩, .string ⟨#[]⟩, .int .i64 y.idx, .int .i64 0, .string ⟨#[]⟩, .int .i64 0, .slice none 0 0, .slice none 0 0] else #[.string ⟨#[]⟩, .string ⟨#[]⟩, .int .i64 0, .int .i64 0, .int .i64 0, .string ⟨#[]⟩, .string ⟨#[]⟩, .string ⟨#[]⟩, .int .i64 0, .int .i64 0, .string ⟨#[]⟩, .int .i64 0, .slice none 0 0, .slice none 0 0])) ∧ (done 11 = true → done 10 = true)) ?_ ?_ (by kernel_rfl) (by kernel_rfl) ?_ ?_
  · intro k hk done vs v W W' h hnd hb
    have n10 : upDn done k 10 = done 10 := up_ne done (fun e => by subst e; exact absurd hk (by decide))
    have n11 : upDn done k 11 = done 11 := up_ne done (fun e => by subst e; exact absurd hk (by decide))
    have m10 : upVs vs k v 10 = vs 10 := upv_ne vs v (fun e => by subst e; exact absurd hk (by decide))
    rw [n10, n11, m10]
    exact ⟨fun q => (h.1 q).elim fun b hh => ⟨b, hh.1, hh.2.1, hh.2.2.below hb hh.2.2.lt⟩, h.2⟩
  · exact ⟨fun h => (by cases h), fun h => (by cases h)⟩
  · refine ⟨?_, ?_, ?_, ?_, ?_, ?_, ?_, ?_, ?_, ?_, ?_, ?_, ?_, trivial⟩
    all_goals intro done vs ac W1 hdep hnd hB hR hX hE
    all_goals try simp only [Nat.zero_add, Nat.reduceAdd] at hnd ⊢
    all_goals have ec : ∀ v : Value, ac.eval (.const v) = v := fun _ => rfl
    all_goals try simp [Region.binds] at hdep
    · have e0 : ac.eval (.tmp 0) = .pointer (some ⟨g, 0, none⟩) := (hE 0 (by simp)).trans (by simp [evF, Act.eval])
      exact soft_value (.pointer (some ⟨g, 0, none⟩)) (by unfold execOp; simp only [e0, ec]; rfl) rfl
    · have d0 : vs 0 = .pointer (some ⟨g, 0, none⟩) := hR 0 (by simp [hdep])
      have e43 : ac.eval (.tmp 43) = .pointer (some ⟨g, 0, none⟩) := (hE 43 (by simp)).trans (by simp [evF, hdep, d0])
      exact soft_value (.pointer (some ⟨g, 0, none⟩)) (by unfold execOp; simp only [e43]; go_simp) rfl
    · have d1 : vs 1 = .pointer (some ⟨g, 0, none⟩) := hR 1 (by simp [hdep])
      have e44 : ac.eval (.tmp 44) = .pointer (some ⟨g, 0, none⟩) := (hE 44 (by simp)).trans (by simp [evF, hdep, d1])
      exact soft_value (.pointer (some ⟨g, 6, none⟩)) (by unfold execOp; simp only [e44]; kernel_rfl) rfl
    · have d2 : vs 2 = .pointer (some ⟨g, 6, none⟩) := hR 2 (by simp [hdep])
      have e45 : ac.eval (.tmp 45) = .pointer (some ⟨g, 6, none⟩) := (hE 45 (by simp)).trans (by simp [evF, hdep, d2])
      have hc6 : W1.cell? ⟨g, 6, none⟩ = some (.map (some gm)) := (hK4.out.fr hB NG).cell 6
      exact soft_value (.map (some gm)) (by unfold execOp; simp only [e45]; go_simp) rfl
    · have e3 : ac.eval (.tmp 3) = .pointer (some ⟨gl, 0, none⟩) := (hE 3 (by simp)).trans (by simp [evF, Act.eval])
      exact soft_value (.pointer (some ⟨gl, 2, none⟩)) (by unfold execOp; simp only [e3]; kernel_rfl) rfl
    · have d4 : vs 4 = .pointer (some ⟨gl, 2, none⟩) := hR 4 (by simp [hdep])
      have e47 : ac.eval (.tmp 47) = .pointer (some ⟨gl, 2, none⟩) := (hE 47 (by simp)).trans (by simp [evF, hdep, d4])
      have hc2 : W1.cell? ⟨gl, 2, none⟩ = some (.int .i64 x.num) := (hL4.out.fr hB NL).cell 2
      exact soft_value (.int .i64 x.num) (by unfold execOp; simp only [e47]; go_simp) rfl
    · have d3 : vs 3 = .map (some gm) := hR 3 (by simp [hdep])
      have e46 : ac.eval (.tmp 46) = .map (some gm) := (hE 46 (by simp)).trans (by simp [evF, hdep, d3])
      have d5 : vs 5 = .int .i64 x.num := hR 5 (by simp [hdep])
      have e48 : ac.eval (.tmp 48) = .int .i64 x.num := (hE 48 (by simp)).trans (by simp [evF, hdep, d5])
      have hlk := ((hM4.out.fr hB NM).look (P := Try.prog) (keyInt .i64) Try.underlying88 Try.underlying3 (.agg #[.string ⟨#[]⟩, .string ⟨#[]⟩, .int .i64 0, .int .i64 0, .int .i64 0, .string ⟨#[]⟩, .string ⟨#[]⟩, .string ⟨#[]⟩, .int .i64 0, .int .i64 0, .string ⟨#[]⟩, .int .i64 0, .slice none 0 0, .slice none 0 0]) (fun u => zero_lt u) (x.num) true)
      rw [if_pos rfl, HY.out.1, HY.out.2] at hlk
      exact wp_look2 (.tmp 46) (.tmp 48) 88 true rfl _ _ (.tuple #[.agg #[.string y.fr, .string y.dst, .int .i64 y.num, .int .i64 y.kind, .int .i64 y.ack, .string ⟨#[]⟩, .string ⟨#[]⟩, .string ⟨#[]⟩, .int .i64 y.idx, .int .i64 0, .string ⟨#[]⟩, .int .i64 0, .slice none 0 0, .slice none 0 0], .bool true]) e46 e48 hlk ⟨_, rfl, Below.refl _ _, rfl⟩
    · have d6 : vs 6 = .tuple #[.agg #[.string y.fr, .string y.dst, .int .i64 y.num, .int .i64 y.kind, .int .i64 y.ack, .string ⟨#[]⟩, .string ⟨#[]⟩, .string ⟨#[]⟩, .int .i64 y.idx, .int .i64 0, .string ⟨#[]⟩, .int .i64 0, .slice none 0 0, .slice none 0 0], .bool true] := hR 6 (by simp [hdep])
      have e49 : ac.eval (.tmp 49) = .tuple #[.agg #[.string y.fr, .string y.dst, .int .i64 y.num, .int .i64 y.kind, .int .i64 y.ack, .string ⟨#[]⟩, .string ⟨#[]⟩, .string ⟨#[]⟩, .int .i64 y.idx, .int .i64 0, .string ⟨#[]⟩, .int .i64 0, .slice none 0 0, .slice none 0 0], .bool true] := (hE 49 (by simp)).trans (by simp [evF, hdep, d6])
      exact soft_value (.tuple #[.agg #[.string y.fr, .string y.dst, .int .i64 y.num, .int .i64 y.kind, .int .i64 y.ack, .string ⟨#[]⟩, .string ⟨#[]⟩, .string ⟨#[]⟩, .int .i64 y.idx, .int .i64 0, .string ⟨#[]⟩, .int .i64 0, .slice none 0 0, .slice none 0 0], .bool true]) (by unfold execOp; simp only [e49, ec]; rfl) rfl
    · have d7 : vs 7 = .tuple #[.agg #[.string y.fr, .string y.dst, .int .i64 y.num, .int .i64 y.kind, .int .i64 y.ack, .string ⟨#[]⟩, .string ⟨#[]⟩, .string ⟨#[]⟩, .int .i64 y.idx, .int .i64 0, .string ⟨#[]⟩, .int .i64 0, .slice none 0 0, .slice none 0 0], .bool true] := hR 7 (by simp [hdep])
      have e42 : ac.eval (.tmp 42) = .tuple #[.agg #[.string y.fr, .string y.dst, .int .i64 y.num, .int .i64 y.kind, .int .i64 y.ack, .string ⟨#[]⟩, .string ⟨#[]⟩, .string ⟨#[]⟩, .int .i64 y.idx, .int .i64 0, .string ⟨#[]⟩, .int .i64 0, .slice none 0 0, .slice none 0 0], .bool true] := (hE 42 (by simp)).trans (by simp [evF, hdep, d7])
      exact soft_value (.agg #[.string y.fr, .string y.dst, .int .i64 y.num, .int .i64 y.kind, .int .i64 y.ack, .string ⟨#[]⟩, .string ⟨#[]⟩, .string ⟨#[]⟩, .int .i64 y.idx, .int .i64 0, .string ⟨#[]⟩, .int .i64 0, .slice none 0 0, .slice none 0 0]) (by unfold execOp; simp only [e42]; rfl) rfl
    · have d7 : vs 7 = .tuple #[.agg #[.string y.fr, .string y.dst, .int .i64 y.num, .int .i64 y.kind, .int .i64 y.ack, .string ⟨#[]⟩, .string ⟨#[]⟩, .string ⟨#[]⟩, .int .i64 y.idx, .int .i64 0, .string ⟨#[]⟩, .int .i64 0, .slice none 0 0, .slice none 0 0], .bool true] := hR 7 (by simp [hdep])
      have e42 : ac.eval (.tmp 42) = .tuple #[.agg #[.string y.fr, .string y.dst, .int .i64 y.num, .int .i64 y.kind, .int .i64 y.ack, .string ⟨#[]⟩, .string ⟨#[]⟩, .string ⟨#[]⟩, .int .i64 y.idx, .int .i64 0, .string ⟨#[]⟩, .int .i64 0, .slice none 0 0, .slice none 0 0], .bool true] := (hE 42 (by simp)).trans (by simp [evF, hdep, d7])
      exact soft_value (.bool true) (by unfold execOp; simp only [e42]; rfl) rfl
    · have d11 : done 11 = false := not_of hX.2 hnd
      have n11 : upDn done 10 11 = false := by rw [up_ne done (by decide)]; exact d11
      refine wp_alloc_z 32 rfl #[.string ⟨#[]⟩, .string ⟨#[]⟩, .int .i64 0, .int .i64 0, .int .i64 0, .string ⟨#[]⟩, .string ⟨#[]⟩, .string ⟨#[]⟩, .int .i64 0, .int .i64 0, .string ⟨#[]⟩, .int .i64 0, .slice none 0 0, .slice none 0 0] (by kernel_rfl) ⟨_, rfl, (Fr.refl _ _).alloc _, ⟨fun _ => ⟨W1.heap.size, by rw [upv_same], hB.size, ?_⟩, fun h => (by rw [n11] at h; cases h)⟩, trivial⟩
      simp only [n11, Bool.false_eq_true, if_false]
      exact Blk.new _ _ _
    · obtain ⟨b, hb1, hb2, hb3⟩ := hX.1 (by simp [hdep])
      have d10 : vs 10 = .pointer (some ⟨b, 0, none⟩) := hb1
      have e6 : ac.eval (.tmp 6) = .pointer (some ⟨b, 0, none⟩) := (hE 6 (by simp)).trans (by simp [evF, hdep, d10])
      have d8 : vs 8 = .agg #[.string y.fr, .string y.dst, .int .i64 y.num, .int .i64 y.kind, .int .i64 y.ack, .string ⟨#[]⟩, .string ⟨#[]⟩, .string ⟨#[]⟩, .int .i64 y.idx, .int .i64 0, .string ⟨#[]⟩, .int .i64 0, .slice none 0 0, .slice none 0 0] := hR 8 (by simp [hdep])
      have e50 : ac.eval (.tmp 50) = .agg #[.string y.fr, .string y.dst, .int .i64 y.num, .int .i64 y.kind, .int .i64 y.ack, .string ⟨#[]⟩, .string ⟨#[]⟩, .string ⟨#[]⟩, .int .i64 y.idx, .int .i64 0, .string ⟨#[]⟩, .int .i64 0, .slice none 0 0, .slice none 0 0] := (hE 50 (by simp)).trans (by simp [evF, hdep, d8])
      rw [hnd] at hb3
      simp only [Bool.false_eq_true, if_false] at hb3
      refine wp_store_row 32 (.tmp 6) (.tmp 50) rfl b #[.string y.fr, .string y.dst, .int .i64 y.num, .int .i64 y.kind, .int .i64 y.ack, .string ⟨#[]⟩, .string ⟨#[]⟩, .string ⟨#[]⟩, .int .i64 y.idx, .int .i64 0, .string ⟨#[]⟩, .int .i64 0, .slice none 0 0, .slice none 0 0] e6 e50 32 #[.string ⟨#[]⟩, .string ⟨#[]⟩, .int .i64 0, .int .i64 0, .int .i64 0, .string ⟨#[]⟩, .string ⟨#[]⟩, .string ⟨#[]⟩, .int .i64 0, .int .i64 0, .string ⟨#[]⟩, .int .i64 0, .slice none 0 0, .slice none 0 0] hb3 (by kernel_rfl) rfl (by simp [Value.oneCell']) ⟨_, rfl, (fr_row _ _ _).mono (fun k hk => by rw [hk]; exact hb2), ⟨fun _ => ⟨b, by rw [upv_ne vs _ (by decide)]; exact hb1, hb2, ?_⟩, fun _ => by rw [up_ne done (by decide)]; simp [hdep]⟩, trivial⟩
      simp only [up_same, if_true]
      exact setRow_heap W1 b _ _ _ (0, 0) hb3
    · have d9 : vs 9 = .bool true := hR 9 (by simp [hdep])
      have e51 : ac.eval (.tmp 51) = .bool true := (hE 51 (by simp)).trans (by simp [evF, hdep, d9])
      exact soft_value (.bool true) (by unfold execOp; simp only [e51, ec]; rfl) rfl
  intro done vs W hall hB hR hX
  obtain ⟨b, hb1, hb2, hb3⟩ := hX.1 (hall 10 (by simp))
  rw [hall 11 (by simp)] at hb3
  simp only [if_true] at hb3
  have r12 : vs 12 = .bool true := hR 12 (by simp)
  have HB4 := Lib.hid hb3
  have HK4 := Lib.hid (hK4.out.fr hB NG)
  have HL4 := Lib.hid (hL4.out.fr hB NL)
  have HM4 := Lib.hid (hM4.out.fr hB NM)
  simp only [fillA, Act.put, List.setIfInBounds_toArray, List.set_cons_zero, List.set_cons_succ, if_true, r12, hb1]
  have HP : Hid (TakeN s o got sure gm g w (.returned (.tuple #[.slice none 0 0, .bool true])) W) := Lib.hid ⟨rfl, HK4.out, HF4.out.trans hB (fun k hk => .inr (Nat.le_trans HF4.out.size hk))⟩
  clear hall hB hR hX NG NL NM
  go_wp2_with fail
  go_ret2
  exact HP.out
end Go.Proofs.Ytlicmhgpldmliaa.kit
