/- An end of a link: Take of a letter that is none of the next. No condition. -/
import Derived.Test.YtlicmhgpldmliaaTlF
namespace Go.Proofs.Ytlicmhgpldmliaa.kit
open Go.RowKit
set_option linter.unusedVariables false
set_option linter.unusedSimpArgs false

theorem acked_none (s o : ByteArray) (sent got sure : Int) (gm g : Nat) (ow : Bool) (w : World) (hk : Blk w g 90 #[.string s, .string o, .slice none 0 0, .int .i64 0, .int .i64 got, .int .i64 sure, .map (some gm), .bool ow]) :
    Calls Try.prog 31 #[(.pointer (some ⟨g, 0, none⟩)), .int .i64 0] w fun e w' => e = .returned (.int .i64 0) ∧ Below w.heap.size w w' := by
  have HA := Lib.hid (acked_any s o none 0 0 0 got sure gm g ow w hk (by omega) (by omega))
  clear hk
  go_enter Try.func31, Try.ntmps31
  go_wp2_with fail
  refine HA.out.mono ?_
  rintro e w1 ⟨rfl, hb1⟩
  have HB1 := Lib.hid hb1
  clear hb1
  go_wp2_with fail
  go_ret
  exact ⟨rfl, HB1.out⟩
/-- What Take of a letter brings that is none of the next. -/
def TakeN (s o : ByteArray) (got sure : Int) (gm g : Nat) (w : World) (e : Ending) (w' : World) : Prop :=
  e = .returned (.tuple #[.slice none 0 0, .bool true]) ∧ Blk w' g 90 #[.string s, .string o, .slice none 0 0, .int .i64 0, .int .i64 got, .int .i64 sure, .map (some gm), .bool true] ∧ Fr (fun k => k = g) w w'
set_option maxRecDepth 100000 in
set_option maxHeartbeats 3200000 in
theorem take_out (s o : ByteArray) (got sure : Int) (gm g : Nat) (ow : Bool) (x : Lr) (w : World) (hk : Blk w g 90 #[.string s, .string o, .slice none 0 0, .int .i64 0, .int .i64 got, .int .i64 sure, .map (some gm), .bool ow]) (hf : x.fr = o) (hd : x.dst = s) (hack : x.ack = 0) (hkd : x.kind ≠ 28) (hnm : 1 ≤ x.num ∧ x.num ≤ 1048576) (hgt : 0 ≤ got ∧ got ≤ 1048576) (hx : x.num ≤ got ∨ got + 64 < x.num) :
    Calls Try.prog 9 #[(.pointer (some ⟨g, 0, none⟩)), .agg #[.string x.fr, .string x.dst, .int .i64 x.num, .int .i64 x.kind, .int .i64 x.ack, .string ⟨#[]⟩, .string ⟨#[]⟩, .string ⟨#[]⟩, .int .i64 x.idx, .int .i64 0, .string ⟨#[]⟩, .int .i64 0, .slice none 0 0, .slice none 0 0]] w (TakeN s o got sure gm g w) := by
  have HX := Lib.hid hx
  clear hx
  have hK0 := Lib.hid (hk.alloc (.cells #[.string x.fr, .string x.dst, .int .i64 x.num, .int .i64 x.kind, .int .i64 x.ack, .string ⟨#[]⟩, .string ⟨#[]⟩, .string ⟨#[]⟩, .int .i64 x.idx, .int .i64 0, .string ⟨#[]⟩, .int .i64 0, .slice none 0 0, .slice none 0 0] 32))
  have hL0 := Lib.hid (Blk.new w 32 #[.string x.fr, .string x.dst, .int .i64 x.num, .int .i64 x.kind, .int .i64 x.ack, .string ⟨#[]⟩, .string ⟨#[]⟩, .string ⟨#[]⟩, .int .i64 x.idx, .int .i64 0, .string ⟨#[]⟩, .int .i64 0, .slice none 0 0, .slice none 0 0])
  have HB0 := Lib.hid (one_alloc w (.cells #[.string x.fr, .string x.dst, .int .i64 x.num, .int .i64 x.kind, .int .i64 x.ack, .string ⟨#[]⟩, .string ⟨#[]⟩, .string ⟨#[]⟩, .int .i64 x.idx, .int .i64 0, .string ⟨#[]⟩, .int .i64 0, .slice none 0 0, .slice none 0 0] 32))
  have HG := Lib.hid hk.lt
  have HOWN : Hid (∀ W, Blk W g 90 #[.string s, .string o, .slice none 0 0, .int .i64 0, .int .i64 got, .int .i64 sure, .map (some gm), .bool ow] → Calls Try.prog 30 #[(.pointer (some ⟨g, 0, none⟩)), .agg #[.string x.fr, .string x.dst, .int .i64 x.num, .int .i64 x.kind, .int .i64 x.ack, .string ⟨#[]⟩, .string ⟨#[]⟩, .string ⟨#[]⟩, .int .i64 x.idx, .int .i64 0, .string ⟨#[]⟩, .int .i64 0, .slice none 0 0, .slice none 0 0]] W fun e w' => e = .returned (.bool true) ∧ Below W.heap.size W w') := Lib.hid (fun W hW => isOwn_any s o (.slice none 0 0) 0 got sure gm g ow x W hW hf hd (by omega) (.inr ⟨hkd, hnm.1⟩))
  have HAK : Hid (∀ W, Blk W g 90 #[.string s, .string o, .slice none 0 0, .int .i64 0, .int .i64 got, .int .i64 sure, .map (some gm), .bool ow] → Calls Try.prog 31 #[(.pointer (some ⟨g, 0, none⟩)), .int .i64 0] W fun e w' => e = .returned (.int .i64 0) ∧ Below W.heap.size W w') := Lib.hid (fun W hW => acked_none s o 0 got sure gm g ow W hW)
  have HNK := Lib.hid hkd
  have HACK := Lib.hid hack
  have HNM := Lib.hid hnm
  have HGT := Lib.hid hgt
  have k28 : (x.kind == 28) = false := by simpa using hkd
  clear hk hf hd hack hkd hnm hgt
  go_enter Try.func9, Try.ntmps9
  go_upto_region 1 with (fail)
  obtain ⟨w0, hw0⟩ : ∃ W, (w.alloc (.cells #[.string x.fr, .string x.dst, .int .i64 x.num, .int .i64 x.kind, .int .i64 x.ack, .string ⟨#[]⟩, .string ⟨#[]⟩, .string ⟨#[]⟩, .int .i64 x.idx, .int .i64 0, .string ⟨#[]⟩, .int .i64 0, .slice none 0 0, .slice none 0 0] 32)) = W := ⟨_, rfl⟩
  obtain ⟨gl, hgl⟩ : ∃ gl, w.heap.size = gl := ⟨_, rfl⟩
  rw [hw0] at hK0 hL0 HB0 ⊢
  have HGL := Lib.hid hgl
  rw [hgl] at hL0
  simp only [hgl]
  clear hw0 hgl
  refine wp_scope_jumps 0 (fun _ _ => False) (fun _ _ => 0) rfl ?_ (fun _ _ h => h.elim)
  go_wp2_with ((refine stop_load 32 _ rfl ?_; refine wpList_load_want rfl 32 _ rfl gl rfl 32 _ _ hL0.out Try.underlying32 rfl (by kernel_rfl) ?_))
  refine (HOWN.out _ hK0.out).mono ?_
  rintro e w1 ⟨rfl, hb1⟩
  have HB1 := Lib.hid (HB0.out.trans (hb1.mono HB0.out.size))
  have hK1 := Lib.hid (hK0.out.below hb1 hK0.out.lt)
  have hL1 := Lib.hid (hL0.out.below hb1 hL0.out.lt)
  clear hb1 hK0 hL0 HB0
  have c4 := hL1.out.cell 4
  simp only [List.getElem?_toArray, List.getElem?_cons_zero, List.getElem?_cons_succ] at c4
  rw [HACK.out] at c4
  go_wp2_with fail
  refine (HAK.out _ hK1.out).mono ?_
  rintro e w2 ⟨rfl, hb2⟩
  have HB2 := Lib.hid (HB1.out.trans (hb2.mono HB1.out.size))
  have hK2 := Lib.hid (hK1.out.below hb2 hK1.out.lt)
  have hL2 := Lib.hid (hL1.out.below hb2 hL1.out.lt)
  clear hb2 hK1 hL1 HB1 c4 HOWN HAK
  have c3 := hL2.out.cell 3
  have e7 := hK2.out.cell 7; have f7 := hK2.out.frozen 7
  simp only [List.getElem?_toArray, List.getElem?_cons_zero, List.getElem?_cons_succ] at c3 e7
  go_upto_region 7 with (fail)
  have HNE : Hid (gl ≠ g) := Lib.hid (by have := HG.out; have := HGL.out; omega)
  have hK3 : Hid (Blk (w2.setCell ⟨g, 7, none⟩ (.bool true)) g 90 #[.string s, .string o, .slice none 0 0, .int .i64 0, .int .i64 got, .int .i64 sure, .map (some gm), .bool true]) := Lib.hid (hK2.out.set_ 7 (.bool true))
  have hL3 : Hid (Blk (w2.setCell ⟨g, 7, none⟩ (.bool true)) gl 32 #[.string x.fr, .string x.dst, .int .i64 x.num, .int .i64 x.kind, .int .i64 x.ack, .string ⟨#[]⟩, .string ⟨#[]⟩, .string ⟨#[]⟩, .int .i64 x.idx, .int .i64 0, .string ⟨#[]⟩, .int .i64 0, .slice none 0 0, .slice none 0 0]) := Lib.hid (hL2.out.far (p := ⟨g, 7, none⟩) HNE.out _)
  have HF3 : Hid (Fr (fun k => k = g) w (w2.setCell ⟨g, 7, none⟩ (.bool true))) := Lib.hid ((show Fr (fun k => k = g) w w2 from Fr.of_below HB2.out (Nat.le_refl _)).setCell (p := ⟨g, 7, none⟩) (.inl rfl) _)
  obtain ⟨w3, hw3⟩ : ∃ W, w2.setCell ⟨g, 7, none⟩ (.bool true) = W := ⟨_, rfl⟩
  rw [hw3] at hK3 hL3 HF3 ⊢
  clear hw3 hK2 hL2 HB2 c3 e7 f7 k28
  have e0 := hK3.out.cell 0; have e1 := hK3.out.cell 1; have e2 := hK3.out.cell 2; have e3 := hK3.out.cell 3; have e4 := hK3.out.cell 4; have e5 := hK3.out.cell 5; have e6 := hK3.out.cell 6; have e7 := hK3.out.cell 7
  simp only [List.getElem?_toArray, List.getElem?_cons_zero, List.getElem?_cons_succ] at e0 e1 e2 e3 e4 e5 e6 e7
  have c2 := hL3.out.cell 2
  simp only [List.getElem?_toArray, List.getElem?_cons_zero, List.getElem?_cons_succ] at c2
  have hP : ∀ w', Below w3.heap.size w3 w' → Hid (TakeN s o got sure gm g w (.returned (.tuple #[.slice none 0 0, .bool true])) w') := fun w' hb => Lib.hid ⟨rfl, hK3.out.below hb hK3.out.lt, HF3.out.on hb⟩
  have HP := Lib.hid hP
  clear hP
  by_cases h1 : x.num ≤ got
  · have t1 : decide (x.num ≤ got) = true := decide_eq_true h1
    go_wp2_with fail
    go_quiet (fail)
    go_wp2_with fail
    go_ret2
    exact (HP.out _ (below_drewN (Below.refl _ _) _)).out
  · have t1 : decide (x.num ≤ got) = false := decide_eq_false h1
    have q1 : IntKind.i64.wrap (x.num - got) = x.num - got := IntWalk.i64_in _ (by have := HNM.out; have := HGT.out; omega)
    have t2 : decide (64 < x.num - got) = true := decide_eq_true (by have := HX.out; omega)
    go_wp2_with fail
    go_quiet (fail)
    go_wp2_with fail
    go_ret2
    exact (HP.out _ (below_drewN (Below.refl _ _) _)).out
end Go.Proofs.Ytlicmhgpldmliaa.kit
