/- Custody: a hand-over more. No condition. -/
import Derived.Test.YtlicmhgpldmliaaWyL
import Derived.Test.YtlicmhgpldmliaaWyI
import Derived.Test.YtlicmhgpldmliaaRaw
namespace Go.Proofs.Ytlicmhgpldmliaa.kit
open Go.RowKit
set_option linter.unusedVariables false
set_option linter.unusedSimpArgs false
theorem hd_at {w : World} {A : Option Addr} {n : Nat} {xs : List Hd} (h : SliceOf w 5 hdC A n xs) {k : Nat} (hk : k < n) : ∃ b off x, A = some ⟨b, off, none⟩ ∧ xs[k]? = some x ∧ ∀ j v, (hdC x)[j]? = some v → w.cell? ⟨b, off + k * 5 + j, none⟩ = some v := by
  have hl := h.len
  obtain ⟨x, hxk⟩ : ∃ x, xs[k]? = some x := ⟨_, List.getElem?_eq_getElem (by omega)⟩
  obtain ⟨b, off, rfl, hb, hc⟩ := h.at_ (by omega)
  exact ⟨b, off, x, rfl, hxk, fun j v hv => by have := hc k _ hxk j v hv; rwa [← Nat.add_assoc] at this⟩
theorem putF_same {α : Type} (m : ByteArray → Option α) (k : ByteArray) (v : α) : putF m k v k = some v := if_pos rfl
theorem putF_twice {α : Type} (m : ByteArray → Option α) (k : ByteArray) (v v' : α) : putF (putF m k v) k v' = putF m k v' := by
  funext q
  unfold putF
  split <;> rfl
theorem hslice' (w : World) (x : Hd) : (Instr.buildSlice 66 1 #[(0, .agg #[.string x.box, .string x.fr, .string x.to, .string x.pl, .int .i64 x.day])]).run Try.prog w = .ok (.slice (some ⟨w.heap.size, 0, none⟩) 1 1) (w.alloc (.cells #[.string x.box, .string x.fr, .string x.to, .string x.pl, .int .i64 x.day] 63)) := by kernel_rfl
structure StepH (B gm nn : Nat) (m : ByteArray → Option SlA) (v : Value) (n : Nat) (hs : List Hd) (x : Hd) (d8 d9 d10 : Bool) (v8 v9 : Value) (W : World) : Prop where
  c0 : d9 = false → W.ownsRow B 63 5 v n (hs.flatMap hdC)
  c8 : d8 = true → d9 = false → ∃ b', v8 = .slice (some ⟨b', 0, none⟩) 1 1 ∧ Blk W b' 63 #[.string x.box, .string x.fr, .string x.to, .string x.pl, .int .i64 x.day]
  c9 : d9 = true → W.ownsRow B 63 5 v9 (n + 1) ((hs ++ [x]).flatMap hdC)
  m0 : d10 = false → HMap W gm nn m
  m1 : d10 = true → ∃ k A c, v9 = .slice A (n + 1) c ∧ HMap W gm k (putF m x.box ⟨A, n + 1, c⟩)
  o9 : d9 = true → d8 = true
  o10 : d10 = true → d9 = true
section
variable {B gm nn n : Nat} {m : ByteArray → Option SlA} {v : Value} {hs : List Hd} {x : Hd} {d8 d9 d10 : Bool} {v8 v9 : Value} {W W' : World}
theorem StepH.on (h : StepH B gm nn m v n hs x d8 d9 d10 v8 v9 W) (hb : Below W.heap.size W W') : StepH B gm nn m v n hs x d8 d9 d10 v8 v9 W' :=
  ⟨fun q => own_kept_below (h.c0 q) hb, fun p q => (h.c8 p q).elim fun b' hh => ⟨b', hh.1, hh.2.below hb hh.2.lt⟩, fun q => own_kept_below (h.c9 q) hb, fun q => (h.m0 q).below hb (h.m0 q).lt, fun q => (h.m1 q).elim fun k hh => hh.elim fun A hh => hh.elim fun c hh => ⟨k, A, c, hh.1, hh.2.below hb hh.2.lt⟩, h.o9, h.o10⟩
theorem StepH.start (ho : W.ownsRow B 63 5 v n (hs.flatMap hdC)) (h : HMap W gm nn m) : StepH B gm nn m v n hs x false false false v8 v9 W :=
  ⟨fun _ => ho, fun h => (by cases h), fun h => (by cases h), fun _ => h, fun h => (by cases h), fun h => (by cases h), fun h => (by cases h)⟩
end
set_option maxRecDepth 100000 in
set_option maxHeartbeats 6400000 in
theorem hand_any (B gc gm : Nat) (hs : List Hd) (x y : Hd) (k : Nat) (w : World) (hC : Chn B x.box gc gm hs w) (hB_ : B ≤ w.heap.size) (hk : hs.length = k + 1) (hy : hs[k]? = some y) (hto : y.to = x.fr) (hdy : y.day ≤ x.day) (hm : hs.length ≤ 64) (h1 : NmOK x.box) (h2 : NmOK x.fr) (h3 : NmOK x.to) (h4 : NmOK x.pl) (hne : (x.fr.toList == x.to.toList) = false) (h5 : DayOK x.day) :
    Calls Try.prog 19 #[(.pointer (some ⟨gc, 0, none⟩)), .agg #[.string x.box, .string x.fr, .string x.to, .string x.pl, .int .i64 x.day]] w fun e w' => e = .returned (.int .i64 0) ∧ Chn B x.box gc gm (hs ++ [x]) w' ∧ Below B w w' ∧ ∀ g' t' cs', Blk w g' t' cs' → t' ≠ 63 → Blk w' g' t' cs' := by
  have HZ1 := Lib.hid ((one_alloc w (.cells #[.string x.box, .string x.fr, .string x.to, .string x.pl, .int .i64 x.day] 63)).trans ((one_alloc _ (.cells #[.string x.box, .string x.fr, .string x.to, .string x.pl] 9)).mono (by rw [sz_alloc]; omega)))
  have HB1 := Lib.hid (((one_alloc w (.cells #[.string x.box, .string x.fr, .string x.to, .string x.pl, .int .i64 x.day] 63)).trans ((one_alloc _ (.cells #[.string x.box, .string x.fr, .string x.to, .string x.pl] 9)).mono (by rw [sz_alloc]; omega))).mono hB_)
  obtain ⟨nn, A, c, hmp0, hown0⟩ := hC.row
  have HBA : Hid (∀ q, (Value.slice A hs.length c).ownBlock = some q → q < w.heap.size) := Lib.hid (fun q hq => (hown0.lt q hq).2)
  have HMP := Lib.hid ((hmp0.alloc (.cells #[.string x.box, .string x.fr, .string x.to, .string x.pl, .int .i64 x.day] 63)).alloc (.cells #[.string x.box, .string x.fr, .string x.to, .string x.pl] 9))
  have HOW := Lib.hid ((hown0.alloc (.cells #[.string x.box, .string x.fr, .string x.to, .string x.pl, .int .i64 x.day] 63)).alloc (.cells #[.string x.box, .string x.fr, .string x.to, .string x.pl] 9))
  have HKC := Lib.hid ((hC.blk.alloc (.cells #[.string x.box, .string x.fr, .string x.to, .string x.pl, .int .i64 x.day] 63)).alloc (.cells #[.string x.box, .string x.fr, .string x.to, .string x.pl] 9))
  have HGE := Lib.hid (⟨hC.hgc, hC.hgm⟩ : B ≤ gc ∧ B ≤ gm)
  have HKH := Lib.hid ((Blk.new w 63 #[.string x.box, .string x.fr, .string x.to, .string x.pl, .int .i64 x.day]).alloc (.cells #[.string x.box, .string x.fr, .string x.to, .string x.pl] 9))
  have HN := Lib.hid (names_any (some ⟨w.heap.size + 1, 0, none⟩) 4 4 [x.box, x.fr, x.to, x.pl] _ (SliceOf.new (w.alloc (.cells #[.string x.box, .string x.fr, .string x.to, .string x.pl, .int .i64 x.day] 63)) 9 #[.string x.box, .string x.fr, .string x.to, .string x.pl] (w.heap.size + 1) (by rw [sz_alloc]) [x.box, x.fr, x.to, x.pl] rfl (fun _ => rfl) rfl) (by omega) (fun s hs => by simp at hs; rcases hs with rfl | rfl | rfl | rfl <;> assumption))
  have hd : dayB x.day = true := by unfold dayB; simp [h5.1, h5.2]
  have hs4 := slice4 (w.alloc (.cells #[.string x.box, .string x.fr, .string x.to, .string x.pl, .int .i64 x.day] 63)) x.box x.fr x.to x.pl
  rw [sz_alloc] at hs4
  have a0 := (Blk.new w 63 #[.string x.box, .string x.fr, .string x.to, .string x.pl, .int .i64 x.day]).cell 0; have a1 := (Blk.new w 63 #[.string x.box, .string x.fr, .string x.to, .string x.pl, .int .i64 x.day]).cell 1; have a2 := (Blk.new w 63 #[.string x.box, .string x.fr, .string x.to, .string x.pl, .int .i64 x.day]).cell 2; have a3 := (Blk.new w 63 #[.string x.box, .string x.fr, .string x.to, .string x.pl, .int .i64 x.day]).cell 3
  have b1 := HKH.out.cell 1; have b2 := HKH.out.cell 2; have b4 := HKH.out.cell 4
  simp only [List.getElem?_toArray, List.getElem?_cons_zero, List.getElem?_cons_succ] at a0 a1 a2 a3 b1 b2 b4
  clear hC h1 h2 h3 h4 h5 hmp0 hown0
  go_enter Try.func19, Try.ntmps19
  go_wp2_with fail
  refine HN.out.mono ?_
  rintro e w1 ⟨rfl, hw1⟩
  rw [← hw1]
  obtain ⟨w2, hw2⟩ : ∃ W, ((w.alloc (.cells #[.string x.box, .string x.fr, .string x.to, .string x.pl, .int .i64 x.day] 63)).alloc (.cells #[.string x.box, .string x.fr, .string x.to, .string x.pl] 9)) = W := ⟨_, rfl⟩
  obtain ⟨g, hg⟩ : ∃ g, w.heap.size = g := ⟨_, rfl⟩
  rw [hw2] at HMP HOW HKC HB1 HZ1 HKH b1 b2 b4 ⊢
  rw [hg] at HKH b1 b2 b4
  simp only [hg]
  have HGG := Lib.hid hg
  clear hw1 hw2 HN hs4 a0 a1 a2 a3 hg
  go_wp2_with fail
  refine (cday_any x.day _).mono ?_
  rintro e w1 ⟨rfl, rfl⟩
  rw [hd]
  clear hd
  obtain ⟨ba, oa, y', rfl, hyk, hyc⟩ := hd_at (SliceOf.of_own_s HOW.out hd_len rfl rfl) (show k < hs.length by omega)
  rw [hy] at hyk
  injection hyk with hyk
  subst hyk
  have hbw := HBA.out ba rfl
  obtain ⟨n, hn⟩ : ∃ n, hs.length = n := ⟨_, rfl⟩
  rw [hn] at HMP HOW hm hk
  subst hk
  have HHN := Lib.hid hn
  have d0 := hyc 0 _ rfl; have d1 := hyc 1 _ rfl; have d2 := hyc 2 _ rfl; have d3 := hyc 3 _ rfl; have d4 := hyc 4 _ rfl
  rw [Nat.add_zero] at d0
  obtain ⟨ybox, yfr, yto, ypl, yday⟩ := y
  dsimp only at hto hdy d0 d1 d2 d3 d4
  subst hto
  have km : IntKind.i64.wrap (((k + 1 : Nat) : Int) - 1) = (k : Int) := by rw [show ((k + 1 : Nat) : Int) - 1 = (k : Int) by omega]; exact IntWalk.i64_in _ (by omega)
  have kn : (k : Int) < ((k + 1 : Nat) : Int) := by omega
  have n1 : ¬ x.day < yday := by omega
  have n2 : ¬ (4096 : Int) ≤ ((k + 1 : Nat) : Int) := by omega
  clear hyc hn hy HBA
  go_upto_region 5 with (fail)
  try simp only [Act.put, List.setIfInBounds_toArray, List.set_cons_zero, List.set_cons_succ]
  refine wp_region_soft [Is (.pointer (some ⟨gc, 0, none⟩)), Is (.pointer (some ⟨gc, 0, none⟩)), Is (.pointer (some ⟨gc, 0, none⟩)), Is (.map (some gm)), Is (.pointer (some ⟨g, 0, none⟩)), Is (.string x.box), Is (.tuple #[.slice (some ⟨ba, oa, none⟩) (k + 1) c, .bool true]), Is (.tuple #[.slice (some ⟨ba, oa, none⟩) (k + 1) c, .bool true]), Is (.slice (some ⟨ba, oa, none⟩) (k + 1) c), Is (.bool true), Is (.slice (some ⟨ba, oa, none⟩) (k + 1) c), Is (.bool true)] ⟨stab_is _, stab_is _, stab_is _, stab_is _, stab_is _, stab_is _, stab_is _, stab_is _, stab_is _, stab_is _, stab_is _, stab_is _, trivial⟩ (by kernel_rfl) (by kernel_rfl) ?_ ?_
  · refine ⟨?_, ?_, ?_, ?_, ?_, ?_, ?_, ?_, ?_, ?_, ?_, ?_, trivial⟩
    all_goals intro done vs ac W1 hdep hB hR hE
    all_goals have ec : ∀ v : Value, ac.eval (.const v) = v := fun _ => rfl
    all_goals try simp [Region.binds] at hdep
    · have e0 : ac.eval (.tmp 0) = .pointer (some ⟨gc, 0, none⟩) := (hE 0 (by simp)).trans (by simp [evF, Act.eval])
      exact soft_value (.pointer (some ⟨gc, 0, none⟩)) (by unfold execOp; simp only [e0, ec]; rfl) rfl
    · have d0 : vs 0 = .pointer (some ⟨gc, 0, none⟩) := hR 0 (by simp [hdep])
      have e31 : ac.eval (.tmp 31) = .pointer (some ⟨gc, 0, none⟩) := (hE 31 (by simp)).trans (by simp [evF, hdep, d0])
      exact soft_value (.pointer (some ⟨gc, 0, none⟩)) (by unfold execOp; simp only [e31]; go_simp) rfl
    · have d1 : vs 1 = .pointer (some ⟨gc, 0, none⟩) := hR 1 (by simp [hdep])
      have e32 : ac.eval (.tmp 32) = .pointer (some ⟨gc, 0, none⟩) := (hE 32 (by simp)).trans (by simp [evF, hdep, d1])
      exact soft_value (.pointer (some ⟨gc, 0, none⟩)) (by unfold execOp; simp only [e32]; kernel_rfl) rfl
    · have d2 : vs 2 = .pointer (some ⟨gc, 0, none⟩) := hR 2 (by simp [hdep])
      have e33 : ac.eval (.tmp 33) = .pointer (some ⟨gc, 0, none⟩) := (hE 33 (by simp)).trans (by simp [evF, hdep, d2])
      have hc0 : W1.cell? ⟨gc, 0, none⟩ = some (.map (some gm)) := (HKC.out.below hB HKC.out.lt).cell 0
      exact soft_value (.map (some gm)) (by unfold execOp; simp only [e33]; go_simp) rfl
    · have e3 : ac.eval (.tmp 3) = .pointer (some ⟨g, 0, none⟩) := (hE 3 (by simp)).trans (by simp [evF, Act.eval])
      exact soft_value (.pointer (some ⟨g, 0, none⟩)) (by unfold execOp; simp only [e3]; kernel_rfl) rfl
    · have d4 : vs 4 = .pointer (some ⟨g, 0, none⟩) := hR 4 (by simp [hdep])
      have e35 : ac.eval (.tmp 35) = .pointer (some ⟨g, 0, none⟩) := (hE 35 (by simp)).trans (by simp [evF, hdep, d4])
      have hc0 : W1.cell? ⟨g, 0, none⟩ = some (.string x.box) := (HKH.out.below hB HKH.out.lt).cell 0
      exact soft_value (.string x.box) (by unfold execOp; simp only [e35]; go_simp) rfl
    · have d3 : vs 3 = .map (some gm) := hR 3 (by simp [hdep])
      have e34 : ac.eval (.tmp 34) = .map (some gm) := (hE 34 (by simp)).trans (by simp [evF, hdep, d3])
      have d5 : vs 5 = .string x.box := hR 5 (by simp [hdep])
      have e36 : ac.eval (.tmp 36) = .string x.box := (hE 36 (by simp)).trans (by simp [evF, hdep, d5])
      have hlk := (HMP.out.below hB HMP.out.lt).look keyStr (P := Try.prog) (mty := 105) Try.underlying105 Try.underlying9 _ zero_hd x.box true
      rw [putF_same] at hlk
      simp only [Option.map_some, Option.getD_some, Option.isSome_some, if_true] at hlk
      exact wp_look2 (.tmp 34) (.tmp 36) 105 true rfl _ _ (.tuple #[.slice (some ⟨ba, oa, none⟩) (k + 1) c, .bool true]) e34 e36 hlk ⟨_, rfl, Below.refl _ _, rfl⟩
    · have d6 : vs 6 = .tuple #[.slice (some ⟨ba, oa, none⟩) (k + 1) c, .bool true] := hR 6 (by simp [hdep])
      have e37 : ac.eval (.tmp 37) = .tuple #[.slice (some ⟨ba, oa, none⟩) (k + 1) c, .bool true] := (hE 37 (by simp)).trans (by simp [evF, hdep, d6])
      exact soft_value (.tuple #[.slice (some ⟨ba, oa, none⟩) (k + 1) c, .bool true]) (by unfold execOp; simp only [e37, ec]; rfl) rfl
    · have d7 : vs 7 = .tuple #[.slice (some ⟨ba, oa, none⟩) (k + 1) c, .bool true] := hR 7 (by simp [hdep])
      have e30 : ac.eval (.tmp 30) = .tuple #[.slice (some ⟨ba, oa, none⟩) (k + 1) c, .bool true] := (hE 30 (by simp)).trans (by simp [evF, hdep, d7])
      exact soft_value (.slice (some ⟨ba, oa, none⟩) (k + 1) c) (by unfold execOp; simp only [e30]; rfl) rfl
    · have d7 : vs 7 = .tuple #[.slice (some ⟨ba, oa, none⟩) (k + 1) c, .bool true] := hR 7 (by simp [hdep])
      have e30 : ac.eval (.tmp 30) = .tuple #[.slice (some ⟨ba, oa, none⟩) (k + 1) c, .bool true] := (hE 30 (by simp)).trans (by simp [evF, hdep, d7])
      exact soft_value (.bool true) (by unfold execOp; simp only [e30]; rfl) rfl
    · have d8 : vs 8 = .slice (some ⟨ba, oa, none⟩) (k + 1) c := hR 8 (by simp [hdep])
      have e38 : ac.eval (.tmp 38) = .slice (some ⟨ba, oa, none⟩) (k + 1) c := (hE 38 (by simp)).trans (by simp [evF, hdep, d8])
      exact soft_value (.slice (some ⟨ba, oa, none⟩) (k + 1) c) (by unfold execOp; simp only [e38, ec]; rfl) rfl
    · have d9 : vs 9 = .bool true := hR 9 (by simp [hdep])
      have e39 : ac.eval (.tmp 39) = .bool true := (hE 39 (by simp)).trans (by simp [evF, hdep, d9])
      exact soft_value (.bool true) (by unfold execOp; simp only [e39, ec]; rfl) rfl
  intro vs W hB hR
  have r5 : vs 10 = .slice (some ⟨ba, oa, none⟩) (k + 1) c := hR 10 (by simp)
  have r6 : vs 11 = .bool true := hR 11 (by simp)
  simp only [fillA, Act.put, List.setIfInBounds_toArray, List.set_cons_zero, List.set_cons_succ, if_true, r5, r6]
  have HBW : Hid (Below B w W) := Lib.hid (HB1.out.trans (hB.mono (Nat.le_trans hB_ HB1.out.size)))
  have HZW := Lib.hid (HZ1.out.trans (hB.mono HZ1.out.size))
  have HKHW := Lib.hid (HKH.out.below hB HKH.out.lt)
  have HKCW := Lib.hid (HKC.out.below hB HKC.out.lt)
  have HMPW := Lib.hid (HMP.out.below hB HMP.out.lt)
  have HOWW := Lib.hid (own_kept_below HOW.out hB)
  have d0 := (hB.cell (World.block_lt_of_cell? _ _ d0)).trans d0; have d1 := (hB.cell (World.block_lt_of_cell? _ _ d1)).trans d1; have d2 := (hB.cell (World.block_lt_of_cell? _ _ d2)).trans d2; have d3 := (hB.cell (World.block_lt_of_cell? _ _ d3)).trans d3; have d4 := (hB.cell (World.block_lt_of_cell? _ _ d4)).trans d4
  have b4 := HKHW.out.cell 4; have b1 := HKHW.out.cell 1
  simp only [List.getElem?_toArray, List.getElem?_cons_zero, List.getElem?_cons_succ] at b1 b4
  clear hR r5 r6 b2 hB HKH HKC HMP HOW HB1
  have HB3 := Lib.hid (HBW.out.alloc (Nat.le_trans hB_ HBW.out.size) (.cells #[.string ybox, .string yfr, .string x.fr, .string ypl, .int .i64 yday] 63))
  have HZ3 := Lib.hid (HZW.out.alloc HZW.out.size (.cells #[.string ybox, .string yfr, .string x.fr, .string ypl, .int .i64 yday] 63))
  have HKH3 := Lib.hid (HKHW.out.alloc (.cells #[.string ybox, .string yfr, .string x.fr, .string ypl, .int .i64 yday] 63))
  have HKC3 := Lib.hid (HKCW.out.alloc (.cells #[.string ybox, .string yfr, .string x.fr, .string ypl, .int .i64 yday] 63))
  have HMP3 := Lib.hid (HMPW.out.alloc (.cells #[.string ybox, .string yfr, .string x.fr, .string ypl, .int .i64 yday] 63))
  have HOW3 := Lib.hid (HOWW.out.alloc (.cells #[.string ybox, .string yfr, .string x.fr, .string ypl, .int .i64 yday] 63))
  have HL3 := Lib.hid (Blk.new W 63 #[.string ybox, .string yfr, .string x.fr, .string ypl, .int .i64 yday])
  clear HBW HKHW HKCW HMPW HOWW
  go_upto_region 9 with ((refine stop_store 63 _ _ rfl ?_; refine wpList_store_new rfl 63 _ _ rfl _ rfl rfl (by kernel_rfl) rfl rfl ?_))
  obtain ⟨w3, hw3⟩ : ∃ W3, W.alloc (.cells #[.string ybox, .string yfr, .string x.fr, .string ypl, .int .i64 yday] 63) = W3 := ⟨_, rfl⟩
  obtain ⟨g3, hg3⟩ : ∃ g, W.heap.size = g := ⟨_, rfl⟩
  rw [hw3] at HZ3 HB3 HKH3 HKC3 HMP3 HOW3 HL3 ⊢
  rw [hg3] at HL3
  simp only [hg3]
  clear hw3 hg3 d0 d1 d2 d3 d4 b1 b4
  have b4 := HKH3.out.cell 4; have b1 := HKH3.out.cell 1
  have l2 := HL3.out.cell 2; have l4 := HL3.out.cell 4
  simp only [List.getElem?_toArray, List.getElem?_cons_zero, List.getElem?_cons_succ] at b1 b4 l2 l4
  go_upto_region 15 with (fail)
  clear b4 b1 l2 l4
  try simp only [Act.put, List.setIfInBounds_toArray, List.set_cons_zero, List.set_cons_succ]
  obtain ⟨i0, hi, hz0, hz1, hz2⟩ := info_parts infoHd
  have hq0 : 0 < 5 := by omega
  have HBS : Hid (B ≤ w3.heap.size) := Lib.hid (Nat.le_trans hB_ HB3.out.size)
  have hba : B ≤ ba ∧ ba < w3.heap.size := HOW3.out.lt ba rfl
  have NGC : ¬ (gc = gm ∨ gc = ba ∨ w3.heap.size ≤ gc) := by
    rintro (h | h | h)
    · obtain ⟨es, ck, ys, q, _⟩ := HMP3.out
      have q2 := HKC3.out
      unfold Blk at q2
      rw [h, q] at q2
      cases q2
    · exact own_blk_ne HOW3.out HKC3.out (by decide) (by rw [h]; rfl)
    · have := HKC3.out.lt; omega
  have NGH : ¬ (g = gm ∨ g = ba ∨ w3.heap.size ≤ g) := by
    rintro (h | h | h)
    · obtain ⟨es, ck, ys, q, _⟩ := HMP3.out
      have q2 := HKH3.out
      unfold Blk at q2
      rw [h, q] at q2
      cases q2
    · have := HGG.out; have := hbw; omega
    · have := HKH3.out.lt; omega
  refine wp_region_softX [Is (.pointer (some ⟨gc, 0, none⟩)), Is (.pointer (some ⟨gc, 0, none⟩)), Is (.pointer (some ⟨gc, 0, none⟩)), Is (.map (some gm)), Is (.pointer (some ⟨g, 0, none⟩)), Is (.string x.box), Is (.slice (some ⟨ba, oa, none⟩) (k + 1) c), Is (.agg #[.string x.box, .string x.fr, .string x.to, .string x.pl, .int .i64 x.day]), AnyV, AnyV, AnyV] ⟨stab_is _, stab_is _, stab_is _, stab_is _, stab_is _, stab_is _, stab_is _, stab_is _, stab_anyv, stab_anyv, stab_anyv, trivial⟩ (fun q => q = gm ∨ q = ba ∨ w3.heap.size ≤ q) ⟨stabf_is _ _, stabf_is _ _, stabf_is _ _, stabf_is _ _, stabf_is _ _, stabf_is _ _, stabf_is _ _, stabf_is _ _, stabf_anyv _, stabf_anyv _, stabf_anyv _, trivial⟩ [false, false, false, false, false, false, false, false, true, true, true] (fun done vs W => StepH B gm nn (putF (fun _ => none) x.box ⟨some ⟨ba, oa, none⟩, k + 1, c⟩) (.slice (some ⟨ba, oa, none⟩) (k + 1) c) (k + 1) hs x (done 8) (done 9) (done 10) (vs 8) (vs 9) W) ?_ ?_ (by kernel_rfl) (by kernel_rfl) ?_ ?_
  · intro q_ hq_ done vs v_ W W' h hnd hb
    have n8 : upDn done q_ 8 = done 8 := up_ne done (fun e => by subst e; exact absurd hq_ (by decide))
    have n9 : upDn done q_ 9 = done 9 := up_ne done (fun e => by subst e; exact absurd hq_ (by decide))
    have n10 : upDn done q_ 10 = done 10 := up_ne done (fun e => by subst e; exact absurd hq_ (by decide))
    have m8 : upVs vs q_ v_ 8 = vs 8 := upv_ne vs v_ (fun e => by subst e; exact absurd hq_ (by decide))
    have m9 : upVs vs q_ v_ 9 = vs 9 := upv_ne vs v_ (fun e => by subst e; exact absurd hq_ (by decide))
    rw [n8, n9, n10, m8, m9]
    exact h.on hb
  · exact StepH.start HOW3.out HMP3.out
  · refine ⟨?_, ?_, ?_, ?_, ?_, ?_, ?_, ?_, ?_, ?_, ?_, trivial⟩
    all_goals intro done vs ac W1 hdep hnd hB hR hX hE
    all_goals try simp only [Nat.zero_add, Nat.reduceAdd] at hnd ⊢
    all_goals have ec : ∀ v : Value, ac.eval (.const v) = v := fun _ => rfl
    all_goals try simp [Region.binds] at hdep
    · have e0 : ac.eval (.tmp 0) = .pointer (some ⟨gc, 0, none⟩) := (hE 0 (by simp)).trans (by simp [evF, Act.eval])
      exact soft_value (.pointer (some ⟨gc, 0, none⟩)) (by unfold execOp; simp only [e0, ec]; rfl) rfl
    · have d0 : vs 0 = .pointer (some ⟨gc, 0, none⟩) := hR 0 (by simp [hdep])
      have e64 : ac.eval (.tmp 64) = .pointer (some ⟨gc, 0, none⟩) := (hE 64 (by simp)).trans (by simp [evF, hdep, d0])
      exact soft_value (.pointer (some ⟨gc, 0, none⟩)) (by unfold execOp; simp only [e64]; go_simp) rfl
    · have d1 : vs 1 = .pointer (some ⟨gc, 0, none⟩) := hR 1 (by simp [hdep])
      have e65 : ac.eval (.tmp 65) = .pointer (some ⟨gc, 0, none⟩) := (hE 65 (by simp)).trans (by simp [evF, hdep, d1])
      exact soft_value (.pointer (some ⟨gc, 0, none⟩)) (by unfold execOp; simp only [e65]; kernel_rfl) rfl
    · have d2 : vs 2 = .pointer (some ⟨gc, 0, none⟩) := hR 2 (by simp [hdep])
      have e66 : ac.eval (.tmp 66) = .pointer (some ⟨gc, 0, none⟩) := (hE 66 (by simp)).trans (by simp [evF, hdep, d2])
      have hc0 : W1.cell? ⟨gc, 0, none⟩ = some (.map (some gm)) := (HKC3.out.fr hB NGC).cell 0
      exact soft_value (.map (some gm)) (by unfold execOp; simp only [e66]; go_simp) rfl
    · have e3 : ac.eval (.tmp 3) = .pointer (some ⟨g, 0, none⟩) := (hE 3 (by simp)).trans (by simp [evF, Act.eval])
      exact soft_value (.pointer (some ⟨g, 0, none⟩)) (by unfold execOp; simp only [e3]; kernel_rfl) rfl
    · have d4 : vs 4 = .pointer (some ⟨g, 0, none⟩) := hR 4 (by simp [hdep])
      have e68 : ac.eval (.tmp 68) = .pointer (some ⟨g, 0, none⟩) := (hE 68 (by simp)).trans (by simp [evF, hdep, d4])
      have hc0 : W1.cell? ⟨g, 0, none⟩ = some (.string x.box) := (HKH3.out.fr hB NGH).cell 0
      exact soft_value (.string x.box) (by unfold execOp; simp only [e68]; go_simp) rfl
    · have e5 : ac.eval (.tmp 5) = .slice (some ⟨ba, oa, none⟩) (k + 1) c := (hE 5 (by simp)).trans (by simp [evF, Act.eval])
      exact soft_value (.slice (some ⟨ba, oa, none⟩) (k + 1) c) (by unfold execOp; simp only [e5, ec]; rfl) rfl
    · have e3 : ac.eval (.tmp 3) = .pointer (some ⟨g, 0, none⟩) := (hE 3 (by simp)).trans (by simp [evF, Act.eval])
      exact wp_load_row 63 _ rfl (g) e3 63 _ (0, 0) _ (HKH3.out.fr hB NGH) Try.underlying63 rfl (by kernel_rfl) ⟨_, rfl, Below.refl _ _, rfl⟩
    · have d7 : vs 7 = .agg #[.string x.box, .string x.fr, .string x.to, .string x.pl, .int .i64 x.day] := hR 7 (by simp [hdep])
      have e71 : ac.eval (.tmp 71) = .agg #[.string x.box, .string x.fr, .string x.to, .string x.pl, .int .i64 x.day] := (hE 71 (by simp)).trans (by simp [evF, hdep, d7])
      have d9 : done 9 = false := not_of hX.o9 hnd
      have d10 : done 10 = false := not_of hX.o10 d9
      refine wp_bs1 66 63 1 _ rfl #[(0, .agg #[.string x.box, .string x.fr, .string x.to, .string x.pl, .int .i64 x.day])] (by simp [e71]) #[.string x.box, .string x.fr, .string x.to, .string x.pl, .int .i64 x.day] (hslice' W1 x) ⟨_, rfl, (Fr.refl _ _).alloc _, ?_, trivial⟩
      obtain ⟨v', hv'⟩ : ∃ v', Value.slice (some ⟨W1.heap.size, 0, none⟩) 1 1 = v' := ⟨_, rfl⟩
      rw [hv']
      have hbk : Blk (W1.alloc (.cells #[.string x.box, .string x.fr, .string x.to, .string x.pl, .int .i64 x.day] 63)) W1.heap.size 63 #[.string x.box, .string x.fr, .string x.to, .string x.pl, .int .i64 x.day] := Blk.new _ _ _
      have n9 : upDn done 8 9 = done 9 := up_ne done (by decide)
      have n10 : upDn done 8 10 = done 10 := up_ne done (by decide)
      have m9 : upVs vs 8 v' 9 = vs 9 := upv_ne vs v' (by decide)
      rw [up_same, upv_same, n9, n10, m9, d9, d10]
      exact ⟨fun _ => (hX.c0 d9).alloc _, fun _ _ => ⟨_, hv'.symm, hbk⟩, fun h => (by cases h), fun _ => (hX.m0 d10).alloc _, fun h => (by cases h), fun h => (by cases h), fun h => (by cases h)⟩
    · have d6 : vs 6 = .slice (some ⟨ba, oa, none⟩) (k + 1) c := hR 6 (by simp [hdep])
      have e70 : ac.eval (.tmp 70) = .slice (some ⟨ba, oa, none⟩) (k + 1) c := (hE 70 (by simp)).trans (by simp [evF, hdep, d6])
      have d8 : vs 8 = vs 8 := rfl
      have e72 : ac.eval (.tmp 72) = (vs 8) := (hE 72 (by simp)).trans (by simp [evF, hdep, d8])
      have d10 : done 10 = false := not_of hX.o10 hnd
      have d8t : done 8 = true := by simp [hdep]
      have ho := hX.c0 hnd
      obtain ⟨b8, hb8, hk8⟩ := hX.c8 d8t hnd
      rw [hb8] at e72
      refine wp_append_any W1 (.tmp 70) (.tmp 72) 66 rfl B 63 i0 _ 5 72 Try.underlying66 hi hz0 hz1 hz2 rfl hq0 (.slice (some ⟨ba, oa, none⟩) (k + 1) c) (k + 1) (hs.flatMap hdC) e70 ho W1.heap.size (some ⟨b8, 0, none⟩) 1 1 ([x].flatMap hdC) e72 ((SliceOf.blk (en := hdC) hk8 [x] rfl hd_len rfl).reads hd_len) (hd_one _) (by unfold maxLen; omega) (by omega) (Nat.le_trans HBS.out hB.size) ?_
      intro v' w' ho' hg' hl'
      rw [← List.flatMap_append] at ho'
      have hng : (some gm : Option Nat) ≠ (Value.slice (some ⟨ba, oa, none⟩) (k + 1) c).ownBlock := fun e => (hX.m0 d10).ne_own ho e.symm
      refine ⟨_, rfl, (Fr.refl _ _).grown hg' (fun k hk => .inl (.inr (.inl (by injection hk with hk; exact hk.symm)))), ?_, trivial⟩
      have n8 : upDn done 9 8 = done 8 := up_ne done (by decide)
      have n10 : upDn done 9 10 = done 10 := up_ne done (by decide)
      have m8 : upVs vs 9 v' 8 = vs 8 := upv_ne vs v' (by decide)
      rw [up_same, upv_same, n8, n10, m8, d8t, d10]
      exact ⟨fun h => (by cases h), fun _ h => (by cases h), fun _ => ho', fun _ => (hX.m0 d10).kept hg' hng, fun h => (by cases h), fun _ => rfl, fun h => (by cases h)⟩
    · have d3 : vs 3 = .map (some gm) := hR 3 (by simp [hdep])
      have e67 : ac.eval (.tmp 67) = .map (some gm) := (hE 67 (by simp)).trans (by simp [evF, hdep, d3])
      have d5 : vs 5 = .string x.box := hR 5 (by simp [hdep])
      have e69 : ac.eval (.tmp 69) = .string x.box := (hE 69 (by simp)).trans (by simp [evF, hdep, d5])
      have d9 : vs 9 = vs 9 := rfl
      have e73 : ac.eval (.tmp 73) = (vs 9) := (hE 73 (by simp)).trans (by simp [evF, hdep, d9])
      have d9t : done 9 = true := by simp [hdep]
      have ho := hX.c9 d9t
      obtain ⟨A9, c9, hv9⟩ := own_sl ho
      rw [hv9] at e73
      have hm := hX.m0 hnd
      obtain ⟨w10, hup, hm10, hg10, hz10⟩ := hm.put keyStr (P := Try.prog) (mty := 105) Try.underlying105 Try.underlying9 x.box ⟨A9, k + 1 + 1, c9⟩
      refine wp_upd (.tmp 67) (.tmp 69) (.tmp 73) 105 rfl _ _ _ e67 e69 e73 hup ⟨_, rfl, (Fr.refl _ _).grown hg10 (fun k hk => by injection hk with hk; exact .inl (.inl hk.symm)), ?_, trivial⟩
      have n8 : upDn done 10 8 = done 8 := up_ne done (by decide)
      have n9 : upDn done 10 9 = done 9 := up_ne done (by decide)
      have m8 : upVs vs 10 undef 8 = vs 8 := upv_ne vs undef (by decide)
      have m9 : upVs vs 10 undef 9 = vs 9 := upv_ne vs undef (by decide)
      rw [up_same, n8, n9, m8, m9, d9t]
      exact ⟨fun h => (by cases h), fun _ h => (by cases h), fun _ => ho.kept hg10 (.inr (fun e => hm.ne_own ho e)), fun h => (by cases h), fun _ => ⟨_, A9, c9, hv9, hm10⟩, fun _ => hX.o9 d9t, fun _ => rfl⟩
  intro done vs W hall hB hR hX
  have hd9 := hall 9 (by simp)
  have ho := hX.c9 hd9
  obtain ⟨k', A', c', hv', hm'⟩ := hX.m1 (hall 10 (by simp))
  rw [hv'] at ho
  rw [putF_twice] at hm'
  have hl : (hs ++ [x]).length = k + 1 + 1 := by rw [List.length_append, HHN.out]; rfl
  have HCE : Hid (Chn B x.box gc gm (hs ++ [x]) W) := Lib.hid ⟨HKC3.out.fr hB NGC, ⟨k', A', c', by rw [hl]; exact hm', by rw [hl]; exact ho⟩, HGE.out.1, HGE.out.2⟩
  have HBE : Hid (Below B w W) := Lib.hid (hB.bel HB3.out (fun q hq => by rcases hq with h | h | h; exact h ▸ HGE.out.2; exact h ▸ hba.1; exact Nat.le_trans HBS.out h) HBS.out)
  have HFE : Hid (∀ g' t' cs', Blk w g' t' cs' → t' ≠ 63 → Blk W g' t' cs') := Lib.hid (fun g' t' cs' hb ht => by
    have h3 := hb.below HZ3.out hb.lt
    refine h3.fr hB ?_
    rintro (h | h | h)
    · obtain ⟨es, ck, ys, q, _⟩ := HMP3.out
      have q2 := h3
      unfold Blk at q2
      rw [h, q] at q2
      cases q2
    · exact own_blk_ne HOW3.out h3 (fun e => ht e.symm) (by rw [h]; rfl)
    · have := h3.lt; omega)
  clear hd9 ho hv' hm' hl hX hR hB hall
  simp only [fillA, Act.put, List.setIfInBounds_toArray, List.set_cons_zero, List.set_cons_succ, if_true]
  go_wp2_with fail
  go_ret
  exact ⟨rfl, HCE.out, HBE.out, HFE.out⟩
end Go.Proofs.Ytlicmhgpldmliaa.kit
