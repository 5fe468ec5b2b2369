/- A bill passed on, by the program. No condition. -/
import Derived.Test.YtlaclkiedjhphaaGreatDoorDfO
import Derived.Test.YtlaclkiedjhphaaGreatDoorMore
import Derived.StillTailTactics
namespace Go.Proofs.YtlaclkiedjhphaaGreatDoor.kit
open Go.RowKit Go.PlainAid Go.Maps
set_option linter.unusedVariables false


theorem code_pass (b : Bl) (s t : ByteArray) (on : Int) (h : nmB t = true) (h' : t ≠ s) : codeV b 1 s t on = stepV b s on (canV b 1) (whoV b 1 s) := by
  unfold codeV
  rw [h, decide_eq_false h', if_neg (by simp)]
set_option maxRecDepth 100000 in
set_option maxHeartbeats 3200000 in
theorem pass_any (g mb : Nat) (b : Bl) (s t : ByteArray) (on : Int) (w : World) (hb : IsBill w g mb b) (hs : s.size ≤ maxLen) (ht : t.size ≤ maxLen) (hlen : b.pas.length < 1000) :
    Calls Tryz.prog 16 #[(.pointer (some ⟨g, 0, none⟩)), .string s, .string t, .int .i64 on] w fun e w' => e = .returned (.int .i64 (codeV b 1 s t on)) ∧ IsBill w' g mb (nextV b 1 s t on) ∧ Turn g mb w w' := by
  have h3 : Blk ((w.alloc (.cells #[(.pointer (some ⟨g, 0, none⟩))] 39)).alloc (.cells #[.string s] 9)) w.heap.size 39 #[(.pointer (some ⟨g, 0, none⟩))] := (Blk.new _ _ _).alloc _
  have h4 : Blk ((w.alloc (.cells #[(.pointer (some ⟨g, 0, none⟩))] 39)).alloc (.cells #[.string s] 9)) (w.heap.size + 1) 9 #[.string s] := Blk.new_at _ _ _ _ (by simp)
  have hB : Below w.heap.size w ((w.alloc (.cells #[(.pointer (some ⟨g, 0, none⟩))] 39)).alloc (.cells #[.string s] 9)) := ((Below.refl _ _).alloc (Nat.le_refl _) _).alloc (by simp) _
  have hI : IsBill ((w.alloc (.cells #[(.pointer (some ⟨g, 0, none⟩))] 39)).alloc (.cells #[.string s] 9)) g mb b := hb.below hB
  have H3 := Lib.hid h3
  have H4 := Lib.hid h4
  have HBW := Lib.hid hB
  have HI := Lib.hid hI
  have hgw : g < w.heap.size := hb.blk.lt
  have hgm : mb < w.heap.size := hb.map.lt
  have HT0 := Lib.hid (Turn.of_below (g := g) (mb := mb) hB (by omega))
  have q1 := eq_str t s
  cases e0 : nmB t
  · have E : Hid (1 = codeV b 1 s t on) := Lib.hid (by unfold codeV; rw [e0]; simp)
    have hn : Hid (nextV b 1 s t on = b) := Lib.hid (by unfold nextV; rw [← E.out, if_neg (by omega)])
    clear h3 h4 hB hI hb
    go_enter Tryz.func16, Tryz.ntmps16
    go_wp2_with (go_at_call 23; (with_reducible refine (nm_any _ _ (by assumption)).mono ?_); rintro e w' ⟨rfl, rfl⟩)
    go_ret
    exact ⟨ret_int E.out, by rw [hn.out]; exact HI.out, HT0.out⟩
  by_cases e1 : t = s
  · have d1 : (t.toList == s.toList) = true := by rw [q1]; exact decide_eq_true e1
    have E : Hid (1 = codeV b 1 s t on) := Lib.hid (by unfold codeV; rw [decide_eq_true e1]; simp)
    have hn : Hid (nextV b 1 s t on = b) := Lib.hid (by unfold nextV; rw [← E.out, if_neg (by omega)])
    clear h3 h4 hB hI hb q1 e1
    go_enter Tryz.func16, Tryz.ntmps16
    go_wp2_with (go_at_call 23; (with_reducible refine (nm_any _ _ (by assumption)).mono ?_); rintro e w' ⟨rfl, rfl⟩)
    go_ret
    exact ⟨ret_int E.out, by rw [hn.out]; exact HI.out, HT0.out⟩
  have d1 : (t.toList == s.toList) = false := by rw [q1]; exact decide_eq_false e1
  have HS := Lib.hid (step_any g mb b s on 38 39 #[(.pointer (some ⟨g, 0, none⟩))] #[] #[] #[(.pointer (some ⟨w.heap.size + 1, 0, none⟩)), (.pointer (some ⟨w.heap.size, 0, none⟩))] (canV b 1) (whoV b 1 s) ((w.alloc (.cells #[(.pointer (some ⟨g, 0, none⟩))] 39)).alloc (.cells #[.string s] 9)) hI hs (enters_fn Tryz.func38 (by kernel_rfl) rfl) (enters_fn Tryz.func39 (by kernel_rfl) rfl)
    (fun W hbW => open_any g mb b W (HI.out.below hbW)) (fun W hbW => hol1_any _ _ g mb b s W (H4.out.below hbW H4.out.lt) (H3.out.below hbW H3.out.lt) (HI.out.below hbW)))
  rw [← code_pass b s t on e0 e1] at HS
  have HN : Hid (nextV b 1 s t on = if codeV b 1 s t on = 0 then { b with pas := b.pas ++ [s], hol := t, last := on } else b) := Lib.hid rfl
  obtain ⟨C, hC⟩ : ∃ C, codeV b 1 s t on = C := ⟨_, rfl⟩
  rw [hC] at HS HN ⊢
  clear hC h3 h4 hB hI hb q1 e1
  have hnil := fun w r => run_eql_map_nil (P := Tryz.prog) w 60 _ _ r Tryz.underlying60
  by_cases hc : C = 0
  rotate_left
  · have d0 : (C != 0) = true := by simpa using hc
    have hn : Hid (nextV b 1 s t on = b) := Lib.hid (by rw [HN.out, if_neg hc])
    clear hc
    go_enter Tryz.func16, Tryz.ntmps16
    go_wp2_with (first | (go_at_call 23; (with_reducible refine (nm_any _ _ (by assumption)).mono ?_); rintro e w' ⟨rfl, rfl⟩) | fail)
    refine HS.out.mono ?_
    rintro e w1 ⟨rfl, hb1⟩
    have HI1 := Lib.hid (HI.out.below hb1)
    have HT1 := Lib.hid (HT0.out.trans (Turn.of_below hb1 (by simp; omega)))
    clear hb1
    go_wp2_with fail
    go_ret
    exact ⟨rfl, by rw [hn.out]; exact HI1.out, HT1.out⟩
  · subst hc
    have hn : Hid (nextV b 1 s t on = { b with pas := b.pas ++ [s], hol := t, last := on }) := Lib.hid (by rw [HN.out, if_pos rfl])
    go_enter Tryz.func16, Tryz.ntmps16
    go_wp2_with (first | (go_at_call 23; (with_reducible refine (nm_any _ _ (by assumption)).mono ?_); rintro e w' ⟨rfl, rfl⟩) | fail)
    refine HS.out.mono ?_
    rintro e w1 ⟨rfl, hb1⟩
    have HI1 := Lib.hid (HI.out.below hb1)
    have HT1 := Lib.hid (HT0.out.trans (Turn.of_below hb1 (by simp; omega)))
    have K3 := Lib.hid (H3.out.below hb1 H3.out.lt)
    have K4 := Lib.hid (H4.out.below hb1 H4.out.lt)
    have k3 : w1.cell? ⟨w.heap.size, 0, none⟩ = some ((.pointer (some ⟨g, 0, none⟩))) := K3.out.cell 0
    have k4 : w1.cell? ⟨w.heap.size + 1, 0, none⟩ = some (.string s) := K4.out.cell 0
    have z12 : w1.cell? ⟨g, 12, none⟩ = some (.map (some mb)) := HI1.out.blk.cell 12
    clear hb1
    go_wp2_with fail
    go_still_tail 5, (by kernel_rfl)
    change wpList _ _ _ _ _ w1.drew
    refine wpList_mapUpdate_own w1.drew rfl _ _ _ 60 rfl 9 4 lawS Tryz.underlying60 (plainElem (H := Unit) Tryz.prog 4) mb b.pas.length (passD b.pas) rfl HI1.out.drew.map (by unfold maxLen; omega) _ _ _ rfl rfl (keyOfS hs) _ [] (plainElem_bool Tryz.underlying4 true) ?_
    intro w3 hown hgrow
    rw [← passD_snoc] at hown
    have hne := HI1.out.ne
    have hblk : Blk w3 g 62 #[.string b.d.num, .string b.d.drw, .string b.d.dre, .string b.d.pay, .string b.d.cur, .int .i64 b.d.amt, .int .i64 b.d.kind, .int .i64 b.d.days, .int .i64 b.d.fr, .int .i64 b.st, .bool b.acc, .string b.hol, .map (some mb), .int .i64 b.last] := HI1.out.drew.blk.grown hgrow (by intro e; injection e with e; exact hne e.symm)
    have HO3 : Hid (∀ hh : b.pas.length + 1 ≤ 1000, IsBill ((w3.setCell ⟨g, 11, none⟩ (.string t)).setCell ⟨g, 13, none⟩ (.int .i64 on)) g mb { b with pas := b.pas ++ [s], hol := t, last := on }) := Lib.hid (fun hh => ⟨(hblk.set_ 11 (.string t)).set_ 13 (.int .i64 on), by rw [List.length_append]; exact (hown.setCell (a := ⟨g, 11, none⟩) hne _).setCell (a := ⟨g, 13, none⟩) hne _, HI1.out.dok, ht, (fun x hx => by
      rcases List.mem_append.1 hx with h | h
      · exact HI1.out.pas x h
      · rw [List.mem_singleton.1 h]; exact hs), by rw [List.length_append]; exact hh⟩)
    have HT3 := Lib.hid (HT1.out.drew.map hgrow HI1.out.drew.map.lt)
    have k3' : w3.cell? ⟨w.heap.size, 0, none⟩ = some ((.pointer (some ⟨g, 0, none⟩))) := (K3.out.drew.grown hgrow (by intro e; injection e with e; omega)).cell 0
    have z11 : w3.cell? ⟨g, 11, none⟩ = some (.string b.hol) := hblk.cell 11
    have z13 : w3.cell? ⟨g, 13, none⟩ = some (.int .i64 b.last) := hblk.cell 13
    have y11 := hblk.frozen 11
    have y13 := hblk.frozen 13
    clear hown hgrow hblk k3 k4 z12 hne
    go_wp2_with fail
    go_region
    all_goals
      go_wp2
      go_ret
      exact ⟨rfl, by rw [hn.out]; exact (HO3.out (by omega)).drew, ((HT3.out.set_ 11 _).set_ 13 _).drew⟩
end Go.Proofs.YtlaclkiedjhphaaGreatDoor.kit
