/- Cut, by the reference; whatever the stretches; the same stretches. No condition. -/
import Derived.Test.YtfjanoimhkddbaaCut
namespace Go.Proofs.Ytfjanoimhkddbaa
open Go.RowKit Go.Proofs.Ytfjanoimhkddbaa.kit
set_option linter.unusedVariables false

theorem two_made (w : World) : Two w.heap.size ((w.alloc (.cells #[] 47)).alloc (.cells #[] 47)) 47 3 Str.cells (.slice (some ⟨w.heap.size, 0, none⟩) 0 0) (cutA 0 ([] : List Str)) 47 3 Str.cells (.slice (some ⟨w.heap.size + 1, 0, none⟩) 0 0) (cutB 0 ([] : List Str)) := by
  refine ⟨?_, ?_, ?_, ?_⟩
  · exact ⟨by simp [cutA], .inr ⟨w.heap.size, 0, #[], rfl, Nat.le_refl _, ((Blk.new w 47 #[]).alloc _), Nat.le_refl _, Nat.zero_le _, rfl, by simp [cutA]⟩⟩
  · exact ⟨by simp [cutB], .inr ⟨w.heap.size + 1, 0, #[], rfl, by omega, Blk.new_at _ _ _ _ (by simp), Nat.le_refl _, Nat.zero_le _, rfl, by simp [cutB]⟩⟩
  · right; simp [Value.ownBlock]
  · right; simp [Value.ownBlock]

set_option maxRecDepth 100000 in
set_option maxHeartbeats 1600000 in
theorem rcut_pos (at_ : Int) (b off n c : Nat) (xs : List Str) (w : World) (hxl : xs.length = n) (hm : n ≤ 4096) (hb : b < w.heap.size)
    (hc : ∀ i x, xs[i]? = some x → ∀ j v, x.cells[j]? = some v → w.cell? ⟨b, off + (i * 3 + j), none⟩ = some v) :
    Calls Try.prog 19 #[.slice (some ⟨b, off, none⟩) n c, .int .i64 at_] w (CutPost w (cutA at_ xs) (cutB at_ xs)) := by
  obtain ⟨i0, hi, hz0, hz1, hz2⟩ := info_parts infoS
  go_enter Try.func19, Try.ntmps19
  go_wp2_with fail
  go_loopw [6, 7, 8] (fun v1 v2 i wr => ∃ (k : Nat), k ≤ n ∧ i = .int .i64 k ∧ Below w.heap.size w wr ∧ Two w.heap.size wr 47 3 Str.cells v1 (cutA at_ (xs.take k)) 47 3 Str.cells v2 (cutB at_ (xs.take k))) (fun _ _ i _ => n - (intOf i).toNat)
  case atStart => exact ⟨0, Nat.zero_le _, rfl, ((Below.refl _ _).alloc (Nat.le_refl _) _).alloc (by simp) _, two_made w⟩
  case round =>
    obtain ⟨k, hk, rfl, hbel, htwo⟩ := hrel
    by_cases hlt : k < n
    · obtain ⟨f, t, h, hx, hbr, c0, c1, c2⟩ := elem_at hxl hb hc hbel hlt
      obtain ⟨ha, hbb⟩ := cut_take (at_ := at_) hx
      have hkn : (k : Int) < (n : Int) := by omega
      obtain ⟨l1, l2⟩ := cut_len at_ (xs.take k)
      have l3 : (xs.take k).length ≤ k := List.length_take_le _ _
      have HA := Lib.hid ha
      have HB := Lib.hid hbb
      have HT := Lib.hid htwo
      have hbs := hbel.size
      have o1 := htwo.own1
      have o2 := htwo.own2
      have lt1 := htwo.own1.lt
      have lt2 := htwo.own2.lt
      clear hx ha hbb htwo
      generalize cutA at_ (xs.take k) = la at *
      generalize cutB at_ (xs.take k) = lb at *
      by_cases e1 : f < at_
      · by_cases e2 : at_ < t
        · have hpa : pieceA at_ ⟨f, t, h⟩ = [⟨f, at_, h⟩] := by unfold pieceA; rw [if_pos ⟨e1, e2⟩]
          have hpb : pieceB at_ ⟨f, t, h⟩ = [⟨at_, t, h⟩] := by unfold pieceB; rw [if_pos ⟨e1, e2⟩]
          have HPA := Lib.hid hpa
          have HPB := Lib.hid hpb
          have HO1 := Lib.hid o1
          have HO2 := Lib.hid o2
          have HL1 := Lib.hid lt1
          have HL2 := Lib.hid lt2
          clear hpa hpb o1 o2 lt1 lt2
          go_wp2_with (first
            | (at_builtin; refine wpList_append_own_at _ rfl (.tmp 32) (.tmp 39) 24 rfl w.heap.size 47 i0 _ 3 24 Try.underlying24 hi hz0 hz1 hz2 rfl (by omega) u6 la.length _ rfl ((HO1.out.alloc _).alloc _) ⟨wr.heap.size + 1, 0, none⟩ 1 1 [.int .i64 f, .int .i64 at_, .int .i64 h] rfl rfl (news_at _ _ _ _ (by simp)) (by simp [Value.oneCell']) (by unfold maxLen; omega) (by omega) (by simp; omega) ?_; intro v1' w1 hown1 hg1 _ hloc1; have hw1 : Below wr.heap.size wr ((wr.alloc (.cells #[.int .i64 f, .int .i64 t, .int .i64 h] 47)).alloc (.cells #[.int .i64 f, .int .i64 at_, .int .i64 h] 47)) := ((Below.refl _ _).alloc (Nat.le_refl _) _).alloc (by simp) _; have HT1 := Lib.hid (Two.one HT.out hw1 hown1 hg1 hloc1); have HB1 := Lib.hid (below_grown_own ((hbel.alloc hbel.size _).alloc (by simp; omega) _) (by simp; omega) HO1.out hg1); have hx1 := (((Blk.new wr 47 #[.int .i64 f, .int .i64 t, .int .i64 h]).alloc (.cells #[.int .i64 f, .int .i64 at_, .int .i64 h] 47)).grown hg1 (fun e => by have := (HL1.out _ e.symm).2; omega)); have x0 := hx1.cell 0; have x1 := hx1.cell 1; have x2 := hx1.cell 2; simp at x0 x1 x2; have hs1 := hg1.size; simp at hs1; have hlb := HT1.out.own2.1; clear hown1 hg1 hloc1 hw1 hx1)
            | (at_builtin; refine wpList_append_own_at _ rfl (.tmp 41) (.tmp 48) 24 rfl w.heap.size 47 i0 _ 3 24 Try.underlying24 hi hz0 hz1 hz2 rfl (by omega) u7 lb.length _ rfl (HT1.out.own2.alloc _) ⟨w1.heap.size, 0, none⟩ 1 1 [.int .i64 at_, .int .i64 t, .int .i64 h] rfl rfl (news_at _ _ _ _ (by simp)) (by simp [Value.oneCell']) (by unfold maxLen; omega) (by omega) (by simp; omega) ?_; intro v2' w2 hown2 hg2 _ hloc2; have HT2 := Lib.hid (Two.one HT1.out.swap ((Below.refl _ _).alloc (Nat.le_refl _) _) hown2 hg2 hloc2).swap; have HB2 := Lib.hid (below_grown_own (HB1.out.alloc HB1.out.size _) (by have := HB1.out.size; simp; omega) HT1.out.own2 hg2); clear hown2 hg2 hloc2))
          go_roundw
          case rel => exact ⟨k + 1, by omega, by go_num, HB2.out, by rw [HA.out, HB.out, HPA.out, HPB.out]; exact HT2.out⟩
          case measure => simp [intOf]; omega
        · have hpa : pieceA at_ ⟨f, t, h⟩ = [⟨f, t, h⟩] := by unfold pieceA; rw [if_neg (fun h => e2 h.2), if_pos e1]
          have hpb : pieceB at_ ⟨f, t, h⟩ = [] := by unfold pieceB; rw [if_neg (fun h => e2 h.2), if_pos e1]
          have HPA := Lib.hid hpa
          have HPB := Lib.hid hpb
          have HO1 := Lib.hid o1
          have HO2 := Lib.hid o2
          have HL1 := Lib.hid lt1
          have HL2 := Lib.hid lt2
          clear hpa hpb o1 o2 lt1 lt2
          go_wp2_with (at_builtin; refine wpList_append_own_at _ rfl (.tmp 54) (.tmp 56) 24 rfl w.heap.size 47 i0 _ 3 24 Try.underlying24 hi hz0 hz1 hz2 rfl (by omega) u6 la.length _ rfl ((HO1.out.alloc _).alloc _) ⟨wr.heap.size + 1, 0, none⟩ 1 1 [.int .i64 f, .int .i64 t, .int .i64 h] rfl rfl (news_at _ _ _ _ (by simp)) (by simp [Value.oneCell']) (by unfold maxLen; omega) (by omega) (by simp; omega) ?_; intro v1' w1 hown1 hg1 _ hloc1; have HT1 := Lib.hid (Two.one HT.out (((Below.refl _ _).alloc (Nat.le_refl _) _).alloc (by simp) _) hown1 hg1 hloc1); have HB1 := Lib.hid (below_grown_own ((hbel.alloc hbel.size _).alloc (by simp; omega) _) (by simp; omega) HO1.out hg1); clear hown1 hg1 hloc1)
          go_roundw
          case rel => exact ⟨k + 1, by omega, by go_num, HB1.out, by rw [HA.out, HB.out, HPA.out, HPB.out, List.append_nil]; exact HT1.out⟩
          case measure => simp [intOf]; omega
      · have hpa : pieceA at_ ⟨f, t, h⟩ = [] := by unfold pieceA; rw [if_neg (fun h => e1 h.1), if_neg e1]
        have hpb : pieceB at_ ⟨f, t, h⟩ = [⟨f, t, h⟩] := by unfold pieceB; rw [if_neg (fun h => e1 h.1), if_neg e1]
        have HPA := Lib.hid hpa
        have HPB := Lib.hid hpb
        have HO1 := Lib.hid o1
        have HO2 := Lib.hid o2
        have HL1 := Lib.hid lt1
        have HL2 := Lib.hid lt2
        clear hpa hpb o1 o2 lt1 lt2
        go_wp2_with (at_builtin; refine wpList_append_own_at _ rfl (.tmp 58) (.tmp 60) 24 rfl w.heap.size 47 i0 _ 3 24 Try.underlying24 hi hz0 hz1 hz2 rfl (by omega) u7 lb.length _ rfl ((HO2.out.alloc _).alloc _) ⟨wr.heap.size + 1, 0, none⟩ 1 1 [.int .i64 f, .int .i64 t, .int .i64 h] rfl rfl (news_at _ _ _ _ (by simp)) (by simp [Value.oneCell']) (by unfold maxLen; omega) (by omega) (by simp; omega) ?_; intro v2' w1 hown1 hg1 _ hloc1; have HT1 := Lib.hid (Two.one HT.out.swap (((Below.refl _ _).alloc (Nat.le_refl _) _).alloc (by simp) _) hown1 hg1 hloc1).swap; have HB1 := Lib.hid (below_grown_own ((hbel.alloc hbel.size _).alloc (by simp; omega) _) (by simp; omega) HO2.out hg1); clear hown1 hg1 hloc1)
        go_roundw
        case rel => exact ⟨k + 1, by omega, by go_num, HB1.out, by rw [HA.out, HB.out, HPA.out, HPB.out, List.append_nil]; exact HT1.out⟩
        case measure => simp [intOf]; omega
    · go_wp2_with fail
      go_ret2
      have hkn : k = n := by omega
      have e : xs.take k = xs := List.take_of_length_le (by omega)
      rw [e] at htwo
      exact cutPost_mk htwo hbel

theorem cutPost_nil {w w' : World} {v1 v2 : Value} (h : Two w.heap.size w' 47 3 Str.cells v1 [] 47 3 Str.cells v2 []) (hb : Below w.heap.size w w') : CutPost w [] [] (.returned (.tuple #[v1, v2])) w' := cutPost_mk h hb
set_option maxHeartbeats 400000 in
theorem cut_any (at_ : Int) (A : Option Addr) (n c : Nat) (xs : List Str) (w : World) (hx : SliceOf w 3 Str.cells A n xs) (hm : n ≤ 4096) :
    Calls Try.prog 18 #[.slice A n c, .int .i64 at_] w (CutPost w (cutA at_ xs) (cutB at_ xs)) := by
  rcases hx.cells with rfl | ⟨b, off, rfl, hb, hc⟩
  · obtain rfl : xs = [] := List.eq_nil_of_length_eq_zero hx.len
    go_enter Try.func18, Try.ntmps18
    go_wp2_with fail
    go_loop [6, 7, 12] (fun s t i => i = .int .i64 0 ∧ s = .slice none 0 0 ∧ t = .slice none 0 0) (fun _ _ i => 0)
    case atStart => exact ⟨rfl, rfl, rfl⟩
    case round =>
      obtain ⟨rfl, rfl, rfl⟩ := hrel
      go_wp2_with fail
      go_ret2
      exact cutPost_nil ⟨World.ownsRow_nil _ _ _ _, World.ownsRow_nil _ _ _ _, .inl rfl, .inl rfl⟩ (Below.refl _ _)
  · exact cut_pos at_ b off n c xs w hx.len hm hb hc
set_option maxHeartbeats 400000 in
theorem rcut_any (at_ : Int) (A : Option Addr) (n c : Nat) (xs : List Str) (w : World) (hx : SliceOf w 3 Str.cells A n xs) (hm : n ≤ 4096) :
    Calls Try.prog 19 #[.slice A n c, .int .i64 at_] w (CutPost w (cutA at_ xs) (cutB at_ xs)) := by
  rcases hx.cells with rfl | ⟨b, off, rfl, hb, hc⟩
  · obtain rfl : xs = [] := List.eq_nil_of_length_eq_zero hx.len
    go_enter Try.func19, Try.ntmps19
    go_wp2_with fail
    go_loop [6, 7, 8] (fun s t i => i = .int .i64 0 ∧ s = .slice (some ⟨w.heap.size, 0, none⟩) 0 0 ∧ t = .slice (some ⟨w.heap.size + 1, 0, none⟩) 0 0) (fun _ _ i => 0)
    case atStart => exact ⟨rfl, rfl, rfl⟩
    case round =>
      obtain ⟨rfl, rfl, rfl⟩ := hrel
      go_wp2_with fail
      go_ret2
      exact cutPost_nil (two_made w) (((Below.refl _ _).alloc (Nat.le_refl _) _).alloc (by simp) _)
  · exact rcut_pos at_ b off n c xs w hx.len hm hb hc

set_option maxHeartbeats 1000000 in
theorem same_pos (b off b' off' n c c' : Nat) (xs : List Str) (w : World) (hxl : xs.length = n) (hm : n ≤ 4096) (hb : b < w.heap.size) (hb' : b' < w.heap.size)
    (hc : ∀ i x, xs[i]? = some x → ∀ j v, x.cells[j]? = some v → w.cell? ⟨b, off + (i * 3 + j), none⟩ = some v)
    (hc' : ∀ i x, xs[i]? = some x → ∀ j v, x.cells[j]? = some v → w.cell? ⟨b', off' + (i * 3 + j), none⟩ = some v) :
    Calls Try.prog 20 #[.slice (some ⟨b, off, none⟩) n c, .slice (some ⟨b', off', none⟩) n c'] w fun e w' => e = .returned (.bool true) ∧ Below w.heap.size w w' := by
  go_enter Try.func20, Try.ntmps20
  go_wp2_with fail
  go_loopw [5] (fun i wr => ∃ k : Nat, k ≤ n ∧ i = .int .i64 k ∧ Below w.heap.size w wr) (fun i _ => n - (intOf i).toNat)
  case atStart => exact ⟨0, Nat.zero_le _, rfl, Below.refl _ _⟩
  case round =>
    obtain ⟨k, hk, rfl, hbel⟩ := hrel
    by_cases hlt : k < n
    · obtain ⟨f, t, h, hx, hbr, c0, c1, c2⟩ := elem_at hxl hb hc hbel hlt
      obtain ⟨f', t', h', hx', hbr', c0', c1', c2'⟩ := elem_at hxl hb' hc' hbel hlt
      rw [hx] at hx'
      cases hx'
      have hkn : (k : Int) < (n : Int) := by omega
      have hk0 : (0 : Int) ≤ (k : Int) := by omega
      clear hx
      go_wp2_with fail
      go_quiet (fail)
      go_wp2_with fail
      go_roundw
      case rel => exact ⟨k + 1, by omega, by go_num, below_drewN hbel _⟩
      case measure => simp [intOf]; omega
    · go_wp2_with fail
      go_ret
      exact ⟨rfl, hbel⟩
theorem same_any (A A' : Option Addr) (n c c' : Nat) (xs : List Str) (w : World) (hx : SliceOf w 3 Str.cells A n xs) (hx' : SliceOf w 3 Str.cells A' n xs) (hm : n ≤ 4096) :
    Calls Try.prog 20 #[.slice A n c, .slice A' n c'] w fun e w' => e = .returned (.bool true) ∧ Below w.heap.size w w' := by
  rcases hx.cells with rfl | ⟨b, off, rfl, hb, hc⟩
  · go_enter Try.func20, Try.ntmps20
    go_wp2_with fail
    go_loop [5] (fun i => i = .int .i64 0) (fun i => 0)
    case atStart => rfl
    case round =>
      obtain rfl := hrel
      go_wp2_with fail
      go_ret
      exact ⟨rfl, Below.refl _ _⟩
  · rcases hx'.cells with rfl | ⟨b', off', rfl, hb', hc'⟩
    · go_enter Try.func20, Try.ntmps20
      go_wp2_with fail
      go_loop [5] (fun i => i = .int .i64 0) (fun i => 0)
      case atStart => rfl
      case round =>
        obtain rfl := hrel
        go_wp2_with fail
        go_ret
        exact ⟨rfl, Below.refl _ _⟩
    · exact same_pos b off b' off' n c c' xs w hx.len hm hb hb' hc hc'
end Go.Proofs.Ytfjanoimhkddbaa
