/- Cut, by the program. No condition. -/
import Derived.Test.YtlicmhgpldmliaaPlain2
import Derived.Test.YtlicmhgpldmliaaOwn
namespace Go.Proofs.Ytlicmhgpldmliaa
open Go.RowKit Go.Proofs.Ytlicmhgpldmliaa.kit
set_option linter.unusedVariables false

def pieceA (at_ : Int) (x : Str) : List Str := if x.fr < at_ ∧ at_ < x.to then [⟨x.fr, at_, x.ha⟩] else if x.fr < at_ then [x] else []
def pieceB (at_ : Int) (x : Str) : List Str := if x.fr < at_ ∧ at_ < x.to then [⟨at_, x.to, x.ha⟩] else if x.fr < at_ then [] else [x]
def cutA (at_ : Int) (xs : List Str) : List Str := xs.flatMap (pieceA at_)
def cutB (at_ : Int) (xs : List Str) : List Str := xs.flatMap (pieceB at_)
theorem cut_take {at_ : Int} {xs : List Str} {k : Nat} {x : Str} (hx : xs[k]? = some x) : cutA at_ (xs.take (k + 1)) = cutA at_ (xs.take k) ++ pieceA at_ x ∧ cutB at_ (xs.take (k + 1)) = cutB at_ (xs.take k) ++ pieceB at_ x := by
  have e : xs.take (k + 1) = xs.take k ++ [x] := by
    obtain ⟨hk, rfl⟩ := List.getElem?_eq_some_iff.1 hx
    exact List.take_succ_eq_append_getElem hk
  unfold cutA cutB
  rw [e]
  simp
theorem cut_len (at_ : Int) : ∀ (xs : List Str), (cutA at_ xs).length ≤ xs.length ∧ (cutB at_ xs).length ≤ xs.length
  | [] => by simp [cutA, cutB]
  | x :: r => by
    have h := cut_len at_ r
    unfold cutA cutB at h ⊢
    simp only [List.flatMap_cons, List.length_append, List.length_cons]
    have ha : (pieceA at_ x).length ≤ 1 := by unfold pieceA; split <;> (try split) <;> simp
    have hb : (pieceB at_ x).length ≤ 1 := by unfold pieceB; split <;> (try split) <;> simp
    omega
theorem cells_len (x : Str) : x.cells.length = 3 := rfl
theorem infoS : (Try.prog.info? 76).map (fun i => (i.zero, i.size, i.bytes)) = some (some (.agg #[.int .i64 0, .int .i64 0, .int .i64 0]), 3, 24) := by kernel_rfl

/-- What Cut leaves. -/
def CutPost (w : World) (la lb : List Str) (e : Ending) (w' : World) : Prop :=
  ∃ A a B b, e = .returned (.tuple #[.slice A la.length a, .slice B lb.length b]) ∧ SliceOf w' 3 Str.cells A la.length la ∧ SliceOf w' 3 Str.cells B lb.length lb ∧ Below w.heap.size w w'
theorem cutPost_mk {w w' : World} {v1 v2 : Value} {la lb : List Str} (h : Two w.heap.size w' 76 3 Str.cells v1 la 76 3 Str.cells v2 lb) (hb : Below w.heap.size w w') : CutPost w la lb (.returned (.tuple #[v1, v2])) w' := by
  obtain ⟨A, a, rfl, _, h1⟩ := SliceOf.of_own h.own1 cells_len
  obtain ⟨B, b, rfl, _, h2⟩ := SliceOf.of_own h.own2 cells_len
  exact ⟨A, a, B, b, rfl, h1, h2, hb⟩

/-- One element more, as the law on append leaves it. -/
theorem Two.one {B : Nat} {wr W w1 : World} {v1 v2 v' : Value} {la lb : List Str} {f t h : Int} (htwo : Two B wr 76 3 Str.cells v1 la 76 3 Str.cells v2 lb) (hb : Below wr.heap.size wr W)
    (hown : w1.ownsRow B 76 3 v' (la.length + 1) (la.flatMap Str.cells ++ [.int .i64 f, .int .i64 t, .int .i64 h])) (hg : W.grownBy w1 v1.ownBlock)
    (hloc : v'.ownBlock = v1.ownBlock ∨ v'.ownBlock = some W.heap.size) : Two B w1 76 3 Str.cells v' (la ++ [⟨f, t, h⟩]) 76 3 Str.cells v2 lb :=
  Two.push (x := Str.mk f t h) htwo hb hown hg hloc

set_option maxRecDepth 100000 in
set_option maxHeartbeats 1600000 in
theorem cut_pos (at_ : Int) (b off n c : Nat) (xs : List Str) (w : World) (hxl : xs.length = n) (hm : n ≤ 4096) (hb : b < w.heap.size)
    (hc : ∀ i x, xs[i]? = some x → ∀ j v, x.cells[j]? = some v → w.cell? ⟨b, off + (i * 3 + j), none⟩ = some v) :
    Calls Try.prog 26 #[.slice (some ⟨b, off, none⟩) n c, .int .i64 at_] w (CutPost w (cutA at_ xs) (cutB at_ xs)) := by
  obtain ⟨i0, hi, hz0, hz1, hz2⟩ := info_parts infoS
  go_enter Try.func26, Try.ntmps26
  go_wp2_with fail
  go_loopw [6, 7, 12] (fun v1 v2 i wr => ∃ (k : Nat), k ≤ n ∧ i = .int .i64 k ∧ Below w.heap.size w wr ∧ Two w.heap.size wr 76 3 Str.cells v1 (cutA at_ (xs.take k)) 76 3 Str.cells v2 (cutB at_ (xs.take k))) (fun _ _ i _ => n - (intOf i).toNat)
  case atStart => exact ⟨0, Nat.zero_le _, rfl, Below.refl _ _, ⟨by simpa [cutA] using World.ownsRow_nil _ _ _ _, by simpa [cutB] using World.ownsRow_nil _ _ _ _, .inl rfl, .inl rfl⟩⟩
  case round =>
    obtain ⟨k, hk, rfl, hbel, htwo⟩ := hrel
    by_cases hlt : k < n
    · obtain ⟨f, t, h, hx, hbr, c0, c1, c2⟩ := elem_at hxl hb hc hbel hlt
      obtain ⟨ha, hbb⟩ := cut_take (at_ := at_) hx
      have hkn : (k : Int) < (n : Int) := by omega
      obtain ⟨l1, l2⟩ := cut_len at_ (xs.take k)
      have l3 : (xs.take k).length ≤ k := List.length_take_le _ _
      have HA := Lib.hid ha
      have HB := Lib.hid hbb
      have HT := Lib.hid htwo
      have hbs := hbel.size
      have o1 := htwo.own1
      have o2 := htwo.own2
      have lt1 := htwo.own1.lt
      have lt2 := htwo.own2.lt
      clear hx ha hbb htwo
      generalize cutA at_ (xs.take k) = la at *
      generalize cutB at_ (xs.take k) = lb at *
      by_cases e1 : f < at_
      · by_cases e2 : at_ < t
        · have hpa : pieceA at_ ⟨f, t, h⟩ = [⟨f, at_, h⟩] := by unfold pieceA; rw [if_pos ⟨e1, e2⟩]
          have hpb : pieceB at_ ⟨f, t, h⟩ = [⟨at_, t, h⟩] := by unfold pieceB; rw [if_pos ⟨e1, e2⟩]
          have HPA := Lib.hid hpa
          have HPB := Lib.hid hpb
          have HO1 := Lib.hid o1
          have HO2 := Lib.hid o2
          have HL1 := Lib.hid lt1
          have HL2 := Lib.hid lt2
          clear hpa hpb o1 o2 lt1 lt2
          go_wp2_with (first
            | (at_builtin; refine wpList_append_own_at _ rfl (.tmp 31) (.tmp 38) 74 rfl w.heap.size 76 i0 _ 3 24 Try.underlying74 hi hz0 hz1 hz2 rfl (by omega) u6 la.length _ rfl ((HO1.out.alloc _).alloc _) ⟨wr.heap.size + 1, 0, none⟩ 1 1 [.int .i64 f, .int .i64 at_, .int .i64 h] rfl rfl (news_at _ _ _ _ (by simp)) (by simp [Value.oneCell']) (by unfold maxLen; omega) (by omega) (by simp; omega) ?_; intro v1' w1 hown1 hg1 _ hloc1; have hw1 : Below wr.heap.size wr ((wr.alloc (.cells #[.int .i64 f, .int .i64 t, .int .i64 h] 76)).alloc (.cells #[.int .i64 f, .int .i64 at_, .int .i64 h] 76)) := ((Below.refl _ _).alloc (Nat.le_refl _) _).alloc (by simp) _; have HT1 := Lib.hid (Two.one HT.out hw1 hown1 hg1 hloc1); have HB1 := Lib.hid (below_grown_own ((hbel.alloc hbel.size _).alloc (by simp; omega) _) (by simp; omega) HO1.out hg1); have hx1 := (((Blk.new wr 76 #[.int .i64 f, .int .i64 t, .int .i64 h]).alloc (.cells #[.int .i64 f, .int .i64 at_, .int .i64 h] 76)).grown hg1 (fun e => by have := (HL1.out _ e.symm).2; omega)); have x0 := hx1.cell 0; have x1 := hx1.cell 1; have x2 := hx1.cell 2; simp at x0 x1 x2; have hs1 := hg1.size; simp at hs1; have hlb := HT1.out.own2.1; clear hown1 hg1 hloc1 hw1 hx1)
            | (at_builtin; refine wpList_append_own_at _ rfl (.tmp 40) (.tmp 47) 74 rfl w.heap.size 76 i0 _ 3 24 Try.underlying74 hi hz0 hz1 hz2 rfl (by omega) u7 lb.length _ rfl (HT1.out.own2.alloc _) ⟨w1.heap.size, 0, none⟩ 1 1 [.int .i64 at_, .int .i64 t, .int .i64 h] rfl rfl (news_at _ _ _ _ (by simp)) (by simp [Value.oneCell']) (by unfold maxLen; omega) (by omega) (by simp; omega) ?_; intro v2' w2 hown2 hg2 _ hloc2; have HT2 := Lib.hid (Two.one HT1.out.swap ((Below.refl _ _).alloc (Nat.le_refl _) _) hown2 hg2 hloc2).swap; have HB2 := Lib.hid (below_grown_own (HB1.out.alloc HB1.out.size _) (by have := HB1.out.size; simp; omega) HT1.out.own2 hg2); clear hown2 hg2 hloc2))
          go_roundw
          case rel => exact ⟨k + 1, by omega, by go_num, HB2.out, by rw [HA.out, HB.out, HPA.out, HPB.out]; exact HT2.out⟩
          case measure => simp [intOf]; omega
        · have hpa : pieceA at_ ⟨f, t, h⟩ = [⟨f, t, h⟩] := by unfold pieceA; rw [if_neg (fun h => e2 h.2), if_pos e1]
          have hpb : pieceB at_ ⟨f, t, h⟩ = [] := by unfold pieceB; rw [if_neg (fun h => e2 h.2), if_pos e1]
          have HPA := Lib.hid hpa
          have HPB := Lib.hid hpb
          have HO1 := Lib.hid o1
          have HO2 := Lib.hid o2
          have HL1 := Lib.hid lt1
          have HL2 := Lib.hid lt2
          clear hpa hpb o1 o2 lt1 lt2
          go_wp2_with (at_builtin; refine wpList_append_own_at _ rfl (.tmp 54) (.tmp 56) 74 rfl w.heap.size 76 i0 _ 3 24 Try.underlying74 hi hz0 hz1 hz2 rfl (by omega) u6 la.length _ rfl ((HO1.out.alloc _).alloc _) ⟨wr.heap.size + 1, 0, none⟩ 1 1 [.int .i64 f, .int .i64 t, .int .i64 h] rfl rfl (news_at _ _ _ _ (by simp)) (by simp [Value.oneCell']) (by unfold maxLen; omega) (by omega) (by simp; omega) ?_; intro v1' w1 hown1 hg1 _ hloc1; have HT1 := Lib.hid (Two.one HT.out (((Below.refl _ _).alloc (Nat.le_refl _) _).alloc (by simp) _) hown1 hg1 hloc1); have HB1 := Lib.hid (below_grown_own ((hbel.alloc hbel.size _).alloc (by simp; omega) _) (by simp; omega) HO1.out hg1); clear hown1 hg1 hloc1)
          go_roundw
          case rel => exact ⟨k + 1, by omega, by go_num, HB1.out, by rw [HA.out, HB.out, HPA.out, HPB.out, List.append_nil]; exact HT1.out⟩
          case measure => simp [intOf]; omega
      · have hpa : pieceA at_ ⟨f, t, h⟩ = [] := by unfold pieceA; rw [if_neg (fun h => e1 h.1), if_neg e1]
        have hpb : pieceB at_ ⟨f, t, h⟩ = [⟨f, t, h⟩] := by unfold pieceB; rw [if_neg (fun h => e1 h.1), if_neg e1]
        have HPA := Lib.hid hpa
        have HPB := Lib.hid hpb
        have HO1 := Lib.hid o1
        have HO2 := Lib.hid o2
        have HL1 := Lib.hid lt1
        have HL2 := Lib.hid lt2
        clear hpa hpb o1 o2 lt1 lt2
        go_wp2_with (at_builtin; refine wpList_append_own_at _ rfl (.tmp 16) (.tmp 18) 74 rfl w.heap.size 76 i0 _ 3 24 Try.underlying74 hi hz0 hz1 hz2 rfl (by omega) u7 lb.length _ rfl ((HO2.out.alloc _).alloc _) ⟨wr.heap.size + 1, 0, none⟩ 1 1 [.int .i64 f, .int .i64 t, .int .i64 h] rfl rfl (news_at _ _ _ _ (by simp)) (by simp [Value.oneCell']) (by unfold maxLen; omega) (by omega) (by simp; omega) ?_; intro v2' w1 hown1 hg1 _ hloc1; have HT1 := Lib.hid (Two.one HT.out.swap (((Below.refl _ _).alloc (Nat.le_refl _) _).alloc (by simp) _) hown1 hg1 hloc1).swap; have HB1 := Lib.hid (below_grown_own ((hbel.alloc hbel.size _).alloc (by simp; omega) _) (by simp; omega) HO2.out hg1); clear hown1 hg1 hloc1)
        go_roundw
        case rel => exact ⟨k + 1, by omega, by go_num, HB1.out, by rw [HA.out, HB.out, HPA.out, HPB.out, List.append_nil]; exact HT1.out⟩
        case measure => simp [intOf]; omega
    · go_wp2_with fail
      go_ret2
      have hkn : k = n := by omega
      have e : xs.take k = xs := List.take_of_length_le (by omega)
      rw [e] at htwo
      exact cutPost_mk htwo hbel
end Go.Proofs.Ytlicmhgpldmliaa
