/- How many days are worked on up to a day; between two days. No condition. -/
import Derived.Test.YtlicmhgpldmliaaDoorCalE
import Derived.Test.YtlicmhgpldmliaaDoorCalG
namespace Go.Proofs.YtlicmhgpldmliaaDoor.cal
open Go.RowKit Go.Proofs.YtlicmhgpldmliaaDoor.kit
set_option linter.unusedVariables false

--%
set_option maxRecDepth 100000 in
set_option maxHeartbeats 1600000 in
theorem upTo_any (c : Cal) (f : Int → Bool) (A : Option Addr) (n cp : Nat) (xs : List Int) (w0 : World) (hp : Plan w0 c f A n xs) (day : Int) (hd : 0 ≤ day ∧ day ≤ 1048577) (w : World) (hb0 : Below w0.heap.size w0 w) :
    Calls Tryd.prog 20 #[.agg #[.bool (f 0), .bool (f 1), .bool (f 2), .bool (f 3), .bool (f 4), .bool (f 5), .bool (f 6), .slice A n cp], .int .i64 day] w fun e w' => e = .returned (.int .i64 (cntF c 0 day.toNat)) ∧ Below w.heap.size w w' := by
  have HP := Lib.hid hp
  have hxl := hp.sl.len
  have hle := hp.le
  obtain ⟨d0, d1⟩ := hd
  have hT : upToF f xs day = cntF c 0 day.toNat := by
    have := upTo_cnt hp.up hp.pos hp.is day.toNat
    rwa [show ((day.toNat : Nat) : Int) = day by omega] at this
  have wb := wk_bd f day ⟨d0, d1⟩
  have hb := hs_bd f day xs
  obtain ⟨T, hTT⟩ : ∃ T, cntF c 0 day.toNat = T := ⟨_, rfl⟩
  rw [hTT] at hT ⊢
  have HT := Lib.hid hT
  have WB := Lib.hid wb
  have HBD := Lib.hid (fun k => hs_bd f day (xs.drop k))
  have hB0 : Below w.heap.size w (w.alloc (.cells #[.bool (f 0), .bool (f 1), .bool (f 2), .bool (f 3), .bool (f 4), .bool (f 5), .bool (f 6), .slice A n cp] 53)) := (Below.refl _ _).alloc (Nat.le_refl _) _
  have hk0 : Blk (w.alloc (.cells #[.bool (f 0), .bool (f 1), .bool (f 2), .bool (f 3), .bool (f 4), .bool (f 5), .bool (f 6), .slice A n cp] 53)) w.heap.size 53 #[.bool (f 0), .bool (f 1), .bool (f 2), .bool (f 3), .bool (f 4), .bool (f 5), .bool (f 6), .slice A n cp] := Blk.new _ _ _
  have HX : Hid (SliceOf w 1 intC A n xs) := Lib.hid (hp.sl.below hb0)
  have p7 := hk0.cell 7
  simp only [List.getElem?_toArray, List.getElem?_cons_zero, List.getElem?_cons_succ] at p7
  clear hT hTT wb hb hp hb0
  go_enter Tryd.func20, Tryd.ntmps20
  go_wp2_with fail
  go_loop [5, 9] (fun v i => ∃ (k : Nat), k ≤ 7 ∧ i = .int .i64 k ∧ v = .int .i64 (wkF f day k)) (fun _ i => 7 - (intOf i).toNat)
  case atStart => exact ⟨0, by omega, rfl, rfl⟩
  case round =>
    obtain ⟨k, hk, rfl, rfl⟩ := hrel
    obtain ⟨wk0, wk1⟩ := WB.out k hk
    obtain ⟨W, hW⟩ : ∃ W, wkF f day k = W := ⟨_, rfl⟩
    rw [hW] at wk0 wk1
    by_cases hlt : k < 7
    · have cx := plan_cell hk0 (k : Int) (by omega) (by omega)
      rw [Int.toNat_natCast] at cx
      have HW : Hid (wkF f day (k + 1) = W + (if f k then 0 else (day + 6 - k) / 7)) := Lib.hid (by rw [wkF, hW])
      obtain ⟨fl, hfl⟩ : ∃ fl, f (k : Int) = fl := ⟨_, rfl⟩
      rw [hfl] at cx
      have HF := Lib.hid hfl
      rw [hW]
      have k7 : (k : Int) < 7 := by omega
      have k0 : (0 : Int) ≤ (k : Int) := by omega
      clear hfl hW
      cases fl
      · go_wp2_with fail
        go_round
        case rel => exact ⟨k + 1, by omega, by go_num, by rw [HW.out, HF.out]; rfl⟩
        case measure => simp [intOf]; omega
      · go_wp2_with fail
        go_round
        case rel => exact ⟨k + 1, by omega, by go_num, by rw [HW.out, HF.out]; simp⟩
        case measure => simp [intOf]; omega
    · obtain rfl : k = 7 := by omega
      have hU : Hid (W - hsF f day (xs.drop 0) = T) := Lib.hid (by have := HT.out; unfold upToF at this; rw [hW] at this; exact this)
      rw [hW]
      clear hW
      go_wp2_with fail
      go_loop [5, 28] (fun v i => ∃ (k : Nat) (N : Int), k ≤ n ∧ i = .int .i64 k ∧ v = .int .i64 N ∧ -(k : Int) ≤ N ∧ N ≤ 2000000 ∧ Hid (N - hsF f day (xs.drop k) = T)) (fun _ i => n - (intOf i).toNat)
      case atStart => exact ⟨0, W, by omega, rfl, rfl, by omega, by omega, hU⟩
      case round =>
        obtain ⟨k, N, hk, rfl, rfl, n0, n1, hd⟩ := hrel
        clear hU
        by_cases hkn : k < n
        · obtain ⟨x, hxk⟩ : ∃ x, xs[k]? = some x := ⟨_, List.getElem?_eq_getElem (by omega)⟩
          obtain ⟨b, off, rfl, hb, hc⟩ := HX.out.at_ (by omega)
          have c0 : (w.alloc (.cells #[.bool (f 0), .bool (f 1), .bool (f 2), .bool (f 3), .bool (f 4), .bool (f 5), .bool (f 6), .slice (some ⟨b, off, none⟩) n cp] 53)).cell? ⟨b, off + k, none⟩ = some (.int .i64 x) := (hB0.cell hb).trans (by simpa using hc _ _ hxk 0 _ rfl)
          have hx0 := HP.out.pos x (List.mem_of_getElem? hxk)
          have HS := Lib.hid (hs_step (f := f) (day := day) hxk)
          have HK := Lib.hid hxk
          clear hc hxk
          by_cases hge : day ≤ x
          · have e0 : Hid (N = T) := Lib.hid (by
              have hz : hsF f day (xs.drop k) = 0 := hs_none f day _ (fun y hy => by
                obtain ⟨t, ht⟩ := List.getElem?_of_mem hy
                rw [List.getElem?_drop] at ht
                rcases Nat.eq_zero_or_pos t with rfl | h0
                · rw [Nat.add_zero, HK.out] at ht
                  cases ht
                  exact hge
                · obtain ⟨h1, e1⟩ := List.getElem?_eq_some_iff.1 HK.out
                  obtain ⟨h2, e2⟩ := List.getElem?_eq_some_iff.1 ht
                  have := List.pairwise_iff_getElem.1 HP.out.up k (k + t) h1 h2 (by omega)
                  omega)
              have := hd.out
              omega)
            go_wp2_with fail
            go_ret
            exact ⟨ret_int e0.out, hB0⟩
          · have m0 : 0 ≤ x % 7 := by omega
            have m1 : x % 7 ≤ 6 := by omega
            have m2 : x % 7 < 7 := by omega
            have cx := plan_cell hk0 (x % 7) m0 m1
            obtain ⟨fl, hfl⟩ : ∃ fl, f (x % 7) = fl := ⟨_, rfl⟩
            rw [hfl] at cx
            have e0 : Hid (N - ((if fl then 0 else 1) + hsF f day (xs.drop (k + 1))) = T) := Lib.hid (by have := hd.out; rw [HS.out, if_pos (by omega), hfl] at this; exact this)
            clear hfl
            cases fl
            · go_wp2_with fail
              go_round
              case rel => exact ⟨k + 1, N - 1, by omega, by go_num, rfl, by omega, by omega, Lib.hid (by have := e0.out; simp at this; omega)⟩
              case measure => simp [intOf]; omega
            · go_wp2_with fail
              go_round
              case rel => exact ⟨k + 1, N, by omega, by go_num, rfl, by omega, by omega, Lib.hid (by have := e0.out; simp at this; omega)⟩
              case measure => simp [intOf]; omega
        · have e0 : Hid (N = T) := Lib.hid (by have := hd.out; rw [List.drop_eq_nil_of_le (by omega)] at this; simp [hsF] at this; omega)
          go_wp2_with fail
          go_ret
          exact ⟨ret_int e0.out, hB0⟩
end Go.Proofs.YtlicmhgpldmliaaDoor.cal
