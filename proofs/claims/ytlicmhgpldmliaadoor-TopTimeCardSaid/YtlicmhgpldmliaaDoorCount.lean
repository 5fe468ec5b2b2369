/- Whether a fault that was told is one that there is, by the program and by the reference. No condition. -/
import Derived.Test.YtlicmhgpldmliaaDoorFMap
namespace Go.Proofs.YtlicmhgpldmliaaDoor
open Go.RowKit Go.Proofs.YtlicmhgpldmliaaDoor.kit Go.Proofs.YtlicmhgpldmliaaDoor.cal
set_option linter.unusedVariables false

def countsV (fs ts : List Fa) : Bool := ts.any (hasF fs)
theorem counts_hit {fs ts : List Fa} {k : Nat} {x : Fa} (hx : ts[k]? = some x) (h : hasF fs x = true) : countsV fs ts = true := by
  unfold countsV
  rw [List.any_eq_true]
  exact ⟨x, List.mem_of_getElem? hx, h⟩
theorem counts_no {fs ts : List Fa} (h : ∀ (k : Nat) (x : Fa), ts[k]? = some x → hasF fs x = false) : countsV fs ts = false := by
  unfold countsV
  rw [List.any_eq_false]
  intro x hx
  obtain ⟨k, hk⟩ := List.getElem?_of_mem hx
  rw [h k x hk]
  simp
theorem hasF_take {fs : List Fa} {k : Nat} {x y : Fa} (hx : fs[k]? = some x) : hasF (fs.take (k + 1)) y = (decide (x = y) || hasF (fs.take k) y) := by
  rw [List.take_add_one, hx]
  unfold hasF
  rw [List.any_append]
  simp [Bool.or_comm]

set_option maxHeartbeats 1600000 in
theorem counts_any (A : Option Addr) (n c : Nat) (fs : List Fa) (A' : Option Addr) (n' c' : Nat) (ts : List Fa) (w : World) (hx : SliceOf w 4 faC A n fs) (hx' : SliceOf w 4 faC A' n' ts) (hi : ∀ y ∈ fs, faI y) (hi' : ∀ y ∈ ts, faI y) (hm : n ≤ 4096) (hm' : n' ≤ 4096) :
    Calls Tryd.prog 21 #[.slice A n c, .slice A' n' c'] w fun e w' => e = .returned (.bool (countsV fs ts)) ∧ Below w.heap.size w w' := by
  have HX := Lib.hid hx
  have HX' := Lib.hid hx'
  have HI := Lib.hid hi
  have HI' := Lib.hid hi'
  have hxl := hx.len
  have hxl' := hx'.len
  have hmm := make_hint
  have hB0 : Below w.heap.size w (w.alloc (.map #[] 0)) := (Below.refl _ _).alloc (Nat.le_refl _) _
  have hm0 : FMap (w.alloc (.map #[] 0)) w.heap.size 0 [] := FMap.made w
  clear hx hx' hi hi'
  go_enter Tryd.func21, Tryd.ntmps21
  go_wp2_with fail
  go_loopw [15] (fun i wr => ∃ (k : Nat) (seen : List Fa), k ≤ n ∧ i = .int .i64 k ∧ Below w.heap.size w wr ∧ FMap wr w.heap.size k seen ∧ Hid (∀ x, hasF seen x = hasF (fs.take k) x)) (fun i _ => n - (intOf i).toNat)
  case atStart => exact ⟨0, [], by omega, rfl, hB0, hm0, Lib.hid (fun _ => rfl)⟩
  case round =>
    obtain ⟨k, seen, hk, rfl, hbel, hmap, hseen⟩ := hrel
    clear hB0 hm0
    by_cases hlt : k < n
    · obtain ⟨x, hxk⟩ : ∃ x, fs[k]? = some x := ⟨_, List.getElem?_eq_getElem (by omega)⟩
      obtain ⟨b, off, rfl, hb_c, hc⟩ := HX.out.at_ (by omega)
      have c0_c : wr.cell? ⟨b, off + k * 4, none⟩ = some (.int .i64 x.1) := (hbel.cell hb_c).trans (hc k _ hxk 0 _ rfl)
      have c1_c : wr.cell? ⟨b, off + k * 4 + 1, none⟩ = some (.int .i64 x.2.1) := (hbel.cell hb_c).trans (hc k _ hxk 1 _ rfl)
      have c2_c : wr.cell? ⟨b, off + k * 4 + 2, none⟩ = some (.string x.2.2.1) := (hbel.cell hb_c).trans (hc k _ hxk 2 _ rfl)
      have c3_c : wr.cell? ⟨b, off + k * 4 + 3, none⟩ = some (.int .i64 x.2.2.2) := (hbel.cell hb_c).trans (hc k _ hxk 3 _ rfl)
      have hix := HI.out x (List.mem_of_getElem? hxk)
      have HT := Lib.hid (fun y => hasF_take (y := y) hxk)
      have hBl := hbel.alloc hbel.size (.cells #[.int .i64 x.1, .int .i64 x.2.1, .string x.2.2.1, .int .i64 x.2.2.2] 35)
      have hnl : Blk (wr.alloc (.cells #[.int .i64 x.1, .int .i64 x.2.1, .string x.2.2.1, .int .i64 x.2.2.2] 35)) wr.heap.size 35 #[.int .i64 x.1, .int .i64 x.2.1, .string x.2.2.1, .int .i64 x.2.2.2] := Blk.new _ _ _
      have hpl := hmap.alloc (.cells #[.int .i64 x.1, .int .i64 x.2.1, .string x.2.2.1, .int .i64 x.2.2.2] 35)
      obtain ⟨w3, hput, hp3, hg3⟩ := hpl.put (by unfold maxLen; omega) x hix
      simp only [faV] at hput
      have hB3 : Below w.heap.size w w3 := hBl.grown hg3 hBl.size (fun j h => by cases h; omega)
      clear hxk hc
      go_wp2_with fail
      go_roundw
      case rel => exact ⟨k + 1, x :: seen, by omega, by go_num, hB3, hp3, Lib.hid (fun y => by rw [HT.out, hasF_cons, hseen.out])⟩
      case measure => simp [intOf]; omega
    · obtain rfl : k = n := by omega
      have hfull : Hid (∀ x, hasF seen x = hasF fs x) := Lib.hid (fun x => by rw [hseen.out, List.take_of_length_le (by omega)])
      clear hseen
      go_wp2_with fail
      have hB1 := hbel
      have hm1 := hmap
      clear hbel hmap
      rename World => wq
      go_loopw [24] (fun i wr => ∃ (j : Nat), j ≤ n' ∧ i = .int .i64 j ∧ Below w.heap.size w wr ∧ FMap wr w.heap.size k seen ∧ Hid (∀ (t : Nat) (x : Fa), t < j → ts[t]? = some x → hasF fs x = false)) (fun i _ => n' - (intOf i).toNat)
      case atStart => exact ⟨0, by omega, rfl, hB1, hm1, Lib.hid (fun t x h => absurd h (by omega))⟩
      case round =>
        obtain ⟨j, hj, rfl, hbel, hmap, hno⟩ := hrel
        clear hB1 hm1
        by_cases hjl : j < n'
        · obtain ⟨x, hxk⟩ : ∃ x, ts[j]? = some x := ⟨_, List.getElem?_eq_getElem (by omega)⟩
          obtain ⟨b, off, rfl, hb_c, hc⟩ := HX'.out.at_ (by omega)
          have c0_c : wr.cell? ⟨b, off + j * 4, none⟩ = some (.int .i64 x.1) := (hbel.cell hb_c).trans (hc j _ hxk 0 _ rfl)
          have c1_c : wr.cell? ⟨b, off + j * 4 + 1, none⟩ = some (.int .i64 x.2.1) := (hbel.cell hb_c).trans (hc j _ hxk 1 _ rfl)
          have c2_c : wr.cell? ⟨b, off + j * 4 + 2, none⟩ = some (.string x.2.2.1) := (hbel.cell hb_c).trans (hc j _ hxk 2 _ rfl)
          have c3_c : wr.cell? ⟨b, off + j * 4 + 3, none⟩ = some (.int .i64 x.2.2.2) := (hbel.cell hb_c).trans (hc j _ hxk 3 _ rfl)
          have hix := HI'.out x (List.mem_of_getElem? hxk)
          have HK := Lib.hid hxk
          have hBl := hbel.alloc hbel.size (.cells #[.int .i64 x.1, .int .i64 x.2.1, .string x.2.2.1, .int .i64 x.2.2.2] 35)
          have hpl := hmap.alloc (.cells #[.int .i64 x.1, .int .i64 x.2.1, .string x.2.2.1, .int .i64 x.2.2.2] 35)
          have hl := hpl.look x hix
          simp only [faV] at hl
          rw [hfull.out] at hl
          clear hxk hc
          cases hh : hasF fs x
          · rw [hh] at hl
            have HH := Lib.hid hh
            clear hh
            go_wp2_with fail
            go_roundw
            case rel => exact ⟨j + 1, by omega, by go_num, hBl, hpl, Lib.hid (fun t y ht hy => by
              rcases Nat.lt_or_ge t j with h | h
              · exact hno.out t y h hy
              · obtain rfl : t = j := by omega
                rw [HK.out] at hy
                cases hy
                exact HH.out)⟩
            case measure => simp [intOf]; omega
          · rw [hh] at hl
            have e0 : Hid (countsV fs ts = true) := Lib.hid (counts_hit HK.out hh)
            clear hh
            go_wp2_with fail
            go_ret
            exact ⟨ret_bool e0.out.symm, hBl⟩
        · have e0 : Hid (countsV fs ts = false) := Lib.hid (counts_no (fun t x ht => hno.out t x (by have := (List.getElem?_eq_some_iff.1 ht).1; omega) ht))
          go_wp2_with fail
          go_ret
          exact ⟨ret_bool e0.out.symm, hbel⟩
end Go.Proofs.YtlicmhgpldmliaaDoor
