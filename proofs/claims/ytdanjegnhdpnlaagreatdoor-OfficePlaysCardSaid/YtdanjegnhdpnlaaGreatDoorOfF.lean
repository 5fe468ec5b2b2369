/- An office's papers: numbers as texts, fields made of texts. Condition: the table of powers of ten. -/
import Derived.Test.YtdanjegnhdpnlaaGreatDoorOfM
import Derived.Test.YtdanjegnhdpnlaaGreatDoorShelf
import Derived.Test.YtdanjegnhdpnlaaGreatDoorSoftX
import Derived.Test.YtdanjegnhdpnlaaGreatDoorTail
import Derived.Lib.ItoaMem
import Derived.Lib.AppendIntMem
import Derived.Deep.RegionLaw
import Derived.Deep.RegionHeld3
import Derived.PlainAid
namespace Go.Proofs.YtdanjegnhdpnlaaGreatDoor.kit
open Go.RowKit Go.PlainAid
set_option linter.unusedVariables false

def strC (s : ByteArray) : List Value := [.string s]
def PowTab (w : World) : Prop := Lib.TabIs Tryz.prog w "internal/strconv.uint64pow10" .u64 Lib.pow10Tab
theorem fint_any (n : Int) (h : I64 n) (w : World) (ht : PowTab w) : Calls Tryz.prog 24 #[.int .i64 n, .int .i64 10] w fun e w' => e = .returned (.string (itS n)) ∧ Below w.heap.size w w' :=
  (Tryz.strconv_FormatInt_10 n h.1 h.2 w ht).mono fun e w' h => ⟨h.1, by obtain ⟨k, os, rfl⟩ := h.2; exact Lib.below_grow _ _ (Nat.le_refl _) _ _⟩
theorem digits_any (n : Int) (h : I64 n) (w : World) (ht : PowTab w) : Calls Tryz.prog 89 #[.int .i64 n] w fun e w' => e = .returned (.string (itS n)) ∧ Below w.heap.size w w' := by
  go_enter Tryz.func89, Tryz.ntmps89
  go_wp2_with fail
  refine (fint_any n h _ ht).mono ?_
  rintro e w1 ⟨rfl, hb1⟩
  go_wp2_with fail
  go_ret
  exact ⟨rfl, hb1⟩
def pairF : List ByteArray → List Fd
  | a :: b :: l => (a, b) :: pairF l
  | _ => []
theorem pair_take : ∀ {k : Nat} {xs : List ByteArray} {a b : ByteArray}, xs[2 * k]? = some a → xs[2 * k + 1]? = some b → pairF (xs.take (2 * (k + 1))) = pairF (xs.take (2 * k)) ++ [(a, b)]
  | 0, x :: y :: l, a, b, h1, h2 => by
    simp at h1 h2
    subst h1 h2
    simp [pairF]
  | 0, [], a, b, h1, h2 => by simp at h1
  | 0, [x], a, b, h1, h2 => by simp at h2
  | k + 1, x :: y :: l, a, b, h1, h2 => by
    have e1 : 2 * (k + 1 + 1) = 2 * (k + 1) + 1 + 1 := by omega
    have e2 : 2 * (k + 1) = 2 * k + 1 + 1 := by omega
    rw [e2] at h1 h2
    simp only [List.getElem?_cons_succ] at h1 h2
    have := pair_take h1 h2
    rw [e1, List.take_succ_cons, List.take_succ_cons, pairF, this]
    conv => rhs; rw [e2, List.take_succ_cons, List.take_succ_cons, pairF]
    rfl
  | k + 1, [], a, b, h1, h2 => by simp at h1
  | k + 1, [x], a, b, h1, h2 => by
    rw [show 2 * (k + 1) = 2 * k + 1 + 1 by omega] at h1
    simp at h1
theorem pair_len : ∀ (k : Nat) (xs : List ByteArray), 2 * k ≤ xs.length → (pairF (xs.take (2 * k))).length = k
  | 0, xs, _ => by simp [pairF]
  | k + 1, xs, h => by
    rw [pair_take (List.getElem?_eq_getElem (by omega)) (List.getElem?_eq_getElem (by omega)), List.length_append, pair_len k xs (by omega)]
    rfl
theorem infoFd : (Tryz.prog.info? 123).map (fun i => (i.zero, i.size, i.bytes)) = some (some (.agg #[.string ByteArray.empty, .string ByteArray.empty]), 2, 32) := by kernel_rfl
theorem get_str {w : World} {A : Option Addr} {n : Nat} {xs : List ByteArray} (h : SliceOf w 1 strC A n xs) {k : Nat} (hk : k < n) : ∃ b off x, A = some ⟨b, off, none⟩ ∧ xs[k]? = some x ∧ w.cell? ⟨b, off + k, none⟩ = some (.string x) := by
  have hl := h.len
  obtain ⟨x, hxk⟩ : ∃ x, xs[k]? = some x := ⟨_, List.getElem?_eq_getElem (by omega)⟩
  obtain ⟨b, off, rfl, hb, hc⟩ := h.at_ (by omega)
  exact ⟨b, off, x, rfl, hxk, by simpa using hc k _ hxk 0 _ rfl⟩
theorem cell_kept {W w' : World} {p : Addr} {v : Value} (hb : Below W.heap.size W w') (h : W.cell? p = some v) : w'.cell? p = some v := (hb.cell (World.block_lt_of_cell? W p h)).trans h
theorem own_new {w' : World} {base k n' c' : Nat} {A' : Option Addr} {e : TypeId} {C : Nat} {ys : List Value} (h : w'.ownsRow base e C (.slice A' n' c') k ys) : ∀ x off, A' = some ⟨x, off, none⟩ → base ≤ x := by
  intro x off ea
  rcases h.2 with ⟨hv, _⟩ | ⟨g, cap, cur, hv, hg, _⟩
  · injection hv with h1; rw [h1] at ea; cases ea
  · injection hv with h1; rw [h1] at ea; injection ea with ea; injection ea with e1 e2; omega
theorem own_slice {w : World} {base n : Nat} {e : TypeId} {C : Nat} {v : Value} {ys : List Value} (h : w.ownsRow base e C v n ys) : ∃ A c, v = .slice A n c := by
  rcases h.2 with ⟨hv, h0⟩ | ⟨g, cap, cur, hv, _⟩
  · exact ⟨none, 0, by rw [hv, h0]⟩
  · exact ⟨_, _, hv⟩
theorem get_fd {w : World} {A : Option Addr} {n : Nat} {xs : List Fd} (h : SliceOf w 2 fdC A n xs) {k : Nat} (hk : k < n) : ∃ b off x, A = some ⟨b, off, none⟩ ∧ xs[k]? = some x ∧ w.cell? ⟨b, off + k * 2, none⟩ = some (.string x.1) ∧ w.cell? ⟨b, off + k * 2 + 1, none⟩ = some (.string x.2) := by
  have hl := h.len
  obtain ⟨x, hxk⟩ : ∃ x, xs[k]? = some x := ⟨_, List.getElem?_eq_getElem (by omega)⟩
  obtain ⟨b, off, rfl, hb, hc⟩ := h.at_ (by omega)
  exact ⟨b, off, x, rfl, hxk, by simpa using hc k _ hxk 0 _ rfl, by have := hc k _ hxk 1 _ rfl; rwa [← Nat.add_assoc] at this⟩
theorem mkf (m : Nat) (hm : m ≤ 50) (w : World) : ∃ cs : Array Value, cs.size = m * 2 ∧ (Instr.makeSlice 107 (.int .i64 0) (.int .i64 (m : Int))).run Tryz.prog w = .ok (.slice (some ⟨w.heap.size, 0, none⟩) 0 m) (w.alloc (.cells cs 123)) := by
  obtain ⟨i0, hi, hz0, hz1, hz2⟩ := info_parts infoFd
  have h := run_make (P := Tryz.prog) w 107 123 i0 _ Tryz.underlying107 hi hz0 .i64 .i64 0 (m : Int) (by omega) (by omega) (by rw [hz2]; omega) (by omega)
  simp only [Int.toNat_natCast, Int.toNat_zero] at h
  exact ⟨_, by rw [size_madeCells, hz1], h⟩
set_option maxRecDepth 100000 in
set_option maxHeartbeats 3200000 in
theorem fields_any (A : Option Addr) (n m c : Nat) (xs : List ByteArray) (w : World) (h : SliceOf w 1 strC A n xs) (hn : n = 2 * m) (hm : m ≤ 50) :
    Calls Tryz.prog 88 #[.slice A n c] w fun e w' => ∃ (B : Option Addr) (d : Nat), e = .returned (.slice B m d) ∧ SliceOf w' 2 fdC B m (pairF (xs.take (2 * m))) ∧ (∀ x off, B = some ⟨x, off, none⟩ → w.heap.size ≤ x) ∧ Below w.heap.size w w' := by
  have H := Lib.hid h
  have hl := h.len
  obtain ⟨i0, hi, hz0, hz1, hz2⟩ := info_parts infoFd
  have HN := Lib.hid hn
  clear h hn
  have tq : Int.tdiv (n : Int) 2 = (m : Int) := by rw [Int.tdiv_eq_ediv_of_nonneg (by omega)]; have := HN.out; omega
  have tw : IntKind.i64.wrap (m : Int) = (m : Int) := IntWalk.i64_in _ (by omega)
  obtain ⟨C0, hC0, hmk⟩ := mkf m hm w
  have HO0 : Hid ((w.alloc (.cells C0 123)).ownsRow w.heap.size 123 2 (.slice (some ⟨w.heap.size, 0, none⟩) 0 m) 0 []) := Lib.hid (World.ownsRow_made w C0 m (Nat.le_refl _) (by unfold maxLen; omega) hC0)
  have HB0 := Lib.hid (one_alloc w (.cells C0 123))
  go_enter Tryz.func88, Tryz.ntmps88
  go_wp2_with fail
  go_loopw [3, 4] (fun v i wr => ∃ (k : Nat) (B : Option Addr) (d : Nat), k ≤ m ∧ i = .int .i64 ((2 * k : Nat) : Int) ∧ v = .slice B k d ∧ Hid (wr.ownsRow w.heap.size 123 2 (.slice B k d) k ((pairF (xs.take (2 * k))).flatMap fdC)) ∧ Hid (Below w.heap.size w wr)) (fun _ i _ => n + 1 - (intOf i).toNat)
  case atStart => exact ⟨0, _, m, by omega, rfl, rfl, HO0, HB0⟩
  case round =>
    obtain ⟨k, B, d, hk, rfl, rfl, hown, hbw⟩ := hrel
    by_cases hlt : k < m
    · obtain ⟨b, off, x, rfl, hx, c0w⟩ := get_str H.out (k := 2 * k) (by have := HN.out; omega)
      obtain ⟨b', off', y, hA, hy, c1w⟩ := get_str H.out (k := 2 * k + 1) (by have := HN.out; omega)
      injection hA with hA
      injection hA with e1 e2
      subst e1 e2
      have HT := Lib.hid (pair_take hx hy)
      have c0 := cell_kept hbw.out c0w
      have c1 := cell_kept hbw.out c1w
      have t1 : decide (((2 * k : Nat) : Int) + 1 < (n : Int)) = true := decide_eq_true (by have := HN.out; omega)
      have t2 : (0 : Int) ≤ ((2 * k : Nat) : Int) := by omega
      have t3 : ((2 * k : Nat) : Int) < (n : Int) := by have := HN.out; omega
      have t5 : (0 : Int) ≤ ((2 * k : Nat) : Int) + 1 := by omega
      have hw : IntKind.i64.wrap (((2 * k : Nat) : Int) + 1) = ((2 * k : Nat) : Int) + 1 := IntWalk.i64_in _ (by omega)
      have hw2 : (((2 * k : Nat) : Int) + 1).toNat = 2 * k + 1 := by omega
      have t4 : ((2 * k : Nat) : Int) + 1 < (n : Int) := by have := HN.out; omega
      obtain ⟨K, hK⟩ : ∃ K, 2 * k = K := ⟨_, rfl⟩
      rw [hK] at c0 c1 c0w c1w hown HT t1 t2 t3 t4 t5 hw hw2 ⊢
      clear hx hy
      go_wp2_with fail
      have HSA : Hid (w.heap.size ≤ (wr.alloc (.cells #[.string x, .string y] 123)).heap.size) := Lib.hid (by rw [size_alloc]; have := hbw.out.size; omega)
      have hq0 : 0 < 2 := by omega
      have hq3 : k + 1 ≤ maxLen := by unfold maxLen; omega
      have hq4 : (k + 1) * 32 ≤ 140737488355328 := by omega
      have hq5 : ∀ u ∈ ([.string x, .string y] : List Value), u.oneCell' = true := by simp [Value.oneCell']
      go_region_held3 (fun z => z.cell? ⟨b, off + K, none⟩ = some (.string x) ∧ z.cell? ⟨b, off + (K + 1), none⟩ = some (.string y)) (go_keep) (first | (refine step_append_any _ rfl (.tmp 16) (.tmp 27) 107 rfl w.heap.size 123 i0 _ 2 32 Tryz.underlying107 hi hz0 hz1 hz2 rfl hq0 (.slice B k d) k _ ?_ (hown.out.alloc (.cells #[.string x, .string y] 123)) _ (some ⟨wr.heap.size, 0, none⟩) 1 1 [.string x, .string y] ?_ ((SliceOf.blk (en := fdC) (Blk.new_at wr 123 #[.string x, .string y] _ rfl) [(x, y)] rfl fd_len rfl).reads fd_len) hq5 hq3 hq4 ?_ ?_; rfl; rfl; exact HSA.out; intro v9 w9 hown9 hg9 hloc9; have HB9 : Hid (Below w.heap.size w w9) := Lib.hid ((hbw.out.alloc hbw.out.size _).drew.grown hg9 HSA.out (fun j hj => (hown.out.lt j hj).1)); rw [show (pairF (xs.take K)).flatMap fdC ++ [.string x, .string y] = (pairF (xs.take K) ++ [(x, y)]).flatMap fdC by (rw [List.flatMap_append]; rfl)] at hown9; have HO9 := Lib.hid hown9; have c0z := cell_kept HB9.out c0w; have c1z := cell_kept HB9.out c1w; clear hown9 hg9 hloc9))
      obtain ⟨B9, d9, rfl⟩ := own_slice HO9.out
      clear c0z c1z
      go_wp2_with fail
      go_roundw
      case rel => exact ⟨k + 1, B9, d9, by omega, by rw [← hK]; go_num, rfl, Lib.hid (by rw [HT.out]; exact HO9.out), HB9⟩
      case measure => have := HN.out; simp [intOf]; omega
    · have hkm : m = k := by omega
      subst hkm
      have t1 : decide (((2 * m : Nat) : Int) + 1 < (n : Int)) = false := decide_eq_false (by have := HN.out; omega)
      have hw : IntKind.i64.wrap (((2 * m : Nat) : Int) + 1) = ((2 * m : Nat) : Int) + 1 := IntWalk.i64_in _ (by omega)
      have HL := Lib.hid (pair_len m xs (by have := HN.out; omega))
      obtain ⟨K, hK⟩ : ∃ K, 2 * m = K := ⟨_, rfl⟩
      rw [hK] at hown t1 hw HL ⊢
      have HK := Lib.hid hK
      clear hK
      go_wp2_with fail
      go_ret
      exact ⟨B, d, rfl, SliceOf.of_own_s hown.out fd_len (by rw [HK.out]) (by rw [HK.out]; exact HL.out), own_new hown.out, hbw.out⟩
end Go.Proofs.YtdanjegnhdpnlaaGreatDoor.kit
