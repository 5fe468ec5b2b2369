/- The document's office: what a party is, its bank, where a deal lies. No condition. -/
import Derived.Test.YtdanjegnhdpnlaaGreatDoorOfO
namespace Go.Proofs.YtdanjegnhdpnlaaGreatDoor.kit
open Go.RowKit Go.PlainAid
set_option linter.unusedVariables false
set_option linter.unusedSimpArgs false
def rBank (nm : ByteArray) : List Pty → ByteArray
  | [] => ⟨#[]⟩
  | p :: l => if p.nm = nm then p.bank else rBank nm l
theorem bank_from {nm : ByteArray} {ps : List Pty} {k : Nat} {p : Pty} (h : ps[k]? = some p) : rBank nm (ps.drop k) = if p.nm = nm then p.bank else rBank nm (ps.drop (k + 1)) := by
  have hk := (List.getElem?_eq_some_iff.1 h).1
  rw [List.drop_eq_getElem_cons hk, (List.getElem?_eq_some_iff.1 h).2]
  rfl
theorem bank_who {nm : ByteArray} : ∀ {ps : List Pty}, (whoV nm ps).1 = 3 → rBank nm ps = (whoV nm ps).2
  | [], h => by simp [whoV] at h
  | p :: l, h => by
    unfold rBank whoV at *
    by_cases e : p.nm = nm
    · rw [if_pos e] at h ⊢
      rw [if_pos e]
      by_cases e2 : p.kind = 3 ∨ p.kind = 4
      · rw [if_pos e2]
      · rw [if_neg e2] at h; simp at h
    · rw [if_neg e] at h ⊢
      rw [if_neg e]
      exact bank_who h
def dealFrom (nm : ByteArray) (kind : Int) (num : ByteArray) : Nat → List Dx → Int
  | _, [] => -1
  | i, x :: l => if x.d.num = num then (if mineB nm kind x.d = true then (i : Int) else -1) else dealFrom nm kind num (i + 1) l
/-- The place of an office's deal. -/
def dealI (nm : ByteArray) (kind : Int) (xs : List Dx) (num : ByteArray) : Int := dealFrom nm kind num 0 xs
theorem deal_from {nm num : ByteArray} {kind : Int} {xs : List Dx} {k : Nat} {x : Dx} (h : xs[k]? = some x) : dealFrom nm kind num k (xs.drop k) = if x.d.num = num then (if mineB nm kind x.d = true then (k : Int) else -1) else dealFrom nm kind num (k + 1) (xs.drop (k + 1)) := by
  have hk := (List.getElem?_eq_some_iff.1 h).1
  rw [List.drop_eq_getElem_cons hk, (List.getElem?_eq_some_iff.1 h).2]
  rfl
theorem deal_spec_from {nm num : ByteArray} {kind : Int} : ∀ (xs : List Dx) (i : Nat), (dealFrom nm kind num i xs = -1 ∧ dealsOf nm kind xs num = none) ∨ ∃ j x, dealFrom nm kind num i xs = ((i + j : Nat) : Int) ∧ xs[j]? = some x ∧ x.d.num = num ∧ mineB nm kind x.d = true ∧ dealsOf nm kind xs num = some x.d
  | [], i => .inl ⟨rfl, rfl⟩
  | x :: l, i => by
    unfold dealFrom
    by_cases e : x.d.num = num
    · rw [if_pos e]
      by_cases m : mineB nm kind x.d = true
      · rw [if_pos m]
        refine .inr ⟨0, x, rfl, rfl, e, m, ?_⟩
        unfold dealsOf
        rw [List.find?_cons_of_pos (by simpa using e)]
        simp [m]
      · rw [if_neg m]
        refine .inl ⟨rfl, ?_⟩
        unfold dealsOf
        rw [List.find?_cons_of_pos (by simpa using e)]
        simp [m]
    · rw [if_neg e]
      have hd : dealsOf nm kind (x :: l) num = dealsOf nm kind l num := by
        unfold dealsOf
        rw [List.find?_cons_of_neg (by simpa using e)]
      rw [hd]
      rcases deal_spec_from l (i + 1) with h | ⟨j, y, h1, h2, h3⟩
      · exact .inl h
      · exact .inr ⟨j + 1, y, by rw [h1]; congr 1; omega, by simpa using h2, h3⟩
theorem deal_spec (nm : ByteArray) (kind : Int) (xs : List Dx) (num : ByteArray) : (dealI nm kind xs num = -1 ∧ dealsOf nm kind xs num = none) ∨ ∃ (j : Nat) (x : Dx), dealI nm kind xs num = (j : Int) ∧ xs[j]? = some x ∧ x.d.num = num ∧ mineB nm kind x.d = true ∧ dealsOf nm kind xs num = some x.d := by
  rcases deal_spec_from (nm := nm) (num := num) (kind := kind) xs 0 with h | ⟨j, y, h1, h2⟩
  · exact .inl h
  · exact .inr ⟨j, y, by rw [dealI, h1]; congr 1; omega, h2⟩
set_option maxRecDepth 100000
set_option maxHeartbeats 6400000
theorem rkind_any (s : Su) (nm : ByteArray) (ps : List Pty) (w : World) (hp : SliceOf w 3 ptyC s.pA s.pn ps) (h1 : s.pn ≤ maxLen) :
    Calls Tryz.prog 13 #[.agg #[.slice s.pA s.pn s.pc, .slice s.dA s.dn s.dc, .slice s.fA s.fn s.fc, .slice s.rA s.rn s.rc, .slice s.hA s.hn s.hc], .string nm] w fun e w' => e = .returned (.int .i64 (whoV nm ps).1) ∧ Below w.heap.size w w' := by
  obtain ⟨pA, pn, pc, dA, dn, dc, fA, fn, fc, rA, rn, rc, hA, hn, hc⟩ := s
  dsimp only at hp h1 ⊢
  have h1 : pn ≤ 9223372036854775807 := h1
  have HB0 := Lib.hid (one_alloc w (.cells #[.slice pA pn pc, .slice dA dn dc, .slice fA fn fc, .slice rA rn rc, .slice hA hn hc] 29))
  have HK0 : Hid (Blk (w.alloc (.cells #[.slice pA pn pc, .slice dA dn dc, .slice fA fn fc, .slice rA rn rc, .slice hA hn hc] 29)) w.heap.size 29 #[.slice pA pn pc, .slice dA dn dc, .slice fA fn fc, .slice rA rn rc, .slice hA hn hc]) := Lib.hid (Blk.new _ _ _)
  have HP := Lib.hid hp
  clear hp
  go_enter Tryz.func13, Tryz.ntmps13
  go_upto_region 1 with (fail)
  generalize Value.agg #[.slice pA pn pc, .slice dA dn dc, .slice fA fn fc, .slice rA rn rc, .slice hA hn hc] = SV
  obtain ⟨w0, hw0⟩ : ∃ W, w.alloc (.cells #[.slice pA pn pc, .slice dA dn dc, .slice fA fn fc, .slice rA rn rc, .slice hA hn hc] 29) = W := ⟨_, rfl⟩
  obtain ⟨gs, hgs⟩ : ∃ g, w.heap.size = g := ⟨_, rfl⟩
  rw [hw0] at HB0 HK0 ⊢
  rw [hgs] at HK0
  simp only [hgs]
  have HGS := Lib.hid hgs
  clear hw0 hgs
  have s0 := HK0.out.cell 0
  simp only [List.getElem?_toArray, List.getElem?_cons_zero, List.getElem?_cons_succ] at s0
  go_wp2_with fail
  go_loop [5] (fun i => ∃ k : Nat, k ≤ pn ∧ i = .int .i64 k ∧ Hid ((whoV nm (ps.drop k)).1 = (whoV nm ps).1)) (fun i => pn - (intOf i).toNat)
  case atStart => exact ⟨0, by omega, rfl, Lib.hid rfl⟩
  case round =>
    obtain ⟨k, hk, rfl, hd⟩ := hrel
    have hlen := HP.out.len
    by_cases hlt : k < pn
    · obtain ⟨b, off, p, hpA, hpk, hc⟩ := el_at (HP.out.below HB0.out) hlt
      subst hpA
      have c0 := hc 0 _ rfl; have c2 := hc 2 _ rfl
      rw [Nat.add_zero] at c0
      have i0 : (k : Int) < (pn : Int) := by omega
      have HW := Lib.hid (who_from (nm := nm) hpk)
      clear hpk hc
      by_cases he : p.nm = nm
      · have q1 : (p.nm.toList == nm.toList) = true := by rw [eq_str]; exact decide_eq_true he
        by_cases h3 : p.kind = 3
        · have q2 : (p.kind == 3) = true := by rw [h3]; rfl
          have HE : Hid (p.kind = (whoV nm ps).1) := Lib.hid (by rw [← hd.out, HW.out, if_pos he, if_pos (.inl h3)])
          clear he h3
          go_wp2_with fail
          go_ret
          exact ⟨by rw [HE.out]; rfl, HB0.out⟩
        · have q2 : (p.kind == 3) = false := by simpa using h3
          by_cases h4 : p.kind = 4
          · have q3 : (p.kind == 4) = true := by rw [h4]; rfl
            have HE : Hid (p.kind = (whoV nm ps).1) := Lib.hid (by rw [← hd.out, HW.out, if_pos he, if_pos (.inr h4)])
            clear he h3 h4
            go_wp2_with fail
            go_ret
            exact ⟨by rw [HE.out]; rfl, HB0.out⟩
          · have q3 : (p.kind == 4) = false := by simpa using h4
            have HE : Hid (-1 = (whoV nm ps).1) := Lib.hid (by rw [← hd.out, HW.out, if_pos he, if_neg (fun h => h.elim h3 h4)])
            clear he h3 h4
            go_wp2_with fail
            go_ret
            exact ⟨by rw [HE.out]; rfl, HB0.out⟩
      · have q1 : (p.nm.toList == nm.toList) = false := by rw [eq_str]; exact decide_eq_false he
        have HE : Hid ((whoV nm (ps.drop (k + 1))).1 = (whoV nm ps).1) := Lib.hid (by rw [← hd.out, HW.out, if_neg he])
        clear he
        go_wp2_with fail
        go_round
        case rel => exact ⟨k + 1, by omega, by go_num, HE⟩
        case measure => simp [intOf]; omega
    · have i0 : ¬ (k : Int) < (pn : Int) := by omega
      have HE : Hid (-1 = (whoV nm ps).1) := Lib.hid (by rw [← hd.out, List.drop_eq_nil_of_le (by omega)]; rfl)
      go_wp2_with fail
      go_ret
      exact ⟨by rw [HE.out]; rfl, HB0.out⟩
theorem rbank_any (s : Su) (nm : ByteArray) (ps : List Pty) (w : World) (hp : SliceOf w 3 ptyC s.pA s.pn ps) (h1 : s.pn ≤ maxLen) :
    Calls Tryz.prog 36 #[.agg #[.slice s.pA s.pn s.pc, .slice s.dA s.dn s.dc, .slice s.fA s.fn s.fc, .slice s.rA s.rn s.rc, .slice s.hA s.hn s.hc], .string nm] w fun e w' => e = .returned (.string (rBank nm ps)) ∧ Below w.heap.size w w' := by
  obtain ⟨pA, pn, pc, dA, dn, dc, fA, fn, fc, rA, rn, rc, hA, hn, hc⟩ := s
  dsimp only at hp h1 ⊢
  have h1 : pn ≤ 9223372036854775807 := h1
  have HB0 := Lib.hid (one_alloc w (.cells #[.slice pA pn pc, .slice dA dn dc, .slice fA fn fc, .slice rA rn rc, .slice hA hn hc] 29))
  have HK0 : Hid (Blk (w.alloc (.cells #[.slice pA pn pc, .slice dA dn dc, .slice fA fn fc, .slice rA rn rc, .slice hA hn hc] 29)) w.heap.size 29 #[.slice pA pn pc, .slice dA dn dc, .slice fA fn fc, .slice rA rn rc, .slice hA hn hc]) := Lib.hid (Blk.new _ _ _)
  have HP := Lib.hid hp
  clear hp
  go_enter Tryz.func36, Tryz.ntmps36
  go_upto_region 1 with (fail)
  generalize Value.agg #[.slice pA pn pc, .slice dA dn dc, .slice fA fn fc, .slice rA rn rc, .slice hA hn hc] = SV
  obtain ⟨w0, hw0⟩ : ∃ W, w.alloc (.cells #[.slice pA pn pc, .slice dA dn dc, .slice fA fn fc, .slice rA rn rc, .slice hA hn hc] 29) = W := ⟨_, rfl⟩
  obtain ⟨gs, hgs⟩ : ∃ g, w.heap.size = g := ⟨_, rfl⟩
  rw [hw0] at HB0 HK0 ⊢
  rw [hgs] at HK0
  simp only [hgs]
  have HGS := Lib.hid hgs
  clear hw0 hgs
  have s0 := HK0.out.cell 0
  simp only [List.getElem?_toArray, List.getElem?_cons_zero, List.getElem?_cons_succ] at s0
  go_wp2_with fail
  go_loop [5] (fun i => ∃ k : Nat, k ≤ pn ∧ i = .int .i64 k ∧ Hid (rBank nm (ps.drop k) = rBank nm ps)) (fun i => pn - (intOf i).toNat)
  case atStart => exact ⟨0, by omega, rfl, Lib.hid rfl⟩
  case round =>
    obtain ⟨k, hk, rfl, hd⟩ := hrel
    have hlen := HP.out.len
    by_cases hlt : k < pn
    · obtain ⟨b, off, p, hpA, hpk, hc⟩ := el_at (HP.out.below HB0.out) hlt
      subst hpA
      have c0 := hc 0 _ rfl; have c1 := hc 1 _ rfl
      rw [Nat.add_zero] at c0
      have i0 : (k : Int) < (pn : Int) := by omega
      have HW := Lib.hid (bank_from (nm := nm) hpk)
      clear hpk hc
      by_cases he : p.nm = nm
      · have q1 : (p.nm.toList == nm.toList) = true := by rw [eq_str]; exact decide_eq_true he
        have HE : Hid (p.bank = rBank nm ps) := Lib.hid (by rw [← hd.out, HW.out, if_pos he])
        clear he
        go_wp2_with fail
        go_ret
        exact ⟨by rw [HE.out]; rfl, HB0.out⟩
      · have q1 : (p.nm.toList == nm.toList) = false := by rw [eq_str]; exact decide_eq_false he
        have HE : Hid (rBank nm (ps.drop (k + 1)) = rBank nm ps) := Lib.hid (by rw [← hd.out, HW.out, if_neg he])
        clear he
        go_wp2_with fail
        go_round
        case rel => exact ⟨k + 1, by omega, by go_num, HE⟩
        case measure => simp [intOf]; omega
    · have i0 : ¬ (k : Int) < (pn : Int) := by omega
      have HE : Hid (⟨#[]⟩ = rBank nm ps) := Lib.hid (by rw [← hd.out, List.drop_eq_nil_of_le (by omega)]; rfl)
      go_wp2_with fail
      go_ret
      exact ⟨by rw [HE.out]; rfl, HB0.out⟩
theorem rdeal_any (s : Su) (nm num : ByteArray) (ps : List Pty) (xs : List Dx) (w : World) (hp : SliceOf w 3 ptyC s.pA s.pn ps) (hd : SliceOf w 17 dxC s.dA s.dn xs) (h1 : s.pn ≤ maxLen) (h2 : s.dn ≤ maxLen) :
    Calls Tryz.prog 8 #[.agg #[.slice s.pA s.pn s.pc, .slice s.dA s.dn s.dc, .slice s.fA s.fn s.fc, .slice s.rA s.rn s.rc, .slice s.hA s.hn s.hc], .string nm, .string num] w fun e w' => e = .returned (.int .i64 (dealI nm (whoV nm ps).1 xs num)) ∧ Below w.heap.size w w' := by
  have HKI := Lib.hid (fun W (hb : Below w.heap.size w W) => rkind_any s nm ps W (hp.below hb) h1)
  obtain ⟨pA, pn, pc, dA, dn, dc, fA, fn, fc, rA, rn, rc, hA, hn, hc⟩ := s
  dsimp only at hp hd h1 h2 HKI ⊢
  have h2 : dn ≤ 9223372036854775807 := h2
  have HB0 := Lib.hid (one_alloc w (.cells #[.slice pA pn pc, .slice dA dn dc, .slice fA fn fc, .slice rA rn rc, .slice hA hn hc] 29))
  have HK0 : Hid (Blk (w.alloc (.cells #[.slice pA pn pc, .slice dA dn dc, .slice fA fn fc, .slice rA rn rc, .slice hA hn hc] 29)) w.heap.size 29 #[.slice pA pn pc, .slice dA dn dc, .slice fA fn fc, .slice rA rn rc, .slice hA hn hc]) := Lib.hid (Blk.new _ _ _)
  have HD := Lib.hid hd
  clear hp hd h1
  go_enter Tryz.func8, Tryz.ntmps8
  go_upto_region 1 with (fail)
  generalize Value.agg #[.slice pA pn pc, .slice dA dn dc, .slice fA fn fc, .slice rA rn rc, .slice hA hn hc] = SV
  obtain ⟨w0, hw0⟩ : ∃ W, w.alloc (.cells #[.slice pA pn pc, .slice dA dn dc, .slice fA fn fc, .slice rA rn rc, .slice hA hn hc] 29) = W := ⟨_, rfl⟩
  obtain ⟨gs, hgs⟩ : ∃ g, w.heap.size = g := ⟨_, rfl⟩
  rw [hw0] at HB0 HK0 ⊢
  rw [hgs] at HK0
  simp only [hgs]
  have HGS := Lib.hid hgs
  clear hw0 hgs
  go_wp2_with ((refine stop_load 29 _ rfl ?_; refine wpList_load_want rfl 29 _ rfl gs rfl 29 _ _ HK0.out Tryz.underlying29 rfl (by kernel_rfl) ?_))
  refine (HKI.out _ HB0.out).mono ?_
  rintro e w1 ⟨rfl, hb1⟩
  have HB1 := Lib.hid (HB0.out.trans (hb1.mono HB0.out.size))
  have HK1 := Lib.hid (HK0.out.below hb1 HK0.out.lt)
  clear hb1 HKI
  obtain ⟨K, hK⟩ : ∃ K, (whoV nm ps).1 = K := ⟨_, rfl⟩
  rw [hK]
  have HKQ := Lib.hid hK
  clear hK HB0 HK0
  go_wp2_with fail
  go_loopw [8] (fun i wr => ∃ k : Nat, k ≤ dn ∧ i = .int .i64 k ∧ Hid (dealFrom nm K num k (xs.drop k) = dealI nm K xs num) ∧ Hid (Below w.heap.size w wr) ∧ Hid (Blk wr gs 29 #[.slice pA pn pc, .slice dA dn dc, .slice fA fn fc, .slice rA rn rc, .slice hA hn hc])) (fun i _ => dn - (intOf i).toNat)
  case atStart => exact ⟨0, by omega, rfl, Lib.hid rfl, HB1, HK1⟩
  case round =>
    obtain ⟨k, hk, rfl, hdl, HB, HK⟩ := hrel
    have hlen := HD.out.len
    have s1 := HK.out.cell 1
    simp only [List.getElem?_toArray, List.getElem?_cons_zero, List.getElem?_cons_succ] at s1
    by_cases hlt : k < dn
    · obtain ⟨b, off, x, hdA, hxk, hc⟩ := el_at (HD.out.below HB.out) hlt
      subst hdA
      have HC := Lib.hid hc
      have HW := Lib.hid (deal_from (nm := nm) (num := num) (kind := K) hxk)
      have i0 : (k : Int) < (dn : Int) := by omega
      have HB4 := Lib.hid (HB.out.alloc HB.out.size (.cells #[.string x.d.num, .string x.d.sel, .string x.d.buy, .string x.d.car, .string x.d.iss, .string x.d.hou, .string x.d.ins, .string x.d.fr, .string x.d.dst, .string x.d.cur, .int .i64 x.d.amt, .slice x.A x.n x.c, .int .i64 x.d.term, .int .i64 x.d.lat, .int .i64 x.d.exp, .int .i64 x.d.ten, .int .i64 x.d.dut] 53))
      have HX : Hid (Blk (wr.alloc (.cells #[.string x.d.num, .string x.d.sel, .string x.d.buy, .string x.d.car, .string x.d.iss, .string x.d.hou, .string x.d.ins, .string x.d.fr, .string x.d.dst, .string x.d.cur, .int .i64 x.d.amt, .slice x.A x.n x.c, .int .i64 x.d.term, .int .i64 x.d.lat, .int .i64 x.d.exp, .int .i64 x.d.ten, .int .i64 x.d.dut] 53)) wr.heap.size 53 #[.string x.d.num, .string x.d.sel, .string x.d.buy, .string x.d.car, .string x.d.iss, .string x.d.hou, .string x.d.ins, .string x.d.fr, .string x.d.dst, .string x.d.cur, .int .i64 x.d.amt, .slice x.A x.n x.c, .int .i64 x.d.term, .int .i64 x.d.lat, .int .i64 x.d.exp, .int .i64 x.d.ten, .int .i64 x.d.dut]) := Lib.hid (Blk.new _ _ _)
      have HK4 := Lib.hid (HK.out.alloc (.cells #[.string x.d.num, .string x.d.sel, .string x.d.buy, .string x.d.car, .string x.d.iss, .string x.d.hou, .string x.d.ins, .string x.d.fr, .string x.d.dst, .string x.d.cur, .int .i64 x.d.amt, .slice x.A x.n x.c, .int .i64 x.d.term, .int .i64 x.d.lat, .int .i64 x.d.exp, .int .i64 x.d.ten, .int .i64 x.d.dut] 53))
      clear hxk hc
      go_upto_region 6 with (first | ((refine stop_store 53 _ _ rfl ?_; refine wpList_store_new rfl 53 _ _ rfl _ rfl rfl (by kernel_rfl) rfl rfl ?_)) | (refine stop_load 53 _ rfl ?_; refine wpList_load_at rfl 53 _ rfl b (off + k * 17) rfl (dlC x.d (.slice x.A x.n x.c)) _ HC.out Tryz.underlying53 rfl (by kernel_rfl) ?_))
      obtain ⟨w4, hw4⟩ : ∃ W, wr.alloc (.cells #[.string x.d.num, .string x.d.sel, .string x.d.buy, .string x.d.car, .string x.d.iss, .string x.d.hou, .string x.d.ins, .string x.d.fr, .string x.d.dst, .string x.d.cur, .int .i64 x.d.amt, .slice x.A x.n x.c, .int .i64 x.d.term, .int .i64 x.d.lat, .int .i64 x.d.exp, .int .i64 x.d.ten, .int .i64 x.d.dut] 53) = W := ⟨_, rfl⟩
      obtain ⟨g, hg⟩ : ∃ g, wr.heap.size = g := ⟨_, rfl⟩
      rw [hw4] at HX HB4 HK4
      change Code.wp _ _ _ _ (wr.alloc (.cells #[.string x.d.num, .string x.d.sel, .string x.d.buy, .string x.d.car, .string x.d.iss, .string x.d.hou, .string x.d.ins, .string x.d.fr, .string x.d.dst, .string x.d.cur, .int .i64 x.d.amt, .slice x.A x.n x.c, .int .i64 x.d.term, .int .i64 x.d.lat, .int .i64 x.d.exp, .int .i64 x.d.ten, .int .i64 x.d.dut] 53))
      rw [hw4]
      rw [hg] at HX
      simp only [hg]
      clear hw4 hg s1
      have d0 := HX.out.cell 0; have d5 := HX.out.cell 5; have d6 := HX.out.cell 6
      simp only [List.getElem?_toArray, List.getElem?_cons_zero, List.getElem?_cons_succ] at d0 d5 d6
      by_cases he : x.d.num = num
      · have q1 : (x.d.num.toList == num.toList) = true := by rw [eq_str]; exact decide_eq_true he
        by_cases m3 : K = 3
        · have q3 : (K == 3) = true := by rw [m3]; rfl
          have q4 : (K == 4) = false := by rw [m3]; rfl
          by_cases mh : x.d.hou = nm
          · have q5 : (x.d.hou.toList == nm.toList) = true := by rw [eq_str]; exact decide_eq_true mh
            have HE : Hid ((k : Int) = dealI nm K xs num) := Lib.hid (by rw [← hdl.out, HW.out, if_pos he, if_pos (by simp [mineB, m3, mh])])
            clear he m3 mh
            go_wp2_with fail
            go_ret
            exact ⟨by rw [HKQ.out, HE.out]; rfl, HB4.out⟩
          · have q5 : (x.d.hou.toList == nm.toList) = false := by rw [eq_str]; exact decide_eq_false mh
            have HE : Hid (-1 = dealI nm K xs num) := Lib.hid (by rw [← hdl.out, HW.out, if_pos he, if_neg (by simp [mineB, m3, mh])])
            clear he m3 mh
            go_wp2_with fail
            go_ret
            exact ⟨by rw [HKQ.out, HE.out]; rfl, HB4.out⟩
        · have q3 : (K == 3) = false := by simpa using m3
          by_cases m4 : K = 4
          · have q4 : (K == 4) = true := by rw [m4]; rfl
            by_cases mi : x.d.ins = nm
            · have q5 : (x.d.ins.toList == nm.toList) = true := by rw [eq_str]; exact decide_eq_true mi
              have HE : Hid ((k : Int) = dealI nm K xs num) := Lib.hid (by rw [← hdl.out, HW.out, if_pos he, if_pos (by simp [mineB, m4, mi])])
              clear he m3 m4 mi
              go_wp2_with fail
              go_ret
              exact ⟨by rw [HKQ.out, HE.out]; rfl, HB4.out⟩
            · have q5 : (x.d.ins.toList == nm.toList) = false := by rw [eq_str]; exact decide_eq_false mi
              have HE : Hid (-1 = dealI nm K xs num) := Lib.hid (by rw [← hdl.out, HW.out, if_pos he, if_neg (by simp [mineB, m4, mi])])
              clear he m3 m4 mi
              go_wp2_with fail
              go_ret
              exact ⟨by rw [HKQ.out, HE.out]; rfl, HB4.out⟩
          · have q4 : (K == 4) = false := by simpa using m4
            have HE : Hid (-1 = dealI nm K xs num) := Lib.hid (by rw [← hdl.out, HW.out, if_pos he, if_neg (by simp [mineB, m3, m4])])
            clear he m3 m4
            go_wp2_with fail
            go_ret
            exact ⟨by rw [HKQ.out, HE.out]; rfl, HB4.out⟩
      · have q1 : (x.d.num.toList == num.toList) = false := by rw [eq_str]; exact decide_eq_false he
        have HE : Hid (dealFrom nm K num (k + 1) (xs.drop (k + 1)) = dealI nm K xs num) := Lib.hid (by rw [← hdl.out, HW.out, if_neg he])
        clear he
        go_wp2_with fail
        go_roundw
        case rel => exact ⟨k + 1, by omega, by go_num, HE, HB4, HK4⟩
        case measure => simp [intOf]; omega
    · have i0 : ¬ (k : Int) < (dn : Int) := by omega
      have HE : Hid (-1 = dealI nm K xs num) := Lib.hid (by rw [← hdl.out, List.drop_eq_nil_of_le (by omega)]; rfl)
      go_wp2_with fail
      go_ret
      exact ⟨by rw [HKQ.out, HE.out]; rfl, HB.out⟩
end Go.Proofs.YtdanjegnhdpnlaaGreatDoor.kit
