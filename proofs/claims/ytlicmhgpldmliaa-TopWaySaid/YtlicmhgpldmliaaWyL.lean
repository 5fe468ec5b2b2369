/- Custody: hand-overs; names of them; a chain anew; how it begins. No condition. -/
import Derived.Test.YtlicmhgpldmliaaWyB
import Derived.Test.YtlicmhgpldmliaaNameC
import Derived.Test.YtlicmhgpldmliaaSoftX
namespace Go.Proofs.Ytlicmhgpldmliaa.kit
open Go.RowKit
set_option linter.unusedVariables false
set_option linter.unusedSimpArgs false
structure Hd where
  box : ByteArray
  fr : ByteArray
  to : ByteArray
  pl : ByteArray
  day : Int
def hdC (x : Hd) : List Value := [.string x.box, .string x.fr, .string x.to, .string x.pl, .int .i64 x.day]
theorem hd_len (x : Hd) : (hdC x).length = 5 := rfl
theorem hd_one (xs : List Hd) : ∀ u ∈ xs.flatMap hdC, u.oneCell' = true := by
  intro u hu
  obtain ⟨x, _, hx⟩ := List.mem_flatMap.1 hu
  simp [hdC] at hx
  rcases hx with rfl | rfl | rfl | rfl | rfl <;> rfl
theorem infoHd : (Try.prog.info? 63).map (fun i => (i.zero, i.size, i.bytes)) = some (some (.agg #[.string ⟨#[]⟩, .string ⟨#[]⟩, .string ⟨#[]⟩, .string ⟨#[]⟩, .int .i64 0]), 5, 72) := by kernel_rfl
def NmOK (s : ByteArray) : Prop := s.size ≤ 60 ∧ nameB s.data.toList = true
structure SlA where
  A : Option Addr
  n : Nat
  c : Nat
abbrev HMap (W : World) (gm n : Nat) (m : ByteArray → Option SlA) : Prop := TMap W gm .string (fun s : ByteArray => .string s) (fun x : SlA => .slice x.A x.n x.c) n m
/-- A chain with one box, or without. -/
structure Chn (B : Nat) (bx : ByteArray) (gc gm : Nat) (hs : List Hd) (W : World) : Prop where
  blk : Blk W gc 107 #[.map (some gm)]
  row : ∃ n A c, HMap W gm n (putF (fun _ => none) bx ⟨A, hs.length, c⟩) ∧ W.ownsRow B 63 5 (.slice A hs.length c) hs.length (hs.flatMap hdC)
  hgc : B ≤ gc
  hgm : B ≤ gm
structure Chn0 (B : Nat) (gc gm : Nat) (W : World) : Prop where
  blk : Blk W gc 107 #[.map (some gm)]
  map : HMap W gm 0 (fun _ => none)
  hgc : B ≤ gc
  hgm : B ≤ gm
theorem Chn.below {B gc gm : Nat} {bx : ByteArray} {hs : List Hd} {W W' : World} (h : Chn B bx gc gm hs W) (hb : Below W.heap.size W W') : Chn B bx gc gm hs W' :=
  ⟨h.blk.below hb h.blk.lt, h.row.elim fun n q => q.elim fun A q => q.elim fun c q => ⟨n, A, c, q.1.below hb q.1.lt, own_kept_below q.2 hb⟩, h.hgc, h.hgm⟩
theorem Chn0.below {B gc gm : Nat} {W W' : World} (h : Chn0 B gc gm W) (hb : Below W.heap.size W W') : Chn0 B gc gm W' := ⟨h.blk.below hb h.blk.lt, h.map.below hb h.map.lt, h.hgc, h.hgm⟩
theorem hmake (w : World) : (Instr.makeMap 105 none).run Try.prog w = .ok (.map (some w.heap.size)) (w.alloc (.map #[] 0)) := by kernel_rfl
theorem cnew_any (w : World) : Calls Try.prog 16 #[] w fun e w' => ∃ gc gm, e = .returned (.pointer (some ⟨gc, 0, none⟩)) ∧ Chn0 w.heap.size gc gm w' ∧ Below w.heap.size w w' := by
  have HP : Hid (Chn0 w.heap.size (w.heap.size + 1) w.heap.size ((w.alloc (.map #[] 0)).alloc (.cells #[.map (some w.heap.size)] 107))) := Lib.hid ⟨blk_second _ _ _ _, (TMap.made w _ _ _).alloc _, by omega, by omega⟩
  have HB := Lib.hid (two_alloc w (.map #[] 0) (.cells #[.map (some w.heap.size)] 107))
  have hmm := hmake w
  go_enter Try.func16, Try.ntmps16
  go_wp2_with fail
  go_ret
  exact ⟨w.heap.size + 1, w.heap.size, rfl, HP.out, HB.out⟩
def stC (s : ByteArray) : List Value := [.string s]
theorem st_at {w : World} {A : Option Addr} {n : Nat} {xs : List ByteArray} (h : SliceOf w 1 stC A n xs) {k : Nat} (hk : k < n) : ∃ b off x, A = some ⟨b, off, none⟩ ∧ xs[k]? = some x ∧ w.cell? ⟨b, off + k, none⟩ = some (.string x) := by
  have hl := h.len
  obtain ⟨x, hxk⟩ : ∃ x, xs[k]? = some x := ⟨_, List.getElem?_eq_getElem (by omega)⟩
  obtain ⟨b, off, rfl, hb, hc⟩ := h.at_ (by omega)
  exact ⟨b, off, x, rfl, hxk, by have := hc k _ hxk 0 _ rfl; simpa using this⟩
set_option maxRecDepth 100000 in
set_option maxHeartbeats 3200000 in
theorem names_any (A : Option Addr) (n c : Nat) (xs : List ByteArray) (w : World) (hx : SliceOf w 1 stC A n xs) (hn : n ≤ 4) (hok : ∀ s ∈ xs, NmOK s) :
    Calls Try.prog 41 #[.slice A n c] w fun e w' => e = .returned (.bool true) ∧ w = w' := by
  have HX := Lib.hid hx
  have HOK := Lib.hid hok
  clear hx hok
  go_enter Try.func41, Try.ntmps41
  go_wp2_with fail
  go_loopw [7] (fun i wr => ∃ k : Nat, k ≤ n ∧ i = .int .i64 k ∧ Hid (w = wr)) (fun i _ => n - (intOf i).toNat)
  case atStart => exact ⟨0, by omega, rfl, Lib.hid rfl⟩
  case round =>
    obtain ⟨k, hk, rfl, hwr⟩ := hrel
    obtain rfl := hwr.out
    clear hwr
    by_cases hlt : k < n
    · obtain ⟨b, off, s, rfl, hxk, hc⟩ := st_at HX.out hlt
      have hkn : (k : Int) < (n : Int) := by omega
      have HS := Lib.hid (HOK.out s (List.mem_of_getElem? hxk))
      clear hxk
      go_wp2_with fail
      refine (iname_any s _ (by have := HS.out.1; unfold maxLen; omega)).mono ?_
      rintro e w1 ⟨rfl, rfl⟩
      rw [HS.out.2]
      go_wp2_with fail
      go_roundw
      case rel => exact ⟨k + 1, by omega, by go_num, Lib.hid (by first | rfl | trivial)⟩
      case measure => simp [intOf]; omega
    · have hkn : n = k := by omega
      subst hkn
      go_wp2_with fail
      go_ret
      exact ⟨rfl, rfl⟩
theorem slice3 (w : World) (a b c : ByteArray) : (Instr.buildSlice 30 3 #[(0, .string a), (1, .string b), (2, .string c)]).run Try.prog w = .ok (.slice (some ⟨w.heap.size, 0, none⟩) 3 3) (w.alloc (.cells #[.string a, .string b, .string c] 9)) := by kernel_rfl
theorem slice4 (w : World) (a b c d : ByteArray) : (Instr.buildSlice 30 4 #[(0, .string a), (1, .string b), (2, .string c), (3, .string d)]).run Try.prog w = .ok (.slice (some ⟨w.heap.size, 0, none⟩) 4 4) (w.alloc (.cells #[.string a, .string b, .string c, .string d] 9)) := by kernel_rfl
theorem hbuild (w : World) (a b c : ByteArray) (d : Int) : (Instr.build 63 #[(0, .string a), (2, .string b), (3, .string c), (4, .int .i64 d)]).run Try.prog w = .ok (.agg #[.string a, .string ⟨#[]⟩, .string b, .string c, .int .i64 d]) w := run_build w _ _ _ (by kernel_rfl)
theorem hslice (w : World) (a b c d : ByteArray) (i : Int) : (Instr.buildSlice 66 1 #[(0, .agg #[.string a, .string b, .string c, .string d, .int .i64 i])]).run Try.prog w = .ok (.slice (some ⟨w.heap.size, 0, none⟩) 1 1) (w.alloc (.cells #[.string a, .string b, .string c, .string d, .int .i64 i] 63)) := by kernel_rfl
theorem hlen {W : World} {gm n : Nat} {m : ByteArray → Option SlA} (h : HMap W gm n m) (ty : TypeId) : (Builtin.len_ #[105] ty #[.map (some gm)]).run Try.prog W = .ok (.int .i64 n) W := by
  obtain ⟨es, ck, ys, h1, h2, h3, h4, _⟩ := h
  have h5 : es.size = n := by
    have := congrArg List.length h3
    simp only [List.length_map, Array.length_toList] at this
    omega
  simp [Builtin.len_, run_underlying Try.underlying105, MapKept.run_getObj_map h1, Result.andThen, goInt, h5]
theorem hnil (w : World) (gm : Nat) : (binOp .eql 105 (.map (some gm)) (.map none)).run Try.prog w = .ok (.bool false) w := by kernel_rfl
theorem zero_hd (u : World) : (zeroValue 66).run Try.prog u = .ok (.slice none 0 0) u := by kernel_rfl
theorem own_blk1 {w : World} {g B : Nat} {x : Hd} (h : Blk w g 63 #[.string x.box, .string x.fr, .string x.to, .string x.pl, .int .i64 x.day]) (hB : B ≤ g) : w.ownsRow B 63 5 (.slice (some ⟨g, 0, none⟩) 1 1) 1 ([x].flatMap hdC) :=
  ⟨rfl, .inr ⟨g, 1, #[.string x.box, .string x.fr, .string x.to, .string x.pl, .int .i64 x.day], rfl, hB, h, Nat.le_refl _, by unfold maxLen; omega, rfl, rfl⟩⟩
set_option maxRecDepth 100000 in
set_option maxHeartbeats 6400000 in
theorem begin_any (B gc gm : Nat) (bx who pl : ByteArray) (day : Int) (w : World) (h0 : Chn0 B gc gm w) (h1 : NmOK bx) (h2 : NmOK who) (h3 : NmOK pl) (h4 : DayOK day) (hB : B ≤ w.heap.size) :
    Calls Try.prog 18 #[(.pointer (some ⟨gc, 0, none⟩)), .string bx, .string who, .string pl, .int .i64 day] w fun e w' => e = .returned (.int .i64 0) ∧ Chn B bx gc gm [⟨bx, ⟨#[]⟩, who, pl, day⟩] w' ∧ Below B w w' := by
  have HC := Lib.hid (h0.below (one_alloc w (.cells #[.string bx, .string who, .string pl] 9)))
  have HB1 := Lib.hid ((one_alloc w (.cells #[.string bx, .string who, .string pl] 9)).mono hB)
  have HN := Lib.hid (names_any (some ⟨w.heap.size, 0, none⟩) 3 3 [bx, who, pl] _ (SliceOf.new w 9 #[.string bx, .string who, .string pl] w.heap.size rfl [bx, who, pl] rfl (fun _ => rfl) rfl) (by omega) (fun s hs => by simp at hs; rcases hs with rfl | rfl | rfl <;> assumption))
  have hd : dayB day = true := by unfold dayB; simp [h4.1, h4.2]
  have hs3 := slice3 w bx who pl
  clear h0 h1 h2 h3 h4
  go_enter Try.func18, Try.ntmps18
  go_wp2_with fail
  refine HN.out.mono ?_
  rintro e w1 ⟨rfl, hw1⟩
  rw [← hw1]
  obtain ⟨w2, hw2⟩ : ∃ W, w.alloc (.cells #[.string bx, .string who, .string pl] 9) = W := ⟨_, rfl⟩
  rw [hw2] at HC HB1 ⊢
  clear hw1 hw2 HN hs3
  go_wp2_with fail
  refine (cday_any day _).mono ?_
  rintro e w1 ⟨rfl, rfl⟩
  rw [hd]
  clear hd
  have c0 := HC.out.blk.cell 0
  simp only [List.getElem?_toArray, List.getElem?_cons_zero] at c0
  have hlk := HC.out.map.look keyStr (P := Try.prog) (mty := 105) Try.underlying105 Try.underlying9 _ zero_hd bx true
  simp only [Option.map_none, Option.getD_none, Option.isSome_none, if_true] at hlk
  have hln := hlen HC.out.map 3
  have hbd := hbuild w2 bx who pl day
  have hnl := hnil w2 gm
  have hsl := hslice w2 bx ⟨#[]⟩ who pl day
  have hkb := Blk.new w2 63 #[.string bx, .string ⟨#[]⟩, .string who, .string pl, .int .i64 day]
  obtain ⟨w3, hup, hm3, hg3, hz3⟩ := (HC.out.map.alloc (.cells #[.string bx, .string ⟨#[]⟩, .string who, .string pl, .int .i64 day] 63)).put keyStr (P := Try.prog) (mty := 105) Try.underlying105 Try.underlying9 bx ⟨some ⟨w2.heap.size, 0, none⟩, 1, 1⟩
  try dsimp only at hup
  have hng : w2.heap.size ≠ gm := by have := HC.out.map.lt; omega
  have hnc : gc ≠ gm := fun e => by obtain ⟨es, ck, ys, q, _⟩ := HC.out.map; have := HC.out.blk; unfold Blk at this; rw [e, q] at this; cases this
  have HPC : Hid (Chn B bx gc gm [⟨bx, ⟨#[]⟩, who, pl, day⟩] w3) := Lib.hid ⟨(HC.out.blk.alloc _).grown hg3 (by simpa using hnc), ⟨_, _, _, hm3, own_blk1 (x := ⟨bx, ⟨#[]⟩, who, pl, day⟩) (hkb.grown hg3 (by simpa using hng)) (Nat.le_trans hB HB1.out.size)⟩, HC.out.hgc, HC.out.hgm⟩
  have HBE : Hid (Below B w w3) := Lib.hid ((HB1.out.alloc (Nat.le_trans hB HB1.out.size) _).grown hg3 (by rw [sz_alloc]; have := HB1.out.size; omega) (fun k hk => by injection hk with hk; subst hk; exact HC.out.hgm))
  clear hkb hm3 hg3 hz3 hng hnc
  go_wp2_with fail
  go_ret
  exact ⟨rfl, HPC.out, HBE.out⟩
end Go.Proofs.Ytlicmhgpldmliaa.kit
