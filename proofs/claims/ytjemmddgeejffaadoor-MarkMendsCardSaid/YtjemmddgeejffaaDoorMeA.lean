/- mark.Mend: what one place and one sign bring; all of it, sorted. No condition. -/
import Derived.Test.YtjemmddgeejffaaDoorMe
import Derived.Test.YtjemmddgeejffaaDoorOwn
import Derived.Test.YtjemmddgeejffaaDoorMore
import Derived.Test.YtjemmddgeejffaaDoorShelf
import Derived.Laws.BytesArg
import Derived.Lib.ConvBytes
import Derived.Sort.OwnSorted
import Derived.WalkLawsBesides
namespace Go.Proofs.YtjemmddgeejffaaDoor.kit
open Go.RowKit Go.PlainAid
set_option linter.unusedVariables false

theorem infoStr : (Tryd.prog.info? 9).map (fun i => (i.zero, i.size, i.bytes)) = some (some (.string ByteArray.empty), 1, 16) := by kernel_rfl
theorem size_alloc (w : World) (o : Obj) : (w.alloc o).heap.size = w.heap.size + 1 := Array.size_push _
theorem cell_kept {W w' : World} {p : Addr} {v : Value} (hb : Below W.heap.size W w') (h : W.cell? p = some v) : w'.cell? p = some v := (hb.cell (World.block_lt_of_cell? W p h)).trans h
theorem flat_snoc (l : List ByteArray) (x : ByteArray) : l.flatMap strC ++ [.string x] = (l ++ [x]).flatMap strC := by
  rw [List.flatMap_append]
  rfl
/-- A text as a row of bytes. -/
def toB (W : World) (s : ByteArray) : World := Lib.bytesWorld W 5 s
theorem toB_below (W : World) (s : ByteArray) : Below W.heap.size W (toB W s) := ⟨rfl, rfl, rfl, by unfold toB; rw [Lib.bytesWorld_size]; omega, fun k hk => Lib.bytesWorld_at_old W _ s k hk⟩
theorem toB_cell (W : World) (s : ByteArray) (i : Nat) (hi : i < s.size) : (toB W s).cell? ⟨W.heap.size, i, none⟩ = some (.int .u8 (bt s i)) := by
  unfold toB
  rw [Lib.bytesWorld_cell W _ s i hi, bt_list]
theorem toB_frozen (W : World) (s : ByteArray) (i : Nat) (hi : i < s.size) : (toB W s).frozen? ⟨W.heap.size, i, none⟩ = false := by
  unfold toB World.frozen?
  rw [Lib.bytesWorld_at_new]
  have : s.size ≤ (Lib.bytesCells W 5 s).size := by unfold Lib.bytesCells; simp
  simp
  omega
theorem conv_to (W : World) (s : ByteArray) : (convert 9 29 (.string s)).run Tryd.prog W = .ok (.slice (some ⟨W.heap.size, 0, none⟩) s.size (grownCap W s.size 0 5)) (toB W s) :=
  Lib.run_convert_string_bytes W _ _ _ s Tryd.underlying9 Tryd.underlying29 Tryd.underlying5
theorem conv_back (W : World) (g cap : Nat) (s : ByteArray) (p : Nat) (c : Int) (hz : s.size = 12) (hp : p ≤ 11) (hc : 0 ≤ c ∧ c ≤ 255) (h : ∀ i, i < 12 → W.cell? ⟨g, i, none⟩ = some (.int .u8 (if i = p then c else bt s i))) :
    (convert 29 9 (.slice (some ⟨g, 0, none⟩) 12 cap)).run Tryd.prog W = .ok (.string (oneV s p c)) W := by
  have h1 := run_convert_bytes_arg W _ _ Tryd.underlying29 Tryd.underlying5 g 0 12 cap ((List.range 12).map fun i => if i = p then c else bt s i) (by simp) (fun i hi => by
    rw [Nat.zero_add, h i hi]
    simp [List.getD, hi]) _ Tryd.underlying9
  rw [h1]
  congr 2
  have hsz : (strOfNums ((List.range 12).map fun i => if i = p then c else bt s i)).size = 12 := by
    unfold strOfNums
    show (List.toArray _).size = 12
    simp
  refine bt_inj (hsz.trans (one_size hz hp).symm) fun i hi => ?_
  rw [hsz] at hi
  rw [one_bt hc hz hp i hi, bt_list]
  have hb : 0 ≤ bt s i ∧ bt s i < 256 := by
    rw [bt_list]
    have := (s.data.toList.getD i 0).toNat_lt
    omega
  obtain ⟨x, hx⟩ : ∃ x, (if i = p then c else bt s i) = x := ⟨_, rfl⟩
  have hx' : 0 ≤ x ∧ x < 256 := by
    rw [← hx]
    split <;> omega
  have e1 : (strOfNums ((List.range 12).map fun i => if i = p then c else bt s i)).data.toList.getD i 0 = UInt8.ofNat x.toNat := by
    unfold strOfNums
    simp [List.getD, hi]
    rw [hx]
  rw [e1, hx, UInt8.toNat_ofNat']
  omega
/-- What Mend has in its hands. -/
structure MeS (w : World) (gs gf : Nat) (s : ByteArray) (W : World) (xs : List ByteArray) (A : Option Addr) (n cp : Nat) : Prop where
  k1 : Blk W gs 9 #[.string s]
  k2 : Blk W gf 35 #[.slice A n cp]
  own : W.ownsRow (gf + 1) 9 1 (.slice A n cp) n (xs.flatMap strC)
  len : xs.length = n
  bel : Below w.heap.size w W
  sz : gf < W.heap.size
  lt : gs < gf
  ge : w.heap.size ≤ gs
set_option maxRecDepth 100000 in
set_option maxHeartbeats 3200000 in
theorem try_any (w : World) (gs gf : Nat) (s : ByteArray) (p : Nat) (c : Int) (A : Option Addr) (n cp : Nat) (xs : List ByteArray) (W : World) (hz : s.size = 12) (hp : p < 12) (hc : 0 ≤ c ∧ c ≤ 255) (hn : n ≤ 1000) (hs : MeS w gs gf s W xs A n cp) :
    Calls Tryd.prog 32 #[.int .i64 p, .int .u8 c, (.pointer (some ⟨gs, 0, none⟩)), (.pointer (some ⟨gf, 0, none⟩))] W fun e w' => e = .returned (.tuple #[]) ∧ ∃ A' n' cp', MeS w gs gf s w' (xs ++ tryV s p c) A' n' cp' := by
  have HS := Lib.hid hs
  have k1 : W.cell? ⟨gs, 0, none⟩ = some (.string s) := hs.k1.cell 0
  have k2 : W.cell? ⟨gf, 0, none⟩ = some (.slice A n cp) := hs.k2.cell 0
  have hb := get_bt s
  have hlt := hs.lt
  have hge := hs.ge
  have hsz := hs.sz
  clear hs
  by_cases hne : bt s p = c
  · have d0 : (bt s p == c) = true := by simpa using hne
    have HE : Hid (xs ++ tryV s p c = xs) := Lib.hid (by unfold tryV; rw [if_pos hne, List.append_nil])
    clear hne
    go_enter Tryd.func32, Tryd.ntmps32
    go_wp2_with fail
    first | go_end0 | refine bodyPost_ret (results_none rfl _ _ _) rfl ?_
    exact ⟨rfl, A, n, cp, by rw [HE.out]; exact HS.out⟩
  have d0 : (bt s p == c) = false := by simpa using hne
  have hto := conv_to W s
  rw [hz] at hto
  obtain ⟨cap, hcap⟩ : ∃ cap, grownCap W 12 0 5 = cap := ⟨_, rfl⟩
  rw [hcap] at hto
  have f0 := toB_frozen W s p (by omega)
  have g0 := toB_cell W s p (by omega)
  have HB1 : Hid (Below W.heap.size W ((toB W s).setCell ⟨W.heap.size, p, none⟩ (.int .u8 c))) := Lib.hid ((toB_below W s).setCell (Nat.le_refl _) _)
  have HC1 : Hid (∀ i, i < 12 → ((toB W s).setCell ⟨W.heap.size, p, none⟩ (.int .u8 c)).cell? ⟨W.heap.size, i, none⟩ = some (.int .u8 (if i = p then c else bt s i))) := Lib.hid (fun i hi => by
    by_cases e : i = p
    · subst e
      rw [if_pos rfl]
      exact World.cell?_setCell_same _ _ _ (by rw [g0])
    · rw [if_neg e, World.cell?_setCell_other _ _ _ _ (by first | (simp; done) | (simp; omega))]
      exact toB_cell W s i (by omega))
  have HZ1 : Hid (W.heap.size < ((toB W s).setCell ⟨W.heap.size, p, none⟩ (.int .u8 c)).heap.size) := Lib.hid (by have := Lib.bytesWorld_size W 5 s; simp [World.setCell, toB]; omega)
  obtain ⟨W1, hW1⟩ : ∃ W1, (toB W s).setCell ⟨W.heap.size, p, none⟩ (.int .u8 c) = W1 := ⟨_, rfl⟩
  rw [hW1] at HB1 HC1 HZ1
  have hback := conv_back W1 W.heap.size cap s p c hz (by omega) hc HC1.out
  have HR := Lib.hid (fun w => right_any (oneV s p c) w (by unfold maxLen; rw [one_size hz (show p ≤ 11 by omega)]; omega))
  have HNE := Lib.hid hne
  have p0 : (0 : Int) ≤ (p : Int) := by omega
  have p1 : (p : Int) < 12 := by omega
  clear hcap hne
  cases hr : rightB (oneV s p c)
  all_goals
    rw [hr] at HR
    go_enter Tryd.func32, Tryd.ntmps32
    go_wp2_with fail
    try rw [hW1]
    go_wp2_with fail
    refine (HR.out _).mono ?_
    rintro e w2 ⟨rfl, hb2⟩
  · have HE : Hid (xs ++ tryV s p c = xs) := Lib.hid (by unfold tryV; rw [if_neg HNE.out, hr, if_neg (by simp), List.append_nil])
    have HB2 := Lib.hid (HB1.out.trans (hb2.mono HB1.out.size))
    clear hr
    go_wp2_with fail
    first | go_end0 | refine bodyPost_ret (results_none rfl _ _ _) rfl ?_
    exact ⟨rfl, A, n, cp, by rw [HE.out]; exact ⟨HS.out.k1.below HB2.out HS.out.k1.lt, HS.out.k2.below HB2.out HS.out.k2.lt, own_kept_below HS.out.own HB2.out, HS.out.len, HS.out.bel.trans (HB2.out.mono HS.out.bel.size), Nat.lt_of_lt_of_le hsz HB2.out.size, hlt, hge⟩⟩
  · have HE : Hid (xs ++ tryV s p c = xs ++ [oneV s p c]) := Lib.hid (by unfold tryV; rw [if_neg HNE.out, if_pos hr])
    have HB2 := Lib.hid (HB1.out.trans (hb2.mono HB1.out.size))
    have k3 := cell_kept HB2.out k2
    have hback2 := conv_back w2 W.heap.size cap s p c hz (by omega) hc (fun i hi => cell_kept hb2 (HC1.out i hi))
    have HO2 := Lib.hid (own_kept_below HS.out.own HB2.out)
    have HK1 := Lib.hid (HS.out.k1.below HB2.out HS.out.k1.lt)
    have HK2 := Lib.hid (HS.out.k2.below HB2.out HS.out.k2.lt)
    have HBW := Lib.hid (HS.out.bel.trans (HB2.out.mono HS.out.bel.size))
    have hz3 : gf + 1 ≤ w2.heap.size := Nat.lt_of_lt_of_le hsz HB2.out.size
    obtain ⟨i0, hi, hz0, hz1, hz2⟩ := info_parts infoStr
    have HLN := Lib.hid HS.out.len
    obtain ⟨T, hT⟩ : ∃ T, oneV s p c = T := ⟨_, rfl⟩
    rw [hT] at HE hback2 ⊢
    have HSA : Hid (gf + 1 ≤ (w2.alloc (.cells #[.string T] 9)).heap.size) := Lib.hid (by rw [size_alloc]; omega)
    clear hr hT hback HR HB1 HC1 HZ1 hto f0 g0 hb2 HS k1 k2 hW1
    go_wp2_with (at_builtin; refine wpList_append_any_s (w2.alloc (.cells #[.string T] 9)) rfl (.tmp 21) (.tmp 24) 35 rfl (gf + 1) 9 i0 _ 1 16 Tryd.underlying35 hi hz0 hz1 hz2 rfl (by omega) (.slice A n cp) n _ rfl (HO2.out.alloc _) _ (some ⟨w2.heap.size, 0, none⟩) 1 1 [.string T] rfl ((SliceOf.blk (en := strC) (Blk.new_at _ 9 #[.string T] _ rfl) [T] rfl (fun _ => rfl) rfl).reads (fun _ => rfl)) (by simp [Value.oneCell']) (by unfold maxLen; omega) (by omega) HSA.out ?_; intro A8 c8 w8 hown2 hg2 hloc2; have HB8 : Hid (Below w.heap.size w w8) := Lib.hid ((HBW.out.alloc HBW.out.size _).grown hg2 (Nat.le_trans (by omega) HSA.out) (fun j hj => by have := (HO2.out.lt j hj).1; omega)); have K1 := Lib.hid ((HK1.out.alloc (.cells #[.string T] 9)).grown hg2 (row_ne_low HO2.out (by omega))); have K2 := Lib.hid ((HK2.out.alloc (.cells #[.string T] 9)).grown hg2 (row_ne_low HO2.out (by omega))); have q2 := K2.out.cell 0; have qf := K2.out.frozen 0; simp only [List.getElem?_toArray, List.getElem?_cons_zero] at q2; have HZ8 : Hid (gf < w8.heap.size) := Lib.hid K2.out.lt; rw [show xs.flatMap strC ++ [Value.string T] = (xs ++ [T]).flatMap strC by rw [List.flatMap_append]; rfl] at hown2; have HO8 := Lib.hid hown2; clear hown2 hg2 hloc2)
    first | go_end0 | refine bodyPost_ret (results_none rfl _ _ _) rfl ?_
    refine ⟨rfl, A8, n + 1, c8, ?_⟩
    rw [HE.out]
    refine ⟨Blk.far K1.out (by show gs ≠ gf; omega) _, K2.out.set_ 0 _, ownsRow_setCell_below HO8.out (Nat.lt_succ_self gf) _, by rw [List.length_append, HLN.out]; rfl, HB8.out.setCell (by show w.heap.size ≤ gf; omega) _, by have := HZ8.out; simpa [World.setCell] using this, hlt, hge⟩
theorem map_enc (l : List (List UInt8)) : l.map encStr = (l.map bstr).flatMap strC := by
  induction l with
  | nil => rfl
  | cons x l ih => rw [List.map_cons, List.map_cons, List.flatMap_cons, ih]; rfl
theorem flat_enc (xs : List ByteArray) : xs.flatMap strC = (xs.map fun x => x.data.toList).map encStr := by
  rw [map_enc, List.map_map]
  congr 1
  conv => lhs; rw [← List.map_id xs]
  refine List.map_congr_left fun x _ => ?_
  exact (ba_ext (data_bstr _)).symm
end Go.Proofs.YtjemmddgeejffaaDoor.kit
