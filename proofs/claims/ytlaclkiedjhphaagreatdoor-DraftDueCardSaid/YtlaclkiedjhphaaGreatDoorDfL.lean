/- Who is liable, by the program: the map cloned, names put in and struck, its keys sorted. No condition. -/
import Derived.Test.YtlaclkiedjhphaaGreatDoorDfB
import Derived.Test.YtlaclkiedjhphaaGreatDoorMore
namespace Go.Proofs.YtlaclkiedjhphaaGreatDoor.kit
open Go.RowKit Go.PlainAid Go.Maps Go.Sort Go.Shelf
set_option linter.unusedVariables false

def strC (s : ByteArray) : List Value := [.string s]
theorem clone_any (b n : Nat) (D : DataW Unit) (w : World) (h : w.ownsMap Tryz.prog 9 (plainElem (H := Unit) Tryz.prog 4) b n D) :
    Calls Tryz.prog 40 #[.map (some b)] w fun e w' => e = .returned (.map (some w.heap.size)) ∧ w'.ownsMap Tryz.prog 9 (plainElem (H := Unit) Tryz.prog 4) w.heap.size n D ∧ w'.ownsMap Tryz.prog 9 (plainElem (H := Unit) Tryz.prog 4) b n D ∧ Below w.heap.size w w' :=
  AnyW.maps_Clone_owns Tryz.cloneB 9 (plainElem (H := Unit) Tryz.prog 4) b n D w h
/-- The keys of a map of texts. -/
theorem keys_mem {H : Type} {P : Program} {k : TypeId} {R : Value → Option (DataW H × List MemPlace)} {w : World} {b n : Nat} {D : DataW H} (h : w.ownsMap P k R b n D) (hk : P.underlying k = some .string) (x : List UInt8) : x ∈ strKeys D ↔ has D (.string x) = true := by
  obtain ⟨es, rfl, hks⟩ := h.keysOf
  rw [has_eq, List.any_eq_true]
  show x ∈ es.map (fun p => strOf p.1) ↔ _
  rw [List.mem_map]
  constructor
  · rintro ⟨p, hp, rfl⟩
    obtain ⟨key, hkey⟩ := hks p hp
    obtain ⟨y, _, hy, _⟩ := Maps.keyOf_str hk hkey
    refine ⟨p, hp, ?_⟩
    rw [hy]
    exact WideAt.sameKey_self trivial
  · rintro ⟨p, hp, hs⟩
    refine ⟨p, hp, ?_⟩
    rw [WideAt.sameKey_eq hs]
    rfl
theorem keys_nodup {H : Type} {P : Program} {k : TypeId} {R : Value → Option (DataW H × List MemPlace)} {w : World} {b n : Nat} {D : DataW H} (h : w.ownsMap P k R b n D) (K : Keyed P k) (hk : P.underlying k = some .string) : (strKeys D).Nodup := by
  obtain ⟨es, hes, hks⟩ := h.keysOf
  obtain ⟨es', hes', hp⟩ := h.tidy K
  subst hes
  injection hes' with hes'
  subst hes'
  show (es.map fun p => strOf p.1).Nodup
  refine List.pairwise_map.2 (hp.imp_of_mem fun {p q} hp' hq' hne e => hne ?_)
  obtain ⟨key, hkey⟩ := hks p hp'
  obtain ⟨y, _, hy, _⟩ := Maps.keyOf_str hk hkey
  obtain ⟨key', hkey'⟩ := hks q hq'
  obtain ⟨z, _, hz, _⟩ := Maps.keyOf_str hk hkey'
  rw [hy, hz] at e ⊢
  exact congrArg _ e
theorem map_enc (l : List (List UInt8)) : l.map encStr = (l.map bstr).flatMap strC := by
  induction l with
  | nil => rfl
  | cons x l ih => rw [List.map_cons, List.map_cons, List.flatMap_cons, ih]; rfl
/-- The keys of the map, sorted, are those who are liable. -/
theorem liable_keys {b : Bl} (hst : b.st ≠ 2) {w : World} {mc n : Nat} (h : w.ownsMap Tryz.prog 9 (plainElem (H := Unit) Tryz.prog 4) mc n ((passD (owers b)).del (keyS b.hol))) {ss : List (List UInt8)} (hs : ss.Perm (strKeys ((passD (owers b)).del (keyS b.hol)))) :
    (ss.mergeSort fun x y => decide (x ≤ y)).map bstr = liaV b := by
  refine sorted_ris (hs.nodup_iff.2 (keys_nodup h lawS Tryz.underlying9)) (lia_up b) fun x => ?_
  rw [hs.mem_iff, keys_mem h Tryz.underlying9, lia_mem hst]
  have hx : (Lit.string x) = keyS (bstr x) := by unfold keyS; rw [data_bstr]
  rw [hx]
  by_cases e : bstr x = b.hol
  · rw [e, has_del_same]
    simp
  · rw [has_del_other (fun h => e (keyS_inj.1 h)), has_passD, memS_iff]
    exact ⟨fun h => ⟨h, e⟩, fun h => h.1⟩
set_option maxRecDepth 100000 in
set_option maxHeartbeats 3200000 in
theorem liable_any (g mb : Nat) (b : Bl) (w : World) (hb : IsBill w g mb b) :
    Calls Tryz.prog 18 #[(.pointer (some ⟨g, 0, none⟩))] w fun e w' => ∃ v, e = .returned v ∧ Made w 1 strC (liaV b) (liaV b).length v w' := by
  have HB := Lib.hid hb
  have HBW := Lib.hid (Below.refl w.heap.size w)
  clear hb
  have hbl := (HB.out.below HBW.out).blk; have f1 := hbl.cell 1; have f2 := hbl.cell 2; have f9 := hbl.cell 9; have f10 := hbl.cell 10; have f11 := hbl.cell 11; have f12 := hbl.cell 12; clear hbl; simp only [List.getElem?_toArray, List.getElem?_cons_zero, List.getElem?_cons_succ] at f1 f2 f9 f10 f11 f12
  by_cases hst : b.st = 2
  · have e0 : Hid (liaV b = []) := Lib.hid (by unfold liaV; rw [if_pos hst])
    have d0 : (b.st == 2) = true := by rw [hst]; rfl
    clear hst
    go_enter Tryz.func18, Tryz.ntmps18
    go_wp2_with fail
    go_ret
    exact ⟨_, rfl, none, 0, by rw [e0.out]; rfl, by rw [e0.out]; exact SliceOf.none_, HBW.out⟩
  have d0 : (b.st == 2) = false := by simpa using hst
  have HST := Lib.hid hst
  have hnil := fun w r => run_eql_map_nil (P := Tryz.prog) w 60 _ _ r Tryz.underlying60
  clear hst
  cases hacc : b.acc
  all_goals
    rw [hacc] at f10
    have HACC := Lib.hid hacc
    clear hacc
    go_enter Tryz.func18, Tryz.ntmps18
    go_wp2_with fail
    refine (clone_any mb b.pas.length (passD b.pas) w HB.out.map).mono ?_
    rintro e w1 ⟨rfl, hown1, _, hb1⟩
    clear HBW f1 f2 f9 f10 f11 f12
    have HBW := Lib.hid hb1
    have HO := Lib.hid hown1
    clear hb1 hown1
    have hbl := (HB.out.below HBW.out).blk; have f1 := hbl.cell 1; have f2 := hbl.cell 2; have f9 := hbl.cell 9; have f10 := hbl.cell 10; have f11 := hbl.cell 11; have f12 := hbl.cell 12; clear hbl; simp only [List.getElem?_toArray, List.getElem?_cons_zero, List.getElem?_cons_succ] at f1 f2 f9 f10 f11 f12; (try rw [HACC.out] at f10)
  · go_wp2_with (first | (at_mapUpdate; (refine wpList_mapUpdate_own w1 rfl _ _ _ 60 rfl 9 4 lawS Tryz.underlying60 (plainElem (H := Unit) Tryz.prog 4) w.heap.size (b.pas.length) (passD b.pas) rfl HO.out (by have := HB.out.len; unfold maxLen; omega) _ _ _ rfl rfl (keyOfS HB.out.dok.w) _ [] (plainElem_bool Tryz.underlying4 true) ?_); clear HO; intro w2 hown hgrow; have hBn := HBW.out.grown hgrow HBW.out.size (fun k hk => by injection hk with hk; omega); clear HBW; have HBW := Lib.hid hBn; clear hBn; have HO := Lib.hid hown; clear hown hgrow; clear f1 f2 f9 f10 f11 f12; have hbl := (HB.out.below HBW.out).blk; have f1 := hbl.cell 1; have f2 := hbl.cell 2; have f9 := hbl.cell 9; have f10 := hbl.cell 10; have f11 := hbl.cell 11; have f12 := hbl.cell 12; clear hbl; simp only [List.getElem?_toArray, List.getElem?_cons_zero, List.getElem?_cons_succ] at f1 f2 f9 f10 f11 f12; (try rw [HACC.out] at f10)) | (at_delete; (refine wpList_delete_own w2 rfl _ _ 60 9 rfl 4 lawS Tryz.underlying60 (plainElem (H := Unit) Tryz.prog 4) w.heap.size (b.pas.length + 1) ((passD b.pas).put (keyS b.d.drw) (.lit (.bool true))) rfl HO.out _ _ rfl (keyOfS HB.out.hol) ?_); clear HO; intro w4 hown hturn; have hBn := HBW.out.grown hturn.grown HBW.out.size (fun k hk => by injection hk with hk; omega); clear HBW; have HBW := Lib.hid hBn; clear hBn; have HO := Lib.hid hown; clear hown hturn f1 f2 f9 f10 f11 f12))
    have HO2 : Hid (w4.ownsMap Tryz.prog 9 (plainElem (H := Unit) Tryz.prog 4) w.heap.size (b.pas.length + 1) ((passD (owers b)).del (keyS b.hol))) := Lib.hid (by
      have h := HO.out
      rw [← passD_snoc] at h
      have e : owers b = b.pas ++ [b.d.drw] := by unfold owers; rw [HACC.out]; rfl
      rw [e]; exact h)
    clear HO hnil
    refine (keysB_any _ _).mono ?_
    rintro e w5 ⟨rfl, rfl⟩
    have hsz := HO2.out.size_le
    have hlen := HB.out.len
    have HSO := Lib.hid (sortedB_any w.heap.size (b.pas.length + 1) _ (plainElem (H := Unit) Tryz.prog 4) w4 HO2.out (by unfold maxLen; omega) (by omega))
    clear hsz hlen
    go_wp2_with fail
    refine HSO.out.mono ?_
    rintro e w6 ⟨v, ss, rfl, hperm, hrow, hnil, hb6⟩
    have HBF : Hid (Below w.heap.size w w6) := Lib.hid ((HBW.out.alloc HBW.out.size _).trans (hb6.mono (HBW.out.alloc HBW.out.size _).size))
    have hk := liable_keys HST.out HO2.out hperm
    have hlen : ss.length = (liaV b).length := by rw [← hk, List.length_map, List.length_mergeSort]
    have HM : Hid (Made w 1 strC (liaV b) (liaV b).length v w6) := Lib.hid (by
      rw [hlen, map_enc, hk] at hrow
      exact made_of (ownsRow_base_a hrow (by have := HBW.out.size; simp; omega)) (fun _ => rfl) rfl rfl HBF.out)
    clear hperm hrow hnil hb6 hk hlen HSO
    go_wp2_with fail
    go_ret
    exact ⟨_, rfl, HM.out⟩
  · go_wp2_with (first | (at_mapUpdate; (refine wpList_mapUpdate_own w1 rfl _ _ _ 60 rfl 9 4 lawS Tryz.underlying60 (plainElem (H := Unit) Tryz.prog 4) w.heap.size (b.pas.length) (passD b.pas) rfl HO.out (by have := HB.out.len; unfold maxLen; omega) _ _ _ rfl rfl (keyOfS HB.out.dok.w) _ [] (plainElem_bool Tryz.underlying4 true) ?_); clear HO; intro w2 hown hgrow; have hBn := HBW.out.grown hgrow HBW.out.size (fun k hk => by injection hk with hk; omega); clear HBW; have HBW := Lib.hid hBn; clear hBn; have HO := Lib.hid hown; clear hown hgrow; clear f1 f2 f9 f10 f11 f12; have hbl := (HB.out.below HBW.out).blk; have f1 := hbl.cell 1; have f2 := hbl.cell 2; have f9 := hbl.cell 9; have f10 := hbl.cell 10; have f11 := hbl.cell 11; have f12 := hbl.cell 12; clear hbl; simp only [List.getElem?_toArray, List.getElem?_cons_zero, List.getElem?_cons_succ] at f1 f2 f9 f10 f11 f12; (try rw [HACC.out] at f10)) | (at_mapUpdate; (refine wpList_mapUpdate_own w2 rfl _ _ _ 60 rfl 9 4 lawS Tryz.underlying60 (plainElem (H := Unit) Tryz.prog 4) w.heap.size (b.pas.length + 1) ((passD b.pas).put (keyS b.d.drw) (.lit (.bool true))) rfl HO.out (by have := HB.out.len; unfold maxLen; omega) _ _ _ rfl rfl (keyOfS HB.out.dok.e) _ [] (plainElem_bool Tryz.underlying4 true) ?_); clear HO; intro w3 hown hgrow; have hBn := HBW.out.grown hgrow HBW.out.size (fun k hk => by injection hk with hk; omega); clear HBW; have HBW := Lib.hid hBn; clear hBn; have HO := Lib.hid hown; clear hown hgrow; clear f1 f2 f9 f10 f11 f12; have hbl := (HB.out.below HBW.out).blk; have f1 := hbl.cell 1; have f2 := hbl.cell 2; have f9 := hbl.cell 9; have f10 := hbl.cell 10; have f11 := hbl.cell 11; have f12 := hbl.cell 12; clear hbl; simp only [List.getElem?_toArray, List.getElem?_cons_zero, List.getElem?_cons_succ] at f1 f2 f9 f10 f11 f12; (try rw [HACC.out] at f10)) | (at_delete; (refine wpList_delete_own w3 rfl _ _ 60 9 rfl 4 lawS Tryz.underlying60 (plainElem (H := Unit) Tryz.prog 4) w.heap.size (b.pas.length + 1 + 1) (((passD b.pas).put (keyS b.d.drw) (.lit (.bool true))).put (keyS b.d.dre) (.lit (.bool true))) rfl HO.out _ _ rfl (keyOfS HB.out.hol) ?_); clear HO; intro w4 hown hturn; have hBn := HBW.out.grown hturn.grown HBW.out.size (fun k hk => by injection hk with hk; omega); clear HBW; have HBW := Lib.hid hBn; clear hBn; have HO := Lib.hid hown; clear hown hturn f1 f2 f9 f10 f11 f12))
    have HO2 : Hid (w4.ownsMap Tryz.prog 9 (plainElem (H := Unit) Tryz.prog 4) w.heap.size (b.pas.length + 1 + 1) ((passD (owers b)).del (keyS b.hol))) := Lib.hid (by
      have h := HO.out
      rw [← passD_snoc, ← passD_snoc] at h
      have e : owers b = (b.pas ++ [b.d.drw]) ++ [b.d.dre] := by unfold owers; rw [HACC.out]; simp
      rw [e]; exact h)
    clear HO hnil
    refine (keysB_any _ _).mono ?_
    rintro e w5 ⟨rfl, rfl⟩
    have hsz := HO2.out.size_le
    have hlen := HB.out.len
    have HSO := Lib.hid (sortedB_any w.heap.size (b.pas.length + 1 + 1) _ (plainElem (H := Unit) Tryz.prog 4) w4 HO2.out (by unfold maxLen; omega) (by omega))
    clear hsz hlen
    go_wp2_with fail
    refine HSO.out.mono ?_
    rintro e w6 ⟨v, ss, rfl, hperm, hrow, hnil, hb6⟩
    have HBF : Hid (Below w.heap.size w w6) := Lib.hid ((HBW.out.alloc HBW.out.size _).trans (hb6.mono (HBW.out.alloc HBW.out.size _).size))
    have hk := liable_keys HST.out HO2.out hperm
    have hlen : ss.length = (liaV b).length := by rw [← hk, List.length_map, List.length_mergeSort]
    have HM : Hid (Made w 1 strC (liaV b) (liaV b).length v w6) := Lib.hid (by
      rw [hlen, map_enc, hk] at hrow
      exact made_of (ownsRow_base_a hrow (by have := HBW.out.size; simp; omega)) (fun _ => rfl) rfl rfl HBF.out)
    clear hperm hrow hnil hb6 hk hlen HSO
    go_wp2_with fail
    go_ret
    exact ⟨_, rfl, HM.out⟩
end Go.Proofs.YtlaclkiedjhphaaGreatDoor.kit
