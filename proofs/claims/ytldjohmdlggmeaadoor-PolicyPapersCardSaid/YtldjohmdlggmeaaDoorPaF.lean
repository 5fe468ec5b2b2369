/- Numbers as texts, and texts joined; a struct stored. Condition: the table of powers of ten. -/
import Derived.Test.YtldjohmdlggmeaaDoorPaE
import Derived.Test.YtldjohmdlggmeaaDoorStep
import Derived.Lib.ItoaMem
import Derived.Lib.AppendIntMem
import Derived.Lib.Join
namespace Go.Proofs.YtldjohmdlggmeaaDoor.kit
open Go.RowKit Go.PlainAid
set_option linter.unusedVariables false

def PowTab (w : World) : Prop := Lib.TabIs Tryd.prog w "internal/strconv.uint64pow10" .u64 Lib.pow10Tab
def itS (n : Int) : ByteArray := bstr (Lib.itoa n)
theorem itoa_any (n : Int) (h : I64 n) (w : World) (ht : PowTab w) : Calls Tryd.prog 16 #[.int .i64 n] w fun e w' => e = .returned (.string (itS n)) ∧ Below w.heap.size w w' :=
  (Tryd.strconv_Itoa n h.1 h.2 w ht).mono fun e w' h => ⟨h.1, by obtain ⟨k, os, rfl⟩ := h.2; exact Lib.below_grow _ _ (Nat.le_refl _) _ _⟩
theorem fint_any (n : Int) (h : I64 n) (w : World) (ht : PowTab w) : Calls Tryd.prog 18 #[.int .i64 n, .int .i64 10] w fun e w' => e = .returned (.string (itS n)) ∧ Below w.heap.size w w' :=
  (Tryd.strconv_FormatInt_10 n h.1 h.2 w ht).mono fun e w' h => ⟨h.1, by obtain ⟨k, os, rfl⟩ := h.2; exact Lib.below_grow _ _ (Nat.le_refl _) _ _⟩
theorem itS_nat (n : Nat) : itS (n : Int) = bstr (Lib.decDigits n) := by unfold itS; rw [itoa_nat]
def joinS (xs : List ByteArray) : ByteArray := bstr (Lib.join (xs.map (·.data.toList)) [44])
theorem join_len (M : Nat) : ∀ (xs : List (List UInt8)), (∀ x ∈ xs, x.length ≤ M) → (Lib.joinTail [44] xs).length ≤ xs.length * (M + 1)
  | [], _ => by simp [Lib.joinTail]
  | x :: xs, h => by
    have h1 := h x (List.mem_cons_self ..)
    have h2 := join_len M xs (fun y hy => h y (List.mem_cons_of_mem _ hy))
    unfold Lib.joinTail at h2 ⊢
    simp only [List.map_cons, List.flatten_cons, List.length_append, List.length_cons, List.length_nil] at h2 ⊢
    rw [Nat.succ_mul]
    omega
theorem join_any (A : Option Addr) (n c : Nat) (xs : List ByteArray) (w : World) (h : SliceOf w 1 strC A n xs) (hn : n ≤ 100) (hc : n ≤ c) (hs : ∀ x ∈ xs, x.size ≤ 2000000) :
    Calls Tryd.prog 19 #[.slice A n c, .string ⟨#[44]⟩] w fun e w' => e = .returned (.string (joinS xs)) ∧ Below w.heap.size w w' := by
  have hl := h.len
  by_cases h0 : n = 0
  · subst h0
    have ex : xs = [] := List.eq_nil_of_length_eq_zero hl
    subst ex
    exact (Tryd.strings_Join_none A c _ w).mono fun e w' h => ⟨h.1, by rw [h.2]; exact Below.refl _ _⟩
  · obtain ⟨b, off, rfl, hb, hcc⟩ := h.at_ (by omega)
    have hj : (Lib.join (xs.map (·.data.toList)) [44]).length ≤ 140737488355328 := by
      cases xs with
      | nil => simp [Lib.join_nil]
      | cons x xs =>
        rw [List.map_cons, Lib.join_cons, List.length_append]
        have h1 := hs x (List.mem_cons_self ..)
        rw [← len_list] at h1
        have h2 := join_len 2000000 (xs.map (·.data.toList)) (fun y hy => by
          obtain ⟨z, hz, rfl⟩ := List.mem_map.1 hy
          have := hs z (List.mem_cons_of_mem _ hz)
          rw [← len_list] at this
          exact this)
        rw [List.length_map] at h2
        simp only [List.length_cons] at hl
        have : xs.length * (2000000 + 1) ≤ 100 * (2000000 + 1) := Nat.mul_le_mul_right _ (by omega)
        omega
    have := Tryd.strings_Join b off c xs ⟨#[44]⟩ w (fun j x hx => by have := hcc j x hx 0 _ rfl; simpa using this) hb (by omega) (by omega) hj
    rw [hl] at this
    exact this
/-- A whole struct stored into a block known whole: what is kept. -/
theorem wpList_store_far {P : Program} {ops : Array Oper} {rest : List Oper} {o : Oper} {a : Act} {w : World} {Q : Exit → Act → World → Prop} {t : TypeId} {old : Array Value} {g : Nat} (hgd : o.guard = none) (ty : TypeId) (x y : Operand) (ho : o.op = .store ty x y)
    (cells : Array Value) (hx : a.eval x = .pointer (some ⟨g, 0, none⟩)) (hy : a.eval y = .agg cells) (hg : Blk w g t old) (hi : (P.info? ty).map (·.size) = some cells.size)
    (hold : old.size = cells.size) (h1 : onesL cells.toList = true)
    (h : ∀ w', Blk w' g t cells → (∀ k t' cs, k ≠ g → Blk w k t' cs → Blk w' k t' cs) → w.heap.size ≤ w'.heap.size → (∀ p : Addr, p.block ≠ g → w'.cell? p = w.cell? p) → (∀ B w0, Below B w0 w → B ≤ g → Below B w0 w') → wpList P ops Q rest (a.put o.dst undef) w') : wpList P ops Q (o :: rest) a w :=
  wpList_store_row hgd ty x y ho g cells hx hy t old hg hi hold (Array.all_eq_true_iff_forall_mem.2 fun v hv => onesL_all h1 v (by simpa using hv))
    (h _ (setRow_heap w g old cells t (0, 0) hg) (fun k t' cs hk hb => (setRow_other w g k cells hk).trans hb) (by simp [World.setRow]) (fun p hp => by unfold World.cell?; rw [setRow_other w g p.block cells hp])
      (fun B w0 hb hB => hb.trans ⟨rfl, rfl, rfl, by simp [World.setRow], fun k hk => setRow_other w g k cells (by omega)⟩))
theorem build_doc0 (w : World) : (Instr.build 29 #[]).run Tryd.prog w = .ok (.agg #[.int .i64 0, .string ⟨#[]⟩, .string ⟨#[]⟩, .slice none 0 0]) w := run_build w _ _ _ (by kernel_rfl)
/-- What policy.Doc gives of one that may not be. -/
def NoDoc (e : Ending) : Prop := e = .returned (.tuple #[.agg #[.int .i64 0, .string ⟨#[]⟩, .string ⟨#[]⟩, .slice none 0 0], .int .i64 1])
set_option maxRecDepth 100000 in
set_option maxHeartbeats 3200000 in
theorem doc_bad (p : Pol) (nm : ByteArray) (w : World) (hp : p.ok w) (hn : nm.size ≤ maxLen) (hbad : (mayP p && nameB nm.data.toList) = false) :
    Calls Tryd.prog 6 #[.agg #[.string p.ins, .string p.fr, .string p.dst, .int .i64 p.sum, .int .i64 p.own, .slice p.cA p.cn p.cc, .int .i64 p.first, .int .i64 p.last, .int .i64 p.share], .string nm] w fun e w' => NoDoc e ∧ Below w.heap.size w w' := by
  have hB0 : Below w.heap.size w ((w.alloc (.cells #[.string p.ins, .string p.fr, .string p.dst, .int .i64 p.sum, .int .i64 p.own, .slice p.cA p.cn p.cc, .int .i64 p.first, .int .i64 p.last, .int .i64 p.share] 24)).alloc (.cells #[.int .i64 0, .string ⟨#[]⟩, .string ⟨#[]⟩, .slice none 0 0] 29)) := two_alloc _ _ _
  have hp0 : Blk ((w.alloc (.cells #[.string p.ins, .string p.fr, .string p.dst, .int .i64 p.sum, .int .i64 p.own, .slice p.cA p.cn p.cc, .int .i64 p.first, .int .i64 p.last, .int .i64 p.share] 24)).alloc (.cells #[.int .i64 0, .string ⟨#[]⟩, .string ⟨#[]⟩, .slice none 0 0] 29)) w.heap.size 24 #[.string p.ins, .string p.fr, .string p.dst, .int .i64 p.sum, .int .i64 p.own, .slice p.cA p.cn p.cc, .int .i64 p.first, .int .i64 p.last, .int .i64 p.share] := (Blk.new _ _ _).alloc _
  have hr0 : Blk ((w.alloc (.cells #[.string p.ins, .string p.fr, .string p.dst, .int .i64 p.sum, .int .i64 p.own, .slice p.cA p.cn p.cc, .int .i64 p.first, .int .i64 p.last, .int .i64 p.share] 24)).alloc (.cells #[.int .i64 0, .string ⟨#[]⟩, .string ⟨#[]⟩, .slice none 0 0] 29)) (w.heap.size + 1) 29 #[.int .i64 0, .string ⟨#[]⟩, .string ⟨#[]⟩, .slice none 0 0] := blk_second _ _ _ _
  have a0 := hp0.cell 0; have a1 := hp0.cell 1; have a2 := hp0.cell 2; have a3 := hp0.cell 3; have a4 := hp0.cell 4; have a5 := hp0.cell 5; have a6 := hp0.cell 6; have a7 := hp0.cell 7; have a8 := hp0.cell 8
  simp only [List.getElem?_toArray, List.getElem?_cons_zero, List.getElem?_cons_succ] at a0 a1 a2 a3 a4 a5 a6 a7 a8
  have hbd := build_doc0
  have HP := Lib.hid hp
  have HM := Lib.hid (fun (W : World) (hb : Below w.heap.size w W) => may_any p W (hp.below hb))
  have HNM := Lib.hid (fun (W : World) => name_any nm W hn)
  clear hp
  cases hm : mayP p
  · rw [hm] at HM
    clear hbad hm
    go_enter Tryd.func6, Tryd.ntmps6
    go_wp2_with fail
    refine (HM.out _ hB0).mono ?_
    rintro e w1 ⟨rfl, hb1⟩
    have HB1 := Lib.hid ((hB0).trans ((hb1).mono (hB0).size))
    have hr1 := (hr0).below hb1 (hr0).lt
    clear a0 a1 a2 a3 a4 a5 a6 a7 a8
    go_wp2_with (refine stop_store 29 _ _ rfl ?_; refine wpList_store_far rfl 29 _ _ rfl #[.int .i64 0, .string ⟨#[]⟩, .string ⟨#[]⟩, .slice none 0 0] rfl rfl hr1 (by kernel_rfl) rfl rfl ?_; intro nw hn kn sn cn bn)
    have HB2 := Lib.hid (bn _ _ HB1.out (Nat.le_succ _))
    have r0 := hn.cell 0; have r1 := hn.cell 1; have r2 := hn.cell 2; have r3 := hn.cell 3
    simp only [List.getElem?_toArray, List.getElem?_cons_zero, List.getElem?_cons_succ] at r0 r1 r2 r3
    refine bodyPost_ret (v := .tuple #[.agg #[.int .i64 0, .string ⟨#[]⟩, .string ⟨#[]⟩, .slice none 0 0], .int .i64 1]) (by simp [results, Tryd.results6, go_sem, r0, r1, r2, r3]) rfl ?_
    exact ⟨rfl, HB2.out⟩
  · rw [hm, Bool.true_and] at hbad
    rw [hm] at HM
    rw [hbad] at HNM
    clear hbad hm
    go_enter Tryd.func6, Tryd.ntmps6
    go_wp2_with fail
    refine (HM.out _ hB0).mono ?_
    rintro e w1 ⟨rfl, hb1⟩
    go_wp2_with fail
    refine (HNM.out _).mono ?_
    rintro e w2 ⟨rfl, rfl⟩
    have HB1 := Lib.hid ((hB0).trans ((hb1).mono (hB0).size))
    have hr1 := (hr0).below hb1 (hr0).lt
    clear a0 a1 a2 a3 a4 a5 a6 a7 a8
    go_wp2_with (refine stop_store 29 _ _ rfl ?_; refine wpList_store_far rfl 29 _ _ rfl #[.int .i64 0, .string ⟨#[]⟩, .string ⟨#[]⟩, .slice none 0 0] rfl rfl hr1 (by kernel_rfl) rfl rfl ?_; intro nw hn kn sn cn bn)
    have HB2 := Lib.hid (bn _ _ HB1.out (Nat.le_succ _))
    have r0 := hn.cell 0; have r1 := hn.cell 1; have r2 := hn.cell 2; have r3 := hn.cell 3
    simp only [List.getElem?_toArray, List.getElem?_cons_zero, List.getElem?_cons_succ] at r0 r1 r2 r3
    refine bodyPost_ret (v := .tuple #[.agg #[.int .i64 0, .string ⟨#[]⟩, .string ⟨#[]⟩, .slice none 0 0], .int .i64 1]) (by simp [results, Tryd.results6, go_sem, r0, r1, r2, r3]) rfl ?_
    exact ⟨rfl, HB2.out⟩
end Go.Proofs.YtldjohmdlggmeaaDoor.kit
