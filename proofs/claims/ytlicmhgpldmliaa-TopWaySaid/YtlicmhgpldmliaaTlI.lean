/- An end of a link: Take of a letter that is new. No condition. -/
import Derived.Test.YtlicmhgpldmliaaTlH
namespace Go.Proofs.Ytlicmhgpldmliaa.kit
open Go.RowKit
set_option linter.unusedVariables false
set_option linter.unusedSimpArgs false

/-- A receipt that is owing, the letters from got on that were taken. -/
def Got (w : World) (s o : ByteArray) (got sure : Int) (gm g : Nat) (m : Int → Option Lr) (v : Value) (wr : World) : Prop :=
  ∃ (k n : Nat) (m' : Int → Option Lr) (ys : List Lr), k ≤ 64 ∧ Blk wr g 90 #[.string s, .string o, .slice none 0 0, .int .i64 0, .int .i64 (got + k), .int .i64 sure, .map (some gm), .bool true] ∧ LMap wr gm n m' ∧ wr.ownsRow w.heap.size 32 14 v k (ys.flatMap ltC) ∧ ys.length = k ∧ (∀ i, i < k → ys[i]? = m (got + 1 + i)) ∧ (∀ q, m' q = if got < q ∧ q ≤ got + k then none else m q) ∧ Fr (fun j => j = g ∨ j = gm) w wr
def AtNext (w : World) (s o : ByteArray) (got sure : Int) (gm g gl : Nat) (x : Lr) (m : Int → Option Lr) (a : Act) (wr : World) : Prop :=
  ∃ (f : Nat → Value) (v : Value), a = { tmps := #[.pointer (some ⟨g, 0, none⟩), f 1, f 2, .pointer (some ⟨gl, 0, none⟩), f 4, f 5, f 6, f 7, v, f 9, f 10, f 11, f 12, f 13, f 14, f 15, f 16, f 17, f 18, f 19, f 20, f 21, f 22, f 23, f 24, f 25, f 26, f 27, f 28, f 29, f 30, f 31, f 32, f 33, f 34, f 35, f 36, f 37, f 38, f 39, f 40, f 41, f 42, f 43, f 44, f 45, f 46, f 47, f 48, f 49, f 50, f 51, f 52, f 53, f 54, f 55, f 56, f 57, f 58, f 59, f 60, f 61, f 62, f 63, f 64, f 65, f 66, f 67, f 68, f 69, f 70, f 71, f 72, f 73, f 74, f 75, f 76, f 77, f 78, f 79, f 80, f 81, f 82, f 83, f 84, f 85, f 86, f 87, f 88, f 89, f 90, f 91, f 92, f 93, f 94, f 95, f 96, f 97, f 98, f 99, f 100, f 101, f 102, f 103, f 104], defers := [] } ∧ Hid (Got w s o got sure gm g m v wr)
theorem at_next_of {w : World} {s o : ByteArray} {got sure : Int} {gm g gl : Nat} {x : Lr} {m : Int → Option Lr} {a : Act} {wr : World} (v : Value) (h : a = { tmps := #[.pointer (some ⟨g, 0, none⟩), a.tmps.getD 1 undef, a.tmps.getD 2 undef, .pointer (some ⟨gl, 0, none⟩), a.tmps.getD 4 undef, a.tmps.getD 5 undef, a.tmps.getD 6 undef, a.tmps.getD 7 undef, v, a.tmps.getD 9 undef, a.tmps.getD 10 undef, a.tmps.getD 11 undef, a.tmps.getD 12 undef, a.tmps.getD 13 undef, a.tmps.getD 14 undef, a.tmps.getD 15 undef, a.tmps.getD 16 undef, a.tmps.getD 17 undef, a.tmps.getD 18 undef, a.tmps.getD 19 undef, a.tmps.getD 20 undef, a.tmps.getD 21 undef, a.tmps.getD 22 undef, a.tmps.getD 23 undef, a.tmps.getD 24 undef, a.tmps.getD 25 undef, a.tmps.getD 26 undef, a.tmps.getD 27 undef, a.tmps.getD 28 undef, a.tmps.getD 29 undef, a.tmps.getD 30 undef, a.tmps.getD 31 undef, a.tmps.getD 32 undef, a.tmps.getD 33 undef, a.tmps.getD 34 undef, a.tmps.getD 35 undef, a.tmps.getD 36 undef, a.tmps.getD 37 undef, a.tmps.getD 38 undef, a.tmps.getD 39 undef, a.tmps.getD 40 undef, a.tmps.getD 41 undef, a.tmps.getD 42 undef, a.tmps.getD 43 undef, a.tmps.getD 44 undef, a.tmps.getD 45 undef, a.tmps.getD 46 undef, a.tmps.getD 47 undef, a.tmps.getD 48 undef, a.tmps.getD 49 undef, a.tmps.getD 50 undef, a.tmps.getD 51 undef, a.tmps.getD 52 undef, a.tmps.getD 53 undef, a.tmps.getD 54 undef, a.tmps.getD 55 undef, a.tmps.getD 56 undef, a.tmps.getD 57 undef, a.tmps.getD 58 undef, a.tmps.getD 59 undef, a.tmps.getD 60 undef, a.tmps.getD 61 undef, a.tmps.getD 62 undef, a.tmps.getD 63 undef, a.tmps.getD 64 undef, a.tmps.getD 65 undef, a.tmps.getD 66 undef, a.tmps.getD 67 undef, a.tmps.getD 68 undef, a.tmps.getD 69 undef, a.tmps.getD 70 undef, a.tmps.getD 71 undef, a.tmps.getD 72 undef, a.tmps.getD 73 undef, a.tmps.getD 74 undef, a.tmps.getD 75 undef, a.tmps.getD 76 undef, a.tmps.getD 77 undef, a.tmps.getD 78 undef, a.tmps.getD 79 undef, a.tmps.getD 80 undef, a.tmps.getD 81 undef, a.tmps.getD 82 undef, a.tmps.getD 83 undef, a.tmps.getD 84 undef, a.tmps.getD 85 undef, a.tmps.getD 86 undef, a.tmps.getD 87 undef, a.tmps.getD 88 undef, a.tmps.getD 89 undef, a.tmps.getD 90 undef, a.tmps.getD 91 undef, a.tmps.getD 92 undef, a.tmps.getD 93 undef, a.tmps.getD 94 undef, a.tmps.getD 95 undef, a.tmps.getD 96 undef, a.tmps.getD 97 undef, a.tmps.getD 98 undef, a.tmps.getD 99 undef, a.tmps.getD 100 undef, a.tmps.getD 101 undef, a.tmps.getD 102 undef, a.tmps.getD 103 undef, a.tmps.getD 104 undef], defers := [] }) (hg : Hid (Got w s o got sure gm g m v wr)) : AtNext w s o got sure gm g gl x m a wr := ⟨fun i => a.tmps.getD i undef, v, h, hg⟩
def slLen : Value → Nat
  | .slice _ n _ => n
  | _ => 0
def TakeY (s o : ByteArray) (got sure : Int) (gm g : Nat) (m : Int → Option Lr) (w : World) (e : Ending) (wr : World) : Prop :=
  ∃ (v : Value) (k n : Nat) (m' : Int → Option Lr) (ys : List Lr), e = .returned (.tuple #[v, .bool true]) ∧ k ≤ 64 ∧ Blk wr g 90 #[.string s, .string o, .slice none 0 0, .int .i64 0, .int .i64 (got + k), .int .i64 sure, .map (some gm), .bool true] ∧ LMap wr gm n m' ∧ wr.ownsRow w.heap.size 32 14 v k (ys.flatMap ltC) ∧ ys.length = k ∧ (∀ i, i < k → ys[i]? = m (got + 1 + i)) ∧ (∀ q, m' q = if got < q ∧ q ≤ got + k then none else m q) ∧ m (got + k + 1) = none ∧ Fr (fun j => j = g ∨ j = gm) w wr
theorem wp_del3 {P : Program} {o : Oper} {a : Act} {w w' : World} {K : Act → World → Prop} {Q : Exit → Act → World → Prop} (m x : Operand) (t k : TypeId) (hop : o.op = Op.call { callee := Callee.builtin Builtin.delete, args := #[m, x], argTypes := #[t, k] }) (M X : Value) (hm : a.eval m = M) (hx : a.eval x = X) (h : (Builtin.delete_ #[t, k] o.type #[M, X]).run P w = .ok (.tuple #[]) w') (hk : K (a.put o.dst (.tuple #[])) w') : o.wp P a w K Q := by
  unfold Oper.wp
  simp [execOp, hop, resolve, invoke, builtin, hm, hx, h, Result.andThen]
  exact hk
set_option maxRecDepth 100000 in
set_option maxHeartbeats 12800000 in
theorem take_new (s o : ByteArray) (got sure : Int) (gm g : Nat) (ow : Bool) (x : Lr) (w : World) (hk : Blk w g 90 #[.string s, .string o, .slice none 0 0, .int .i64 0, .int .i64 got, .int .i64 sure, .map (some gm), .bool ow]) (hf : x.fr = o) (hd : x.dst = s) (hack : x.ack = 0) (hkd : x.kind ≠ 28) (hnm : 1 ≤ x.num ∧ x.num ≤ 1048576) (hgt : 0 ≤ got ∧ got ≤ 1048576) (hx : got < x.num ∧ x.num ≤ got + 64) (n : Nat) (m : Int → Option Lr) (hm : LMap w gm n m) (hy : m x.num = none) (hmb : ∀ q, m q ≠ none → got < q ∧ q ≤ got + 64) :
    Calls Try.prog 9 #[(.pointer (some ⟨g, 0, none⟩)), .agg #[.string x.fr, .string x.dst, .int .i64 x.num, .int .i64 x.kind, .int .i64 x.ack, .string ⟨#[]⟩, .string ⟨#[]⟩, .string ⟨#[]⟩, .int .i64 x.idx, .int .i64 0, .string ⟨#[]⟩, .int .i64 0, .slice none 0 0, .slice none 0 0]] w (TakeY s o got sure gm g (putF m x.num x) w) := by
  have q88 : ∀ (w : World) (r : Option Nat), (binOp .eql 88 (.map r) (.map none)).run Try.prog w = .ok (.bool r.isNone) w := fun w r => run_eql_map_nil w _ _ _ r Try.underlying88
  have HX := Lib.hid hx
  have HM := Lib.hid hm
  have HMB : Hid (∀ q, putF m x.num x q ≠ none → got < q ∧ q ≤ got + 64) := Lib.hid (fun q hq => by
    unfold putF at hq
    by_cases e : q = x.num
    · rw [e]; exact hx
    · rw [if_neg e] at hq; exact hmb q hq)
  obtain ⟨y, hy0⟩ : ∃ y : Lr, y = ⟨⟨#[]⟩, ⟨#[]⟩, 0, 0, 0, 0⟩ := ⟨_, rfl⟩
  have HY : Hid (((m x.num).map fun x : Lr => Value.agg #[.string x.fr, .string x.dst, .int .i64 x.num, .int .i64 x.kind, .int .i64 x.ack, .string ⟨#[]⟩, .string ⟨#[]⟩, .string ⟨#[]⟩, .int .i64 x.idx, .int .i64 0, .string ⟨#[]⟩, .int .i64 0, .slice none 0 0, .slice none 0 0]).getD (.agg #[.string ⟨#[]⟩, .string ⟨#[]⟩, .int .i64 0, .int .i64 0, .int .i64 0, .string ⟨#[]⟩, .string ⟨#[]⟩, .string ⟨#[]⟩, .int .i64 0, .int .i64 0, .string ⟨#[]⟩, .int .i64 0, .slice none 0 0, .slice none 0 0]) = .agg #[.string y.fr, .string y.dst, .int .i64 y.num, .int .i64 y.kind, .int .i64 y.ack, .string ⟨#[]⟩, .string ⟨#[]⟩, .string ⟨#[]⟩, .int .i64 y.idx, .int .i64 0, .string ⟨#[]⟩, .int .i64 0, .slice none 0 0, .slice none 0 0] ∧ (m x.num).isSome = false) := Lib.hid (by rw [hy, hy0]; exact ⟨rfl, rfl⟩)
  have HNG := Lib.hid (hm.ne_blk hk)
  have HGM := Lib.hid hm.lt
  obtain ⟨i0, hi, hz0, hz1, hz2⟩ := info_parts infoLt
  obtain ⟨m0, hm0⟩ : ∃ m0, putF m x.num x = m0 := ⟨_, rfl⟩
  rw [hm0] at HMB ⊢
  have HM0 := Lib.hid hm0
  clear hx hm hy hmb hy0 hm0
  have hK0 := Lib.hid (hk.alloc (.cells #[.string x.fr, .string x.dst, .int .i64 x.num, .int .i64 x.kind, .int .i64 x.ack, .string ⟨#[]⟩, .string ⟨#[]⟩, .string ⟨#[]⟩, .int .i64 x.idx, .int .i64 0, .string ⟨#[]⟩, .int .i64 0, .slice none 0 0, .slice none 0 0] 32))
  have hL0 := Lib.hid (Blk.new w 32 #[.string x.fr, .string x.dst, .int .i64 x.num, .int .i64 x.kind, .int .i64 x.ack, .string ⟨#[]⟩, .string ⟨#[]⟩, .string ⟨#[]⟩, .int .i64 x.idx, .int .i64 0, .string ⟨#[]⟩, .int .i64 0, .slice none 0 0, .slice none 0 0])
  have HB0 := Lib.hid (one_alloc w (.cells #[.string x.fr, .string x.dst, .int .i64 x.num, .int .i64 x.kind, .int .i64 x.ack, .string ⟨#[]⟩, .string ⟨#[]⟩, .string ⟨#[]⟩, .int .i64 x.idx, .int .i64 0, .string ⟨#[]⟩, .int .i64 0, .slice none 0 0, .slice none 0 0] 32))
  have HG := Lib.hid hk.lt
  have HOWN : Hid (∀ W, Blk W g 90 #[.string s, .string o, .slice none 0 0, .int .i64 0, .int .i64 got, .int .i64 sure, .map (some gm), .bool ow] → Calls Try.prog 30 #[(.pointer (some ⟨g, 0, none⟩)), .agg #[.string x.fr, .string x.dst, .int .i64 x.num, .int .i64 x.kind, .int .i64 x.ack, .string ⟨#[]⟩, .string ⟨#[]⟩, .string ⟨#[]⟩, .int .i64 x.idx, .int .i64 0, .string ⟨#[]⟩, .int .i64 0, .slice none 0 0, .slice none 0 0]] W fun e w' => e = .returned (.bool true) ∧ Below W.heap.size W w') := Lib.hid (fun W hW => isOwn_any s o (.slice none 0 0) 0 got sure gm g ow x W hW hf hd (by omega) (.inr ⟨hkd, hnm.1⟩))
  have HAK : Hid (∀ W, Blk W g 90 #[.string s, .string o, .slice none 0 0, .int .i64 0, .int .i64 got, .int .i64 sure, .map (some gm), .bool ow] → Calls Try.prog 31 #[(.pointer (some ⟨g, 0, none⟩)), .int .i64 0] W fun e w' => e = .returned (.int .i64 0) ∧ Below W.heap.size W w') := Lib.hid (fun W hW => acked_none s o 0 got sure gm g ow W hW)
  have HNK := Lib.hid hkd
  have HACK := Lib.hid hack
  have HNM := Lib.hid hnm
  have HGT := Lib.hid hgt
  have k28 : (x.kind == 28) = false := by simpa using hkd
  clear hk hf hd hack hkd hnm hgt
  go_enter Try.func9, Try.ntmps9
  go_upto_region 1 with (fail)
  obtain ⟨w0, hw0⟩ : ∃ W, (w.alloc (.cells #[.string x.fr, .string x.dst, .int .i64 x.num, .int .i64 x.kind, .int .i64 x.ack, .string ⟨#[]⟩, .string ⟨#[]⟩, .string ⟨#[]⟩, .int .i64 x.idx, .int .i64 0, .string ⟨#[]⟩, .int .i64 0, .slice none 0 0, .slice none 0 0] 32)) = W := ⟨_, rfl⟩
  obtain ⟨gl, hgl⟩ : ∃ gl, w.heap.size = gl := ⟨_, rfl⟩
  rw [hw0] at hK0 hL0 HB0 ⊢
  have HGL := Lib.hid hgl
  rw [hgl] at hL0
  simp only [hgl]
  clear hw0 hgl
  refine wp_scope_jumps 0 (AtNext w s o got sure gm g gl x m0) (fun a _ => 65 - slLen (a.tmps.getD 8 undef)) rfl ?_ ?_
  rotate_left
  · rintro a wr ⟨f, v, rfl, HGOT⟩
    obtain ⟨k, _, _, _, _, _, _, hown, _⟩ := HGOT.out
    obtain ⟨A, c, rfl⟩ := own_slice hown
    clear hown
    obtain ⟨k', n, m', ys, hk64, hkb, hmm, hown, hyl, hys, hmq, hfr⟩ := HGOT.out
    obtain ⟨A', c', hv'⟩ := own_slice hown
    injection hv' with hAA hkk hcc
    subst hAA hkk hcc
    obtain ⟨G, hG⟩ : ∃ G, got + ((k : Nat) : Int) = G := ⟨_, rfl⟩
    have HGG := Lib.hid hG
    rw [hG] at hkb
    have HKR := Lib.hid hkb
    have HMR := Lib.hid hmm
    have HOR := Lib.hid hown
    have HFR := Lib.hid hfr
    have HYL := Lib.hid hyl
    have HYS := Lib.hid hys
    have HMQ := Lib.hid hmq
    have HK64 := Lib.hid hk64
    have HWS : Hid (w.heap.size ≤ wr.heap.size) := Lib.hid hfr.size
    have HNGR : Hid (gm ≠ g) := Lib.hid (hmm.ne_blk hkb)
    clear hG hkb hmm hown hfr hyl hys hmq hk64 HGOT
    have q2 : IntKind.i64.wrap (G + 1) = G + 1 := IntWalk.i64_in _ (by have := HGG.out; have := HGT.out; have := HK64.out; omega)
    cases hq : m' (G + 1) with
    | none =>
      obtain ⟨y, hy0⟩ : ∃ y : Lr, y = ⟨⟨#[]⟩, ⟨#[]⟩, 0, 0, 0, 0⟩ := ⟨_, rfl⟩
      have HY : Hid (((m' (G + 1)).map fun x : Lr => Value.agg #[.string x.fr, .string x.dst, .int .i64 x.num, .int .i64 x.kind, .int .i64 x.ack, .string ⟨#[]⟩, .string ⟨#[]⟩, .string ⟨#[]⟩, .int .i64 x.idx, .int .i64 0, .string ⟨#[]⟩, .int .i64 0, .slice none 0 0, .slice none 0 0]).getD (.agg #[.string ⟨#[]⟩, .string ⟨#[]⟩, .int .i64 0, .int .i64 0, .int .i64 0, .string ⟨#[]⟩, .string ⟨#[]⟩, .string ⟨#[]⟩, .int .i64 0, .int .i64 0, .string ⟨#[]⟩, .int .i64 0, .slice none 0 0, .slice none 0 0]) = .agg #[.string y.fr, .string y.dst, .int .i64 y.num, .int .i64 y.kind, .int .i64 y.ack, .string ⟨#[]⟩, .string ⟨#[]⟩, .string ⟨#[]⟩, .int .i64 y.idx, .int .i64 0, .string ⟨#[]⟩, .int .i64 0, .slice none 0 0, .slice none 0 0] ∧ (m' (G + 1)).isSome = false) := Lib.hid (by rw [hq, hy0]; exact ⟨rfl, rfl⟩)
      have hend : m0 (G + 1) = none := by
        have h1 := HMQ.out (G + 1)
        rw [hq, if_neg (by have := HGG.out; omega)] at h1
        exact h1.symm
      have HEND := Lib.hid hend
      clear hq hy0 hend
      have e0 := HKR.out.cell 0; have e1 := HKR.out.cell 1; have e2 := HKR.out.cell 2; have e3 := HKR.out.cell 3; have e4 := HKR.out.cell 4; have e5 := HKR.out.cell 5; have e6 := HKR.out.cell 6; have e7 := HKR.out.cell 7
      simp only [List.getElem?_toArray, List.getElem?_cons_zero, List.getElem?_cons_succ] at e0 e1 e2 e3 e4 e5 e6 e7
      go_wp2_with fail
      try simp only [Act.put]
      clear e0 e1 e2 e3 e4 e5 e6 e7
      have NG : ¬ wr.heap.size ≤ g := by have := HKR.out.lt; omega
      have NM : ¬ wr.heap.size ≤ gm := by have := HMR.out.lt; omega
      refine wp_region_softX [Is (.pointer (some ⟨g, 0, none⟩)), Is (.pointer (some ⟨g, 0, none⟩)), Is (.pointer (some ⟨g, 6, none⟩)), Is (.map (some gm)), Is (.pointer (some ⟨g, 0, none⟩)), Is (.pointer (some ⟨g, 0, none⟩)), Is (.pointer (some ⟨g, 4, none⟩)), Is (.int .i64 G), Is (.int .i64 (G + 1)), Is (.tuple #[.agg #[.string y.fr, .string y.dst, .int .i64 y.num, .int .i64 y.kind, .int .i64 y.ack, .string ⟨#[]⟩, .string ⟨#[]⟩, .string ⟨#[]⟩, .int .i64 y.idx, .int .i64 0, .string ⟨#[]⟩, .int .i64 0, .slice none 0 0, .slice none 0 0], .bool false]), Is (.tuple #[.agg #[.string y.fr, .string y.dst, .int .i64 y.num, .int .i64 y.kind, .int .i64 y.ack, .string ⟨#[]⟩, .string ⟨#[]⟩, .string ⟨#[]⟩, .int .i64 y.idx, .int .i64 0, .string ⟨#[]⟩, .int .i64 0, .slice none 0 0, .slice none 0 0], .bool false]), Is (.agg #[.string y.fr, .string y.dst, .int .i64 y.num, .int .i64 y.kind, .int .i64 y.ack, .string ⟨#[]⟩, .string ⟨#[]⟩, .string ⟨#[]⟩, .int .i64 y.idx, .int .i64 0, .string ⟨#[]⟩, .int .i64 0, .slice none 0 0, .slice none 0 0]), Is (.bool false), AnyV, AnyV, Is (.bool false)] ⟨stab_is _, stab_is _, stab_is _, stab_is _, stab_is _, stab_is _, stab_is _, stab_is _, stab_is _, stab_is _, stab_is _, stab_is _, stab_is _, stab_anyv, stab_anyv, stab_is _, trivial⟩ (fun k => wr.heap.size ≤ k) ⟨stabf_is _ _, stabf_is _ _, stabf_is _ _, stabf_is _ _, stabf_is _ _, stabf_is _ _, stabf_is _ _, stabf_is _ _, stabf_is _ _, stabf_is _ _, stabf_is _ _, stabf_is _ _, stabf_is _ _, stabf_anyv _, stabf_anyv _, stabf_is _ _, trivial⟩ [false, false, false, false, false, false, false, false, false, false, false, false, false, true, true, false] (fun done vs W => (done 13 = true → ∃ b, vs 13 = .pointer (some ⟨b, 0, none⟩) ∧ wr.heap.size ≤ b ∧ Blk W b 32 (if done 14 = true then #[.string y.fr, .string y.dst, .int .i64 y.num, .int .i64 y.kind, .int .i64 y.ack, .string ⟨#[]⟩, .string ⟨#[]⟩, .string ⟨#[]⟩, .int .i64 y.idx, .int .i64 0, .string ⟨#[]⟩, .int .i64 0, .slice none 0 0, .slice none 0 0] else #[.string ⟨#[]⟩, .string ⟨#[]⟩, .int .i64 0, .int .i64 0, .int .i64 0, .string ⟨#[]⟩, .string ⟨#[]⟩, .string ⟨#[]⟩, .int .i64 0, .int .i64 0, .string ⟨#[]⟩, .int .i64 0, .slice none 0 0, .slice none 0 0])) ∧ (done 14 = true → done 13 = true)) ?_ ?_ (by kernel_rfl) (by kernel_rfl) ?_ ?_
      · intro k hk done vs v W W' h hnd hb
        have n10 : upDn done k 13 = done 13 := up_ne done (fun e => by subst e; exact absurd hk (by decide))
        have n11 : upDn done k 14 = done 14 := up_ne done (fun e => by subst e; exact absurd hk (by decide))
        have m10 : upVs vs k v 13 = vs 13 := upv_ne vs v (fun e => by subst e; exact absurd hk (by decide))
        rw [n10, n11, m10]
        exact ⟨fun q => (h.1 q).elim fun b hh => ⟨b, hh.1, hh.2.1, hh.2.2.below hb hh.2.2.lt⟩, h.2⟩
      · exact ⟨fun h => (by cases h), fun h => (by cases h)⟩
      · refine ⟨?_, ?_, ?_, ?_, ?_, ?_, ?_, ?_, ?_, ?_, ?_, ?_, ?_, ?_, ?_, ?_, trivial⟩
        all_goals intro done vs ac W1 hdep hnd hB hR hX hE
        all_goals try simp only [Nat.zero_add, Nat.reduceAdd] at hnd ⊢
        all_goals have ec : ∀ v : Value, ac.eval (.const v) = v := fun _ => rfl
        all_goals try simp [Region.binds] at hdep
        · have e0 : ac.eval (.tmp 0) = .pointer (some ⟨g, 0, none⟩) := (hE 0 (by simp)).trans (by simp [evF, Act.eval])
          exact soft_value (.pointer (some ⟨g, 0, none⟩)) (by unfold execOp; simp only [e0, ec]; rfl) rfl
        · have d0 : vs 0 = .pointer (some ⟨g, 0, none⟩) := hR 0 (by simp [hdep])
          have e71 : ac.eval (.tmp 71) = .pointer (some ⟨g, 0, none⟩) := (hE 71 (by simp)).trans (by simp [evF, hdep, d0])
          exact soft_value (.pointer (some ⟨g, 0, none⟩)) (by unfold execOp; simp only [e71]; go_simp) rfl
        · have d1 : vs 1 = .pointer (some ⟨g, 0, none⟩) := hR 1 (by simp [hdep])
          have e72 : ac.eval (.tmp 72) = .pointer (some ⟨g, 0, none⟩) := (hE 72 (by simp)).trans (by simp [evF, hdep, d1])
          exact soft_value (.pointer (some ⟨g, 6, none⟩)) (by unfold execOp; simp only [e72]; kernel_rfl) rfl
        · have d2 : vs 2 = .pointer (some ⟨g, 6, none⟩) := hR 2 (by simp [hdep])
          have e73 : ac.eval (.tmp 73) = .pointer (some ⟨g, 6, none⟩) := (hE 73 (by simp)).trans (by simp [evF, hdep, d2])
          have hc6 : W1.cell? ⟨g, 6, none⟩ = some (.map (some gm)) := (HKR.out.fr hB NG).cell 6
          exact soft_value (.map (some gm)) (by unfold execOp; simp only [e73]; go_simp) rfl
        · have e0 : ac.eval (.tmp 0) = .pointer (some ⟨g, 0, none⟩) := (hE 0 (by simp)).trans (by simp [evF, Act.eval])
          exact soft_value (.pointer (some ⟨g, 0, none⟩)) (by unfold execOp; simp only [e0, ec]; rfl) rfl
        · have d4 : vs 4 = .pointer (some ⟨g, 0, none⟩) := hR 4 (by simp [hdep])
          have e75 : ac.eval (.tmp 75) = .pointer (some ⟨g, 0, none⟩) := (hE 75 (by simp)).trans (by simp [evF, hdep, d4])
          exact soft_value (.pointer (some ⟨g, 0, none⟩)) (by unfold execOp; simp only [e75]; go_simp) rfl
        · have d5 : vs 5 = .pointer (some ⟨g, 0, none⟩) := hR 5 (by simp [hdep])
          have e76 : ac.eval (.tmp 76) = .pointer (some ⟨g, 0, none⟩) := (hE 76 (by simp)).trans (by simp [evF, hdep, d5])
          exact soft_value (.pointer (some ⟨g, 4, none⟩)) (by unfold execOp; simp only [e76]; kernel_rfl) rfl
        · have d6 : vs 6 = .pointer (some ⟨g, 4, none⟩) := hR 6 (by simp [hdep])
          have e77 : ac.eval (.tmp 77) = .pointer (some ⟨g, 4, none⟩) := (hE 77 (by simp)).trans (by simp [evF, hdep, d6])
          have hc4 : W1.cell? ⟨g, 4, none⟩ = some (.int .i64 G) := (HKR.out.fr hB NG).cell 4
          exact soft_value (.int .i64 G) (by unfold execOp; simp only [e77]; go_simp) rfl
        · have d7 : vs 7 = .int .i64 G := hR 7 (by simp [hdep])
          have e78 : ac.eval (.tmp 78) = .int .i64 G := (hE 78 (by simp)).trans (by simp [evF, hdep, d7])
          exact soft_value (.int .i64 (G + 1)) (by unfold execOp; simp only [e78, ec]; go_simp) rfl
        · have d3 : vs 3 = .map (some gm) := hR 3 (by simp [hdep])
          have e74 : ac.eval (.tmp 74) = .map (some gm) := (hE 74 (by simp)).trans (by simp [evF, hdep, d3])
          have d8 : vs 8 = .int .i64 (G + 1) := hR 8 (by simp [hdep])
          have e79 : ac.eval (.tmp 79) = .int .i64 (G + 1) := (hE 79 (by simp)).trans (by simp [evF, hdep, d8])
          have hlk := ((HMR.out.fr hB NM).look (P := Try.prog) (keyInt .i64) Try.underlying88 Try.underlying3 (.agg #[.string ⟨#[]⟩, .string ⟨#[]⟩, .int .i64 0, .int .i64 0, .int .i64 0, .string ⟨#[]⟩, .string ⟨#[]⟩, .string ⟨#[]⟩, .int .i64 0, .int .i64 0, .string ⟨#[]⟩, .int .i64 0, .slice none 0 0, .slice none 0 0]) (fun u => zero_lt u) (G + 1) true)
          rw [if_pos rfl, HY.out.1, HY.out.2] at hlk
          exact wp_look2 (.tmp 74) (.tmp 79) 88 true rfl _ _ (.tuple #[.agg #[.string y.fr, .string y.dst, .int .i64 y.num, .int .i64 y.kind, .int .i64 y.ack, .string ⟨#[]⟩, .string ⟨#[]⟩, .string ⟨#[]⟩, .int .i64 y.idx, .int .i64 0, .string ⟨#[]⟩, .int .i64 0, .slice none 0 0, .slice none 0 0], .bool false]) e74 e79 hlk ⟨_, rfl, Below.refl _ _, rfl⟩
        · have d9 : vs 9 = .tuple #[.agg #[.string y.fr, .string y.dst, .int .i64 y.num, .int .i64 y.kind, .int .i64 y.ack, .string ⟨#[]⟩, .string ⟨#[]⟩, .string ⟨#[]⟩, .int .i64 y.idx, .int .i64 0, .string ⟨#[]⟩, .int .i64 0, .slice none 0 0, .slice none 0 0], .bool false] := hR 9 (by simp [hdep])
          have e80 : ac.eval (.tmp 80) = .tuple #[.agg #[.string y.fr, .string y.dst, .int .i64 y.num, .int .i64 y.kind, .int .i64 y.ack, .string ⟨#[]⟩, .string ⟨#[]⟩, .string ⟨#[]⟩, .int .i64 y.idx, .int .i64 0, .string ⟨#[]⟩, .int .i64 0, .slice none 0 0, .slice none 0 0], .bool false] := (hE 80 (by simp)).trans (by simp [evF, hdep, d9])
          exact soft_value (.tuple #[.agg #[.string y.fr, .string y.dst, .int .i64 y.num, .int .i64 y.kind, .int .i64 y.ack, .string ⟨#[]⟩, .string ⟨#[]⟩, .string ⟨#[]⟩, .int .i64 y.idx, .int .i64 0, .string ⟨#[]⟩, .int .i64 0, .slice none 0 0, .slice none 0 0], .bool false]) (by unfold execOp; simp only [e80, ec]; rfl) rfl
        · have d10 : vs 10 = .tuple #[.agg #[.string y.fr, .string y.dst, .int .i64 y.num, .int .i64 y.kind, .int .i64 y.ack, .string ⟨#[]⟩, .string ⟨#[]⟩, .string ⟨#[]⟩, .int .i64 y.idx, .int .i64 0, .string ⟨#[]⟩, .int .i64 0, .slice none 0 0, .slice none 0 0], .bool false] := hR 10 (by simp [hdep])
          have e70 : ac.eval (.tmp 70) = .tuple #[.agg #[.string y.fr, .string y.dst, .int .i64 y.num, .int .i64 y.kind, .int .i64 y.ack, .string ⟨#[]⟩, .string ⟨#[]⟩, .string ⟨#[]⟩, .int .i64 y.idx, .int .i64 0, .string ⟨#[]⟩, .int .i64 0, .slice none 0 0, .slice none 0 0], .bool false] := (hE 70 (by simp)).trans (by simp [evF, hdep, d10])
          exact soft_value (.agg #[.string y.fr, .string y.dst, .int .i64 y.num, .int .i64 y.kind, .int .i64 y.ack, .string ⟨#[]⟩, .string ⟨#[]⟩, .string ⟨#[]⟩, .int .i64 y.idx, .int .i64 0, .string ⟨#[]⟩, .int .i64 0, .slice none 0 0, .slice none 0 0]) (by unfold execOp; simp only [e70]; rfl) rfl
        · have d10 : vs 10 = .tuple #[.agg #[.string y.fr, .string y.dst, .int .i64 y.num, .int .i64 y.kind, .int .i64 y.ack, .string ⟨#[]⟩, .string ⟨#[]⟩, .string ⟨#[]⟩, .int .i64 y.idx, .int .i64 0, .string ⟨#[]⟩, .int .i64 0, .slice none 0 0, .slice none 0 0], .bool false] := hR 10 (by simp [hdep])
          have e70 : ac.eval (.tmp 70) = .tuple #[.agg #[.string y.fr, .string y.dst, .int .i64 y.num, .int .i64 y.kind, .int .i64 y.ack, .string ⟨#[]⟩, .string ⟨#[]⟩, .string ⟨#[]⟩, .int .i64 y.idx, .int .i64 0, .string ⟨#[]⟩, .int .i64 0, .slice none 0 0, .slice none 0 0], .bool false] := (hE 70 (by simp)).trans (by simp [evF, hdep, d10])
          exact soft_value (.bool false) (by unfold execOp; simp only [e70]; rfl) rfl
        · have d11 : done 14 = false := not_of hX.2 hnd
          have n11 : upDn done 13 14 = false := by rw [up_ne done (by decide)]; exact d11
          refine wp_alloc_z 32 rfl #[.string ⟨#[]⟩, .string ⟨#[]⟩, .int .i64 0, .int .i64 0, .int .i64 0, .string ⟨#[]⟩, .string ⟨#[]⟩, .string ⟨#[]⟩, .int .i64 0, .int .i64 0, .string ⟨#[]⟩, .int .i64 0, .slice none 0 0, .slice none 0 0] (by kernel_rfl) ⟨_, rfl, (Fr.refl _ _).alloc _, ⟨fun _ => ⟨W1.heap.size, by rw [upv_same], hB.size, ?_⟩, fun h => (by rw [n11] at h; cases h)⟩, trivial⟩
          simp only [n11, Bool.false_eq_true, if_false]
          exact Blk.new _ _ _
        · obtain ⟨b, hb1, hb2, hb3⟩ := hX.1 (by simp [hdep])
          have d13 : vs 13 = .pointer (some ⟨b, 0, none⟩) := hb1
          have e9 : ac.eval (.tmp 9) = .pointer (some ⟨b, 0, none⟩) := (hE 9 (by simp)).trans (by simp [evF, hdep, d13])
          have d11 : vs 11 = .agg #[.string y.fr, .string y.dst, .int .i64 y.num, .int .i64 y.kind, .int .i64 y.ack, .string ⟨#[]⟩, .string ⟨#[]⟩, .string ⟨#[]⟩, .int .i64 y.idx, .int .i64 0, .string ⟨#[]⟩, .int .i64 0, .slice none 0 0, .slice none 0 0] := hR 11 (by simp [hdep])
          have e81 : ac.eval (.tmp 81) = .agg #[.string y.fr, .string y.dst, .int .i64 y.num, .int .i64 y.kind, .int .i64 y.ack, .string ⟨#[]⟩, .string ⟨#[]⟩, .string ⟨#[]⟩, .int .i64 y.idx, .int .i64 0, .string ⟨#[]⟩, .int .i64 0, .slice none 0 0, .slice none 0 0] := (hE 81 (by simp)).trans (by simp [evF, hdep, d11])
          rw [hnd] at hb3
          simp only [Bool.false_eq_true, if_false] at hb3
          refine wp_store_row 32 (.tmp 9) (.tmp 81) rfl b #[.string y.fr, .string y.dst, .int .i64 y.num, .int .i64 y.kind, .int .i64 y.ack, .string ⟨#[]⟩, .string ⟨#[]⟩, .string ⟨#[]⟩, .int .i64 y.idx, .int .i64 0, .string ⟨#[]⟩, .int .i64 0, .slice none 0 0, .slice none 0 0] e9 e81 32 #[.string ⟨#[]⟩, .string ⟨#[]⟩, .int .i64 0, .int .i64 0, .int .i64 0, .string ⟨#[]⟩, .string ⟨#[]⟩, .string ⟨#[]⟩, .int .i64 0, .int .i64 0, .string ⟨#[]⟩, .int .i64 0, .slice none 0 0, .slice none 0 0] hb3 (by kernel_rfl) rfl (by simp [Value.oneCell']) ⟨_, rfl, (fr_row _ _ _).mono (fun k hk => by rw [hk]; exact hb2), ⟨fun _ => ⟨b, by rw [upv_ne vs _ (by decide)]; exact hb1, hb2, ?_⟩, fun _ => by rw [up_ne done (by decide)]; simp [hdep]⟩, trivial⟩
          simp only [up_same, if_true]
          exact setRow_heap W1 b _ _ _ (0, 0) hb3
        · have d12 : vs 12 = .bool false := hR 12 (by simp [hdep])
          have e82 : ac.eval (.tmp 82) = .bool false := (hE 82 (by simp)).trans (by simp [evF, hdep, d12])
          exact soft_value (.bool false) (by unfold execOp; simp only [e82, ec]; rfl) rfl
      intro done vs W hall hB hR hX
      obtain ⟨b, hb1, hb2, hb3⟩ := hX.1 (hall 13 (by simp))
      rw [hall 14 (by simp)] at hb3
      simp only [if_true] at hb3
      have r12 : vs 15 = .bool false := hR 15 (by simp)
      have HB4 := Lib.hid hb3
      have HK4 := Lib.hid (HKR.out.fr hB NG)
      have HM4 := Lib.hid (HMR.out.fr hB NM)
      simp only [fillA, Act.put, List.setIfInBounds_toArray, List.set_cons_zero, List.set_cons_succ, if_true, r12, hb1]
      clear hall hX NG NM
      have HP : Hid (TakeY s o got sure gm g m0 w (.returned (.tuple #[.slice A k c, .bool true])) W) := Lib.hid ⟨_, k, n, m', ys, rfl, HK64.out, by rw [HGG.out]; exact HK4.out, HM4.out, own_fr HOR.out hB (fun q hq e => by have := (HOR.out.lt q hq).2; omega), HYL.out, HYS.out, HMQ.out, by rw [HGG.out]; exact HEND.out, HFR.out.trans hB (fun q hq => .inr (Nat.le_trans HWS.out hq))⟩
      clear hB hR
      go_wp2_with fail
      go_ret2
      exact HP.out
    | some y =>
      have hin : got < G + 1 ∧ G + 1 ≤ got + 64 := by
        refine HMB.out (G + 1) (fun h0 => ?_)
        have h1 := HMQ.out (G + 1)
        rw [hq] at h1
        split at h1
        · cases h1
        · rw [h0] at h1; cases h1
      have hmy : m0 (G + 1) = some y := by
        have h1 := HMQ.out (G + 1)
        rw [hq, if_neg (by have := HGG.out; omega)] at h1
        exact h1.symm
      have HIN := Lib.hid hin
      have HMY := Lib.hid hmy
      have HY : Hid (((m' (G + 1)).map fun x : Lr => Value.agg #[.string x.fr, .string x.dst, .int .i64 x.num, .int .i64 x.kind, .int .i64 x.ack, .string ⟨#[]⟩, .string ⟨#[]⟩, .string ⟨#[]⟩, .int .i64 x.idx, .int .i64 0, .string ⟨#[]⟩, .int .i64 0, .slice none 0 0, .slice none 0 0]).getD (.agg #[.string ⟨#[]⟩, .string ⟨#[]⟩, .int .i64 0, .int .i64 0, .int .i64 0, .string ⟨#[]⟩, .string ⟨#[]⟩, .string ⟨#[]⟩, .int .i64 0, .int .i64 0, .string ⟨#[]⟩, .int .i64 0, .slice none 0 0, .slice none 0 0]) = .agg #[.string y.fr, .string y.dst, .int .i64 y.num, .int .i64 y.kind, .int .i64 y.ack, .string ⟨#[]⟩, .string ⟨#[]⟩, .string ⟨#[]⟩, .int .i64 y.idx, .int .i64 0, .string ⟨#[]⟩, .int .i64 0, .slice none 0 0, .slice none 0 0] ∧ (m' (G + 1)).isSome = true) := Lib.hid (by rw [hq]; exact ⟨rfl, rfl⟩)
      clear hq hin hmy
      have e0 := HKR.out.cell 0; have e1 := HKR.out.cell 1; have e2 := HKR.out.cell 2; have e3 := HKR.out.cell 3; have e4 := HKR.out.cell 4; have e5 := HKR.out.cell 5; have e6 := HKR.out.cell 6; have e7 := HKR.out.cell 7
      simp only [List.getElem?_toArray, List.getElem?_cons_zero, List.getElem?_cons_succ] at e0 e1 e2 e3 e4 e5 e6 e7
      go_wp2_with fail
      try simp only [Act.put]
      clear e0 e1 e2 e3 e4 e5 e6 e7
      have NG : ¬ wr.heap.size ≤ g := by have := HKR.out.lt; omega
      have NM : ¬ wr.heap.size ≤ gm := by have := HMR.out.lt; omega
      refine wp_region_softX [Is (.pointer (some ⟨g, 0, none⟩)), Is (.pointer (some ⟨g, 0, none⟩)), Is (.pointer (some ⟨g, 6, none⟩)), Is (.map (some gm)), Is (.pointer (some ⟨g, 0, none⟩)), Is (.pointer (some ⟨g, 0, none⟩)), Is (.pointer (some ⟨g, 4, none⟩)), Is (.int .i64 G), Is (.int .i64 (G + 1)), Is (.tuple #[.agg #[.string y.fr, .string y.dst, .int .i64 y.num, .int .i64 y.kind, .int .i64 y.ack, .string ⟨#[]⟩, .string ⟨#[]⟩, .string ⟨#[]⟩, .int .i64 y.idx, .int .i64 0, .string ⟨#[]⟩, .int .i64 0, .slice none 0 0, .slice none 0 0], .bool true]), Is (.tuple #[.agg #[.string y.fr, .string y.dst, .int .i64 y.num, .int .i64 y.kind, .int .i64 y.ack, .string ⟨#[]⟩, .string ⟨#[]⟩, .string ⟨#[]⟩, .int .i64 y.idx, .int .i64 0, .string ⟨#[]⟩, .int .i64 0, .slice none 0 0, .slice none 0 0], .bool true]), Is (.agg #[.string y.fr, .string y.dst, .int .i64 y.num, .int .i64 y.kind, .int .i64 y.ack, .string ⟨#[]⟩, .string ⟨#[]⟩, .string ⟨#[]⟩, .int .i64 y.idx, .int .i64 0, .string ⟨#[]⟩, .int .i64 0, .slice none 0 0, .slice none 0 0]), Is (.bool true), AnyV, AnyV, Is (.bool true)] ⟨stab_is _, stab_is _, stab_is _, stab_is _, stab_is _, stab_is _, stab_is _, stab_is _, stab_is _, stab_is _, stab_is _, stab_is _, stab_is _, stab_anyv, stab_anyv, stab_is _, trivial⟩ (fun k => wr.heap.size ≤ k) ⟨stabf_is _ _, stabf_is _ _, stabf_is _ _, stabf_is _ _, stabf_is _ _, stabf_is _ _, stabf_is _ _, stabf_is _ _, stabf_is _ _, stabf_is _ _, stabf_is _ _, stabf_is _ _, stabf_is _ _, stabf_anyv _, stabf_anyv _, stabf_is _ _, trivial⟩ [false, false, false, false, false, false, false, false, false, false, false, false, false, true, true, false] (fun done vs W => (done 13 = true → ∃ b, vs 13 = .pointer (some ⟨b, 0, none⟩) ∧ wr.heap.size ≤ b ∧ Blk W b 32 (if done 14 = true then #[.string y.fr, .string y.dst, .int .i64 y.num, .int .i64 y.kind, .int .i64 y.ack, .string ⟨#[]⟩, .string ⟨#[]⟩, .string ⟨#[]⟩, .int .i64 y.idx, .int .i64 0, .string ⟨#[]⟩, .int .i64 0, .slice none 0 0, .slice none 0 0] else #[.string ⟨#[]⟩, .string ⟨#[]⟩, .int .i64 0, .int .i64 0, .int .i64 0, .string ⟨#[]⟩, .string ⟨#[]⟩, .string ⟨#[]⟩, .int .i64 0, .int .i64 0, .string ⟨#[]⟩, .int .i64 0, .slice none 0 0, .slice none 0 0])) ∧ (done 14 = true → done 13 = true)) ?_ ?_ (by kernel_rfl) (by kernel_rfl) ?_ ?_
      · intro k hk done vs v W W' h hnd hb
        have n10 : upDn done k 13 = done 13 := up_ne done (fun e => by subst e; exact absurd hk (by decide))
        have n11 : upDn done k 14 = done 14 := up_ne done (fun e => by subst e; exact absurd hk (by decide))
        have m10 : upVs vs k v 13 = vs 13 := upv_ne vs v (fun e => by subst e; exact absurd hk (by decide))
        rw [n10, n11, m10]
        exact ⟨fun q => (h.1 q).elim fun b hh => ⟨b, hh.1, hh.2.1, hh.2.2.below hb hh.2.2.lt⟩, h.2⟩
      · exact ⟨fun h => (by cases h), fun h => (by cases h)⟩
      · refine ⟨?_, ?_, ?_, ?_, ?_, ?_, ?_, ?_, ?_, ?_, ?_, ?_, ?_, ?_, ?_, ?_, trivial⟩
        all_goals intro done vs ac W1 hdep hnd hB hR hX hE
        all_goals try simp only [Nat.zero_add, Nat.reduceAdd] at hnd ⊢
        all_goals have ec : ∀ v : Value, ac.eval (.const v) = v := fun _ => rfl
        all_goals try simp [Region.binds] at hdep
        · have e0 : ac.eval (.tmp 0) = .pointer (some ⟨g, 0, none⟩) := (hE 0 (by simp)).trans (by simp [evF, Act.eval])
          exact soft_value (.pointer (some ⟨g, 0, none⟩)) (by unfold execOp; simp only [e0, ec]; rfl) rfl
        · have d0 : vs 0 = .pointer (some ⟨g, 0, none⟩) := hR 0 (by simp [hdep])
          have e71 : ac.eval (.tmp 71) = .pointer (some ⟨g, 0, none⟩) := (hE 71 (by simp)).trans (by simp [evF, hdep, d0])
          exact soft_value (.pointer (some ⟨g, 0, none⟩)) (by unfold execOp; simp only [e71]; go_simp) rfl
        · have d1 : vs 1 = .pointer (some ⟨g, 0, none⟩) := hR 1 (by simp [hdep])
          have e72 : ac.eval (.tmp 72) = .pointer (some ⟨g, 0, none⟩) := (hE 72 (by simp)).trans (by simp [evF, hdep, d1])
          exact soft_value (.pointer (some ⟨g, 6, none⟩)) (by unfold execOp; simp only [e72]; kernel_rfl) rfl
        · have d2 : vs 2 = .pointer (some ⟨g, 6, none⟩) := hR 2 (by simp [hdep])
          have e73 : ac.eval (.tmp 73) = .pointer (some ⟨g, 6, none⟩) := (hE 73 (by simp)).trans (by simp [evF, hdep, d2])
          have hc6 : W1.cell? ⟨g, 6, none⟩ = some (.map (some gm)) := (HKR.out.fr hB NG).cell 6
          exact soft_value (.map (some gm)) (by unfold execOp; simp only [e73]; go_simp) rfl
        · have e0 : ac.eval (.tmp 0) = .pointer (some ⟨g, 0, none⟩) := (hE 0 (by simp)).trans (by simp [evF, Act.eval])
          exact soft_value (.pointer (some ⟨g, 0, none⟩)) (by unfold execOp; simp only [e0, ec]; rfl) rfl
        · have d4 : vs 4 = .pointer (some ⟨g, 0, none⟩) := hR 4 (by simp [hdep])
          have e75 : ac.eval (.tmp 75) = .pointer (some ⟨g, 0, none⟩) := (hE 75 (by simp)).trans (by simp [evF, hdep, d4])
          exact soft_value (.pointer (some ⟨g, 0, none⟩)) (by unfold execOp; simp only [e75]; go_simp) rfl
        · have d5 : vs 5 = .pointer (some ⟨g, 0, none⟩) := hR 5 (by simp [hdep])
          have e76 : ac.eval (.tmp 76) = .pointer (some ⟨g, 0, none⟩) := (hE 76 (by simp)).trans (by simp [evF, hdep, d5])
          exact soft_value (.pointer (some ⟨g, 4, none⟩)) (by unfold execOp; simp only [e76]; kernel_rfl) rfl
        · have d6 : vs 6 = .pointer (some ⟨g, 4, none⟩) := hR 6 (by simp [hdep])
          have e77 : ac.eval (.tmp 77) = .pointer (some ⟨g, 4, none⟩) := (hE 77 (by simp)).trans (by simp [evF, hdep, d6])
          have hc4 : W1.cell? ⟨g, 4, none⟩ = some (.int .i64 G) := (HKR.out.fr hB NG).cell 4
          exact soft_value (.int .i64 G) (by unfold execOp; simp only [e77]; go_simp) rfl
        · have d7 : vs 7 = .int .i64 G := hR 7 (by simp [hdep])
          have e78 : ac.eval (.tmp 78) = .int .i64 G := (hE 78 (by simp)).trans (by simp [evF, hdep, d7])
          exact soft_value (.int .i64 (G + 1)) (by unfold execOp; simp only [e78, ec]; go_simp) rfl
        · have d3 : vs 3 = .map (some gm) := hR 3 (by simp [hdep])
          have e74 : ac.eval (.tmp 74) = .map (some gm) := (hE 74 (by simp)).trans (by simp [evF, hdep, d3])
          have d8 : vs 8 = .int .i64 (G + 1) := hR 8 (by simp [hdep])
          have e79 : ac.eval (.tmp 79) = .int .i64 (G + 1) := (hE 79 (by simp)).trans (by simp [evF, hdep, d8])
          have hlk := ((HMR.out.fr hB NM).look (P := Try.prog) (keyInt .i64) Try.underlying88 Try.underlying3 (.agg #[.string ⟨#[]⟩, .string ⟨#[]⟩, .int .i64 0, .int .i64 0, .int .i64 0, .string ⟨#[]⟩, .string ⟨#[]⟩, .string ⟨#[]⟩, .int .i64 0, .int .i64 0, .string ⟨#[]⟩, .int .i64 0, .slice none 0 0, .slice none 0 0]) (fun u => zero_lt u) (G + 1) true)
          rw [if_pos rfl, HY.out.1, HY.out.2] at hlk
          exact wp_look2 (.tmp 74) (.tmp 79) 88 true rfl _ _ (.tuple #[.agg #[.string y.fr, .string y.dst, .int .i64 y.num, .int .i64 y.kind, .int .i64 y.ack, .string ⟨#[]⟩, .string ⟨#[]⟩, .string ⟨#[]⟩, .int .i64 y.idx, .int .i64 0, .string ⟨#[]⟩, .int .i64 0, .slice none 0 0, .slice none 0 0], .bool true]) e74 e79 hlk ⟨_, rfl, Below.refl _ _, rfl⟩
        · have d9 : vs 9 = .tuple #[.agg #[.string y.fr, .string y.dst, .int .i64 y.num, .int .i64 y.kind, .int .i64 y.ack, .string ⟨#[]⟩, .string ⟨#[]⟩, .string ⟨#[]⟩, .int .i64 y.idx, .int .i64 0, .string ⟨#[]⟩, .int .i64 0, .slice none 0 0, .slice none 0 0], .bool true] := hR 9 (by simp [hdep])
          have e80 : ac.eval (.tmp 80) = .tuple #[.agg #[.string y.fr, .string y.dst, .int .i64 y.num, .int .i64 y.kind, .int .i64 y.ack, .string ⟨#[]⟩, .string ⟨#[]⟩, .string ⟨#[]⟩, .int .i64 y.idx, .int .i64 0, .string ⟨#[]⟩, .int .i64 0, .slice none 0 0, .slice none 0 0], .bool true] := (hE 80 (by simp)).trans (by simp [evF, hdep, d9])
          exact soft_value (.tuple #[.agg #[.string y.fr, .string y.dst, .int .i64 y.num, .int .i64 y.kind, .int .i64 y.ack, .string ⟨#[]⟩, .string ⟨#[]⟩, .string ⟨#[]⟩, .int .i64 y.idx, .int .i64 0, .string ⟨#[]⟩, .int .i64 0, .slice none 0 0, .slice none 0 0], .bool true]) (by unfold execOp; simp only [e80, ec]; rfl) rfl
        · have d10 : vs 10 = .tuple #[.agg #[.string y.fr, .string y.dst, .int .i64 y.num, .int .i64 y.kind, .int .i64 y.ack, .string ⟨#[]⟩, .string ⟨#[]⟩, .string ⟨#[]⟩, .int .i64 y.idx, .int .i64 0, .string ⟨#[]⟩, .int .i64 0, .slice none 0 0, .slice none 0 0], .bool true] := hR 10 (by simp [hdep])
          have e70 : ac.eval (.tmp 70) = .tuple #[.agg #[.string y.fr, .string y.dst, .int .i64 y.num, .int .i64 y.kind, .int .i64 y.ack, .string ⟨#[]⟩, .string ⟨#[]⟩, .string ⟨#[]⟩, .int .i64 y.idx, .int .i64 0, .string ⟨#[]⟩, .int .i64 0, .slice none 0 0, .slice none 0 0], .bool true] := (hE 70 (by simp)).trans (by simp [evF, hdep, d10])
          exact soft_value (.agg #[.string y.fr, .string y.dst, .int .i64 y.num, .int .i64 y.kind, .int .i64 y.ack, .string ⟨#[]⟩, .string ⟨#[]⟩, .string ⟨#[]⟩, .int .i64 y.idx, .int .i64 0, .string ⟨#[]⟩, .int .i64 0, .slice none 0 0, .slice none 0 0]) (by unfold execOp; simp only [e70]; rfl) rfl
        · have d10 : vs 10 = .tuple #[.agg #[.string y.fr, .string y.dst, .int .i64 y.num, .int .i64 y.kind, .int .i64 y.ack, .string ⟨#[]⟩, .string ⟨#[]⟩, .string ⟨#[]⟩, .int .i64 y.idx, .int .i64 0, .string ⟨#[]⟩, .int .i64 0, .slice none 0 0, .slice none 0 0], .bool true] := hR 10 (by simp [hdep])
          have e70 : ac.eval (.tmp 70) = .tuple #[.agg #[.string y.fr, .string y.dst, .int .i64 y.num, .int .i64 y.kind, .int .i64 y.ack, .string ⟨#[]⟩, .string ⟨#[]⟩, .string ⟨#[]⟩, .int .i64 y.idx, .int .i64 0, .string ⟨#[]⟩, .int .i64 0, .slice none 0 0, .slice none 0 0], .bool true] := (hE 70 (by simp)).trans (by simp [evF, hdep, d10])
          exact soft_value (.bool true) (by unfold execOp; simp only [e70]; rfl) rfl
        · have d11 : done 14 = false := not_of hX.2 hnd
          have n11 : upDn done 13 14 = false := by rw [up_ne done (by decide)]; exact d11
          refine wp_alloc_z 32 rfl #[.string ⟨#[]⟩, .string ⟨#[]⟩, .int .i64 0, .int .i64 0, .int .i64 0, .string ⟨#[]⟩, .string ⟨#[]⟩, .string ⟨#[]⟩, .int .i64 0, .int .i64 0, .string ⟨#[]⟩, .int .i64 0, .slice none 0 0, .slice none 0 0] (by kernel_rfl) ⟨_, rfl, (Fr.refl _ _).alloc _, ⟨fun _ => ⟨W1.heap.size, by rw [upv_same], hB.size, ?_⟩, fun h => (by rw [n11] at h; cases h)⟩, trivial⟩
          simp only [n11, Bool.false_eq_true, if_false]
          exact Blk.new _ _ _
        · obtain ⟨b, hb1, hb2, hb3⟩ := hX.1 (by simp [hdep])
          have d13 : vs 13 = .pointer (some ⟨b, 0, none⟩) := hb1
          have e9 : ac.eval (.tmp 9) = .pointer (some ⟨b, 0, none⟩) := (hE 9 (by simp)).trans (by simp [evF, hdep, d13])
          have d11 : vs 11 = .agg #[.string y.fr, .string y.dst, .int .i64 y.num, .int .i64 y.kind, .int .i64 y.ack, .string ⟨#[]⟩, .string ⟨#[]⟩, .string ⟨#[]⟩, .int .i64 y.idx, .int .i64 0, .string ⟨#[]⟩, .int .i64 0, .slice none 0 0, .slice none 0 0] := hR 11 (by simp [hdep])
          have e81 : ac.eval (.tmp 81) = .agg #[.string y.fr, .string y.dst, .int .i64 y.num, .int .i64 y.kind, .int .i64 y.ack, .string ⟨#[]⟩, .string ⟨#[]⟩, .string ⟨#[]⟩, .int .i64 y.idx, .int .i64 0, .string ⟨#[]⟩, .int .i64 0, .slice none 0 0, .slice none 0 0] := (hE 81 (by simp)).trans (by simp [evF, hdep, d11])
          rw [hnd] at hb3
          simp only [Bool.false_eq_true, if_false] at hb3
          refine wp_store_row 32 (.tmp 9) (.tmp 81) rfl b #[.string y.fr, .string y.dst, .int .i64 y.num, .int .i64 y.kind, .int .i64 y.ack, .string ⟨#[]⟩, .string ⟨#[]⟩, .string ⟨#[]⟩, .int .i64 y.idx, .int .i64 0, .string ⟨#[]⟩, .int .i64 0, .slice none 0 0, .slice none 0 0] e9 e81 32 #[.string ⟨#[]⟩, .string ⟨#[]⟩, .int .i64 0, .int .i64 0, .int .i64 0, .string ⟨#[]⟩, .string ⟨#[]⟩, .string ⟨#[]⟩, .int .i64 0, .int .i64 0, .string ⟨#[]⟩, .int .i64 0, .slice none 0 0, .slice none 0 0] hb3 (by kernel_rfl) rfl (by simp [Value.oneCell']) ⟨_, rfl, (fr_row _ _ _).mono (fun k hk => by rw [hk]; exact hb2), ⟨fun _ => ⟨b, by rw [upv_ne vs _ (by decide)]; exact hb1, hb2, ?_⟩, fun _ => by rw [up_ne done (by decide)]; simp [hdep]⟩, trivial⟩
          simp only [up_same, if_true]
          exact setRow_heap W1 b _ _ _ (0, 0) hb3
        · have d12 : vs 12 = .bool true := hR 12 (by simp [hdep])
          have e82 : ac.eval (.tmp 82) = .bool true := (hE 82 (by simp)).trans (by simp [evF, hdep, d12])
          exact soft_value (.bool true) (by unfold execOp; simp only [e82, ec]; rfl) rfl
      intro done vs W hall hB hR hX
      obtain ⟨b, hb1, hb2, hb3⟩ := hX.1 (hall 13 (by simp))
      rw [hall 14 (by simp)] at hb3
      simp only [if_true] at hb3
      have r12 : vs 15 = .bool true := hR 15 (by simp)
      have HB4 := Lib.hid hb3
      have HK4 := Lib.hid (HKR.out.fr hB NG)
      have HM4 := Lib.hid (HMR.out.fr hB NM)
      simp only [fillA, Act.put, List.setIfInBounds_toArray, List.set_cons_zero, List.set_cons_succ, if_true, r12, hb1]
      clear hall hX NG NM
      have HF4 := Lib.hid (HFR.out.trans hB (fun q hq => .inr (Nat.le_trans HWS.out hq)))
      have HO4 := Lib.hid (own_fr HOR.out hB (fun q hq e => by have := (HOR.out.lt q hq).2; omega))
      have HBB := Lib.hid hb2
      have HGM4 : Hid (gm < b) := Lib.hid (by have := HMR.out.lt; omega)
      have HG4 : Hid (g < b) := Lib.hid (by have := HKR.out.lt; omega)
      clear hB hR HKR HMR HFR HOR hb2
      have e0 := HK4.out.cell 0; have e1 := HK4.out.cell 1; have e2 := HK4.out.cell 2; have e3 := HK4.out.cell 3; have e4 := HK4.out.cell 4; have e5 := HK4.out.cell 5; have e6 := HK4.out.cell 6; have e7 := HK4.out.cell 7
      simp only [List.getElem?_toArray, List.getElem?_cons_zero, List.getElem?_cons_succ] at e0 e1 e2 e3 e4 e5 e6 e7
      go_wp2_with fail
      try simp only [Act.put]
      clear e0 e1 e2 e3 e4 e5 e6 e7
      refine wp_region_soft_last [Is (.pointer (some ⟨g, 0, none⟩)), Is (.pointer (some ⟨g, 0, none⟩)), Is (.pointer (some ⟨g, 6, none⟩)), Is (.map (some gm)), Is (.pointer (some ⟨g, 0, none⟩)), Is (.pointer (some ⟨g, 0, none⟩)), Is (.pointer (some ⟨g, 4, none⟩)), Is (.int .i64 G), Is (.int .i64 (G + 1))] ⟨stab_is _, stab_is _, stab_is _, stab_is _, stab_is _, stab_is _, stab_is _, stab_is _, stab_is _, trivial⟩ (by kernel_rfl) (by kernel_rfl) (by kernel_rfl) (Nat.zero_lt_succ _) ?_
      refine ⟨?_, ?_, ?_, ?_, ?_, ?_, ?_, ?_, ?_, ?_⟩
      all_goals intro done vs ac W1 hdep hB hR hE
      all_goals have ec : ∀ v : Value, ac.eval (.const v) = v := fun _ => rfl
      all_goals try simp [Region.binds] at hdep
      · have e0 : ac.eval (.tmp 0) = .pointer (some ⟨g, 0, none⟩) := (hE 0 (by simp)).trans (by simp [evF, Act.eval])
        exact soft_value (.pointer (some ⟨g, 0, none⟩)) (by unfold execOp; simp only [e0, ec]; rfl) rfl
      · have d0 : vs 0 = .pointer (some ⟨g, 0, none⟩) := hR 0 (by simp [hdep])
        have e84 : ac.eval (.tmp 84) = .pointer (some ⟨g, 0, none⟩) := (hE 84 (by simp)).trans (by simp [evF, hdep, d0])
        exact soft_value (.pointer (some ⟨g, 0, none⟩)) (by unfold execOp; simp only [e84]; go_simp) rfl
      · have d1 : vs 1 = .pointer (some ⟨g, 0, none⟩) := hR 1 (by simp [hdep])
        have e85 : ac.eval (.tmp 85) = .pointer (some ⟨g, 0, none⟩) := (hE 85 (by simp)).trans (by simp [evF, hdep, d1])
        exact soft_value (.pointer (some ⟨g, 6, none⟩)) (by unfold execOp; simp only [e85]; kernel_rfl) rfl
      · have d2 : vs 2 = .pointer (some ⟨g, 6, none⟩) := hR 2 (by simp [hdep])
        have e86 : ac.eval (.tmp 86) = .pointer (some ⟨g, 6, none⟩) := (hE 86 (by simp)).trans (by simp [evF, hdep, d2])
        have hc6 : W1.cell? ⟨g, 6, none⟩ = some (.map (some gm)) := (HK4.out.below hB HK4.out.lt).cell 6
        exact soft_value (.map (some gm)) (by unfold execOp; simp only [e86]; go_simp) rfl
      · have e0 : ac.eval (.tmp 0) = .pointer (some ⟨g, 0, none⟩) := (hE 0 (by simp)).trans (by simp [evF, Act.eval])
        exact soft_value (.pointer (some ⟨g, 0, none⟩)) (by unfold execOp; simp only [e0, ec]; rfl) rfl
      · have d4 : vs 4 = .pointer (some ⟨g, 0, none⟩) := hR 4 (by simp [hdep])
        have e88 : ac.eval (.tmp 88) = .pointer (some ⟨g, 0, none⟩) := (hE 88 (by simp)).trans (by simp [evF, hdep, d4])
        exact soft_value (.pointer (some ⟨g, 0, none⟩)) (by unfold execOp; simp only [e88]; go_simp) rfl
      · have d5 : vs 5 = .pointer (some ⟨g, 0, none⟩) := hR 5 (by simp [hdep])
        have e89 : ac.eval (.tmp 89) = .pointer (some ⟨g, 0, none⟩) := (hE 89 (by simp)).trans (by simp [evF, hdep, d5])
        exact soft_value (.pointer (some ⟨g, 4, none⟩)) (by unfold execOp; simp only [e89]; kernel_rfl) rfl
      · have d6 : vs 6 = .pointer (some ⟨g, 4, none⟩) := hR 6 (by simp [hdep])
        have e90 : ac.eval (.tmp 90) = .pointer (some ⟨g, 4, none⟩) := (hE 90 (by simp)).trans (by simp [evF, hdep, d6])
        have hc4 : W1.cell? ⟨g, 4, none⟩ = some (.int .i64 G) := (HK4.out.below hB HK4.out.lt).cell 4
        exact soft_value (.int .i64 G) (by unfold execOp; simp only [e90]; go_simp) rfl
      · have d7 : vs 7 = .int .i64 G := hR 7 (by simp [hdep])
        have e91 : ac.eval (.tmp 91) = .int .i64 G := (hE 91 (by simp)).trans (by simp [evF, hdep, d7])
        exact soft_value (.int .i64 (G + 1)) (by unfold execOp; simp only [e91, ec]; go_simp) rfl
      have hall := hdep
      have d3 : vs 3 = .map (some gm) := hR 3 (by omega)
      have e87 : ac.eval (.tmp 87) = .map (some gm) := (hE 87 (by simp)).trans (by simp [evF, hall 3 (by omega), d3])
      have d8 : vs 8 = .int .i64 (G + 1) := hR 8 (by omega)
      have e92 : ac.eval (.tmp 92) = .int .i64 (G + 1) := (hE 92 (by simp)).trans (by simp [evF, hall 8 (by omega), d8])
      obtain ⟨W6, hdel, hm6, hg6, hs6⟩ := (HM4.out.below hB HM4.out.lt).del (P := Try.prog) (keyInt .i64) Try.underlying88 Try.underlying3 (G + 1) 0
      refine wp_del3 (.tmp 87) (.tmp 92) 88 3 rfl _ _ e87 e92 hdel ⟨.tuple #[], rfl, ?_⟩
      have HK6 := Lib.hid ((HK4.out.below hB HK4.out.lt).grown hg6 (fun e => HNGR.out (by injection e with e; exact e.symm)))
      have HB6 := Lib.hid ((HB4.out.below hB HB4.out.lt).grown hg6 (fun e => by injection e with e; have := HGM4.out; omega))
      have HO6 := Lib.hid (own_fr (own_kept_below HO4.out hB) ((Fr.refl (fun k => k = gm) _).grown hg6 (fun k hk => by injection hk with hk; exact .inl hk.symm)) (fun q hq e => (HM4.out.below hB HM4.out.lt).ne_own (own_kept_below HO4.out hB) (by rw [hq, e])))
      have HM6 := Lib.hid hm6
      have HF6 : Hid (Fr (fun j => j = g ∨ j = gm) w W6) := Lib.hid ((HF4.out.on hB).grown hg6 (fun k hk => by injection hk with hk; exact .inl (.inr hk.symm)))
      simp only [fillA, Act.put, List.setIfInBounds_toArray, List.set_cons_zero, List.set_cons_succ, if_true]
      clear hdel hm6 hg6 hs6 hE hR hB HK4 HB4 HO4 HM4 HF4 hall hdep
      have e0 := HK6.out.cell 0; have e1 := HK6.out.cell 1; have e2 := HK6.out.cell 2; have e3 := HK6.out.cell 3; have e4 := HK6.out.cell 4; have e5 := HK6.out.cell 5; have e6 := HK6.out.cell 6; have e7 := HK6.out.cell 7
      simp only [List.getElem?_toArray, List.getElem?_cons_zero, List.getElem?_cons_succ] at e0 e1 e2 e3 e4 e5 e6 e7
      have f4 := HK6.out.frozen 4
      go_upto_region 20 with (fail)
      have HK7 : Hid (Blk (W6.setCell ⟨g, 4, none⟩ (.int .i64 (G + 1))) g 90 #[.string s, .string o, .slice none 0 0, .int .i64 0, .int .i64 (G + 1), .int .i64 sure, .map (some gm), .bool true]) := Lib.hid (HK6.out.set_ 4 (.int .i64 (G + 1)))
      have HB7 : Hid (Blk (W6.setCell ⟨g, 4, none⟩ (.int .i64 (G + 1))) b 32 #[.string y.fr, .string y.dst, .int .i64 y.num, .int .i64 y.kind, .int .i64 y.ack, .string ⟨#[]⟩, .string ⟨#[]⟩, .string ⟨#[]⟩, .int .i64 y.idx, .int .i64 0, .string ⟨#[]⟩, .int .i64 0, .slice none 0 0, .slice none 0 0]) := Lib.hid (HB6.out.far (p := ⟨g, 4, none⟩) (by have := HG4.out; simp; omega) _)
      have HFS : Hid (Fr (fun k => k = g) W6 (W6.setCell ⟨g, 4, none⟩ (.int .i64 (G + 1)))) := Lib.hid ((show Fr (fun k => k = g) W6 W6 from Fr.refl _ _).setCell (p := ⟨g, 4, none⟩) (.inl rfl) _)
      have HM7 := Lib.hid (HM6.out.fr HFS.out HNGR.out)
      have HO7 := Lib.hid (own_set HO6.out HK6.out 4 (.int .i64 (G + 1)))
      have HF7 := Lib.hid (HF6.out.setCell (p := ⟨g, 4, none⟩) (.inl (.inl rfl)) (.int .i64 (G + 1)))
      obtain ⟨w2, hw2⟩ : ∃ W, W6.setCell ⟨g, 4, none⟩ (.int .i64 (G + 1)) = W := ⟨_, rfl⟩
      rw [hw2] at HK7 HB7 HM7 HO7 HF7 ⊢
      clear hw2 HFS HK6 HB6 HO6 HM6 HF6 e0 e1 e2 e3 e4 e5 e6 e7 f4
      have hq0 : 0 < 14 := by omega
      have hq3 : k + 1 ≤ maxLen := by have := HK64.out; unfold maxLen; omega
      have hq4 : (k + 1) * 192 ≤ 140737488355328 := by have := HK64.out; omega
      have hq5 := lt_one y
      have HO8 := Lib.hid (HO7.out.alloc (.cells #[.string y.fr, .string y.dst, .int .i64 y.num, .int .i64 y.kind, .int .i64 y.ack, .string ⟨#[]⟩, .string ⟨#[]⟩, .string ⟨#[]⟩, .int .i64 y.idx, .int .i64 0, .string ⟨#[]⟩, .int .i64 0, .slice none 0 0, .slice none 0 0] 32))
      have HM8 := Lib.hid (HM7.out.alloc (.cells #[.string y.fr, .string y.dst, .int .i64 y.num, .int .i64 y.kind, .int .i64 y.ack, .string ⟨#[]⟩, .string ⟨#[]⟩, .string ⟨#[]⟩, .int .i64 y.idx, .int .i64 0, .string ⟨#[]⟩, .int .i64 0, .slice none 0 0, .slice none 0 0] 32))
      have HK8 := Lib.hid (HK7.out.alloc (.cells #[.string y.fr, .string y.dst, .int .i64 y.num, .int .i64 y.kind, .int .i64 y.ack, .string ⟨#[]⟩, .string ⟨#[]⟩, .string ⟨#[]⟩, .int .i64 y.idx, .int .i64 0, .string ⟨#[]⟩, .int .i64 0, .slice none 0 0, .slice none 0 0] 32))
      have HF8 := Lib.hid (HF7.out.alloc (.cells #[.string y.fr, .string y.dst, .int .i64 y.num, .int .i64 y.kind, .int .i64 y.ack, .string ⟨#[]⟩, .string ⟨#[]⟩, .string ⟨#[]⟩, .int .i64 y.idx, .int .i64 0, .string ⟨#[]⟩, .int .i64 0, .slice none 0 0, .slice none 0 0] 32))
      have HSX : Hid (w.heap.size ≤ (w2.alloc (.cells #[.string y.fr, .string y.dst, .int .i64 y.num, .int .i64 y.kind, .int .i64 y.ack, .string ⟨#[]⟩, .string ⟨#[]⟩, .string ⟨#[]⟩, .int .i64 y.idx, .int .i64 0, .string ⟨#[]⟩, .int .i64 0, .slice none 0 0, .slice none 0 0] 32)).heap.size) := Lib.hid HF8.out.size
      have HNW := Lib.hid (news_at w2 #[.string y.fr, .string y.dst, .int .i64 y.num, .int .i64 y.kind, .int .i64 y.ack, .string ⟨#[]⟩, .string ⟨#[]⟩, .string ⟨#[]⟩, .int .i64 y.idx, .int .i64 0, .string ⟨#[]⟩, .int .i64 0, .slice none 0 0, .slice none 0 0] 32 w2.heap.size rfl)
      go_wp2_with (first | ((refine stop_load 32 _ rfl ?_; refine wpList_load_want rfl 32 _ rfl b rfl 32 _ _ HB7.out Try.underlying32 rfl (by kernel_rfl) ?_)) | (at_builtin; refine wpList_append_own_at _ rfl (.tmp 100) (.tmp 102) 26 rfl w.heap.size 32 i0 _ 14 192 Try.underlying26 hi hz0 hz1 hz2 rfl hq0 _ k _ rfl HO8.out ⟨w2.heap.size, 0, none⟩ 1 1 (ltC y) rfl rfl HNW.out hq5 hq3 hq4 HSX.out ?_; intro v9 w9 hown9 hg9 hl0 hl1; have HG9 := Lib.hid hg9; have HO9 := Lib.hid hown9; clear hown9 hg9 hl0 hl1))
      have HGOT2 : Hid (Got w s o got sure gm g m0 v9 w9) := Lib.hid ⟨k + 1, _, _, ys ++ [y], by have := HIN.out; have := HGG.out; omega, by have := HK8.out.grown HG9.out (fun e => own_blk_ne HO8.out HK8.out (by decide) e.symm); rw [← HGG.out] at this; rw [show got + (((k + 1 : Nat)) : Int) = got + ((k : Nat) : Int) + 1 by omega]; exact this, HM8.out.kept HG9.out (fun e => HM8.out.ne_own HO8.out e.symm), by rw [List.flatMap_append]; simpa using HO9.out, by rw [List.length_append, HYL.out]; rfl, fun i hi => ?_, fun q => ?_, HF8.out.grown HG9.out (fun q hq => .inr ((HO8.out.lt q hq).1))⟩
      · go_step3
        have hv9 := own_slice HO9.out
        obtain ⟨A9, c9, rfl⟩ := hv9
        refine ⟨rfl, at_next_of _ (by kernel_rfl) HGOT2, ?_⟩
        show 65 - (k + 1) < 65 - k
        have := HK64.out; have := HIN.out; have := HGG.out; omega
      · by_cases e : i = k
        · rw [e, List.getElem?_append_right (by rw [HYL.out]; omega), HYL.out, Nat.sub_self]
          have h1 := HMY.out
          rw [← HGG.out] at h1
          rw [show got + 1 + ((k : Nat) : Int) = got + ((k : Nat) : Int) + 1 by omega, h1]; rfl
        · rw [List.getElem?_append_left (by rw [HYL.out]; omega)]
          exact HYS.out i (by omega)
      · have h1 := HMQ.out q
        unfold delF
        have h2 := HGG.out
        by_cases e : q = G + 1
        · rw [if_pos e, if_pos (by omega)]
        · rw [if_neg e, h1]
          by_cases e2 : got < q ∧ q ≤ got + ((k : Nat) : Int)
          · rw [if_pos e2, if_pos (by omega)]
          · rw [if_neg e2, if_neg (by omega)]
  go_wp2_with ((refine stop_load 32 _ rfl ?_; refine wpList_load_want rfl 32 _ rfl gl rfl 32 _ _ hL0.out Try.underlying32 rfl (by kernel_rfl) ?_))
  refine (HOWN.out _ hK0.out).mono ?_
  rintro e w1 ⟨rfl, hb1⟩
  have HB1 := Lib.hid (HB0.out.trans (hb1.mono HB0.out.size))
  have hK1 := Lib.hid (hK0.out.below hb1 hK0.out.lt)
  have hL1 := Lib.hid (hL0.out.below hb1 hL0.out.lt)
  clear hb1 hK0 hL0 HB0
  have c4 := hL1.out.cell 4
  simp only [List.getElem?_toArray, List.getElem?_cons_zero, List.getElem?_cons_succ] at c4
  rw [HACK.out] at c4
  go_wp2_with fail
  refine (HAK.out _ hK1.out).mono ?_
  rintro e w2 ⟨rfl, hb2⟩
  have HB2 := Lib.hid (HB1.out.trans (hb2.mono HB1.out.size))
  have hK2 := Lib.hid (hK1.out.below hb2 hK1.out.lt)
  have hL2 := Lib.hid (hL1.out.below hb2 hL1.out.lt)
  clear hb2 hK1 hL1 HB1 c4 HOWN HAK
  have c3 := hL2.out.cell 3
  have e7 := hK2.out.cell 7; have f7 := hK2.out.frozen 7
  simp only [List.getElem?_toArray, List.getElem?_cons_zero, List.getElem?_cons_succ] at c3 e7
  go_upto_region 7 with (fail)
  have HNE : Hid (gl ≠ g) := Lib.hid (by have := HG.out; have := HGL.out; omega)
  have hK3 : Hid (Blk (w2.setCell ⟨g, 7, none⟩ (.bool true)) g 90 #[.string s, .string o, .slice none 0 0, .int .i64 0, .int .i64 got, .int .i64 sure, .map (some gm), .bool true]) := Lib.hid (hK2.out.set_ 7 (.bool true))
  have hL3 : Hid (Blk (w2.setCell ⟨g, 7, none⟩ (.bool true)) gl 32 #[.string x.fr, .string x.dst, .int .i64 x.num, .int .i64 x.kind, .int .i64 x.ack, .string ⟨#[]⟩, .string ⟨#[]⟩, .string ⟨#[]⟩, .int .i64 x.idx, .int .i64 0, .string ⟨#[]⟩, .int .i64 0, .slice none 0 0, .slice none 0 0]) := Lib.hid (hL2.out.far (p := ⟨g, 7, none⟩) HNE.out _)
  have HF3 : Hid (Fr (fun k => k = g) w (w2.setCell ⟨g, 7, none⟩ (.bool true))) := Lib.hid ((show Fr (fun k => k = g) w w2 from Fr.of_below HB2.out (Nat.le_refl _)).setCell (p := ⟨g, 7, none⟩) (.inl rfl) _)
  obtain ⟨w3, hw3⟩ : ∃ W, w2.setCell ⟨g, 7, none⟩ (.bool true) = W := ⟨_, rfl⟩
  rw [hw3] at hK3 hL3 HF3 ⊢
  clear hw3 hK2 hL2 HB2 c3 e7 f7 k28
  have e0 := hK3.out.cell 0; have e1 := hK3.out.cell 1; have e2 := hK3.out.cell 2; have e3 := hK3.out.cell 3; have e4 := hK3.out.cell 4; have e5 := hK3.out.cell 5; have e6 := hK3.out.cell 6; have e7 := hK3.out.cell 7
  simp only [List.getElem?_toArray, List.getElem?_cons_zero, List.getElem?_cons_succ] at e0 e1 e2 e3 e4 e5 e6 e7
  have c2 := hL3.out.cell 2
  simp only [List.getElem?_toArray, List.getElem?_cons_zero, List.getElem?_cons_succ] at c2
  have t1 : decide (x.num ≤ got) = false := decide_eq_false (by have := HX.out; omega)
  have q1 : IntKind.i64.wrap (x.num - got) = x.num - got := IntWalk.i64_in _ (by have := HNM.out; have := HGT.out; omega)
  have t2 : decide (64 < x.num - got) = false := decide_eq_false (by have := HX.out; omega)
  have HM3 := Lib.hid (HM.out.fr HF3.out HNG.out)
  go_wp2_with fail
  go_quiet (fail)
  go_wp2_with fail
  obtain ⟨w4, hw4⟩ : ∃ W, w3.drewN nq = W := ⟨_, rfl⟩
  have hb4 : Below w3.heap.size w3 w4 := by rw [← hw4]; exact below_drewN (Below.refl _ _) _
  rw [hw4]
  clear hw4 e0 e1 e2 e3 e4 e5 e6 e7 c2
  have hK4 := Lib.hid (hK3.out.below hb4 hK3.out.lt)
  have hL4 := Lib.hid (hL3.out.below hb4 hL3.out.lt)
  have hM4 := Lib.hid (HM3.out.below hb4 HM3.out.lt)
  have HF4 := Lib.hid (HF3.out.on hb4)
  clear hb4 hK3 hL3 HM3 HF3
  have NG : ¬ w4.heap.size ≤ g := by have := hK4.out.lt; omega
  have NL : ¬ w4.heap.size ≤ gl := by have := hL4.out.lt; omega
  have NM : ¬ w4.heap.size ≤ gm := by have := hM4.out.lt; omega
  refine wp_region_softX [Is (.pointer (some ⟨g, 0, none⟩)), Is (.pointer (some ⟨g, 0, none⟩)), Is (.pointer (some ⟨g, 6, none⟩)), Is (.map (some gm)), Is (.pointer (some ⟨gl, 2, none⟩)), Is (.int .i64 x.num), Is (.tuple #[.agg #[.string y.fr, .string y.dst, .int .i64 y.num, .int .i64 y.kind, .int .i64 y.ack, .string ⟨#[]⟩, .string ⟨#[]⟩, .string ⟨#[]⟩, .int .i64 y.idx, .int .i64 0, .string ⟨#[]⟩, .int .i64 0, .slice none 0 0, .slice none 0 0], .bool false]), Is (.tuple #[.agg #[.string y.fr, .string y.dst, .int .i64 y.num, .int .i64 y.kind, .int .i64 y.ack, .string ⟨#[]⟩, .string ⟨#[]⟩, .string ⟨#[]⟩, .int .i64 y.idx, .int .i64 0, .string ⟨#[]⟩, .int .i64 0, .slice none 0 0, .slice none 0 0], .bool false]), Is (.agg #[.string y.fr, .string y.dst, .int .i64 y.num, .int .i64 y.kind, .int .i64 y.ack, .string ⟨#[]⟩, .string ⟨#[]⟩, .string ⟨#[]⟩, .int .i64 y.idx, .int .i64 0, .string ⟨#[]⟩, .int .i64 0, .slice none 0 0, .slice none 0 0]), Is (.bool false), AnyV, AnyV, Is (.bool false)] ⟨stab_is _, stab_is _, stab_is _, stab_is _, stab_is _, stab_is _, stab_is _, stab_is _, stab_is _, stab_is _, stab_anyv, stab_anyv, stab_is _, trivial⟩ (fun k => w4.heap.size ≤ k) ⟨stabf_is _ _, stabf_is _ _, stabf_is _ _, stabf_is _ _, stabf_is _ _, stabf_is _ _, stabf_is _ _, stabf_is _ _, stabf_is _ _, stabf_is _ _, stabf_anyv _, stabf_anyv _, stabf_is _ _, trivial⟩ [false, false, false, false, false, false, false, false, false, false, true, true, false] (fun done vs W => (done 10 = true → ∃ b, vs 10 = .pointer (some ⟨b, 0, none⟩) ∧ w4.heap.size ≤ b ∧ Blk W b 32 (if done 11 = true then #[.string y.fr, .string y.dst, .int .i64 y.num, .int .i64 y.kind, .int .i64 y.ack, .string ⟨#[]⟩, .string ⟨#[]⟩, .string ⟨#[]⟩, .int .i64 y.idx, .int .i64 0, .string ⟨#[]⟩, .int .i64 0, .slice none 0 0, .slice none 0 0] else #[.string ⟨#[]⟩, .string ⟨#[]⟩, .int .i64 0, .int .i64 0, .int .i64 0, .string ⟨#[]⟩, .string ⟨#[]⟩, .string ⟨#[]⟩, .int .i64 0, .int .i64 0, .string ⟨#[]⟩, .int .i64 0, .slice none 0 0, .slice none 0 0])) ∧ (done 11 = true → done 10 = true)) ?_ ?_ (by kernel_rfl) (by kernel_rfl) ?_ ?_
  · intro k hk done vs v W W' h hnd hb
    have n10 : upDn done k 10 = done 10 := up_ne done (fun e => by subst e; exact absurd hk (by decide))
    have n11 : upDn done k 11 = done 11 := up_ne done (fun e => by subst e; exact absurd hk (by decide))
    have m10 : upVs vs k v 10 = vs 10 := upv_ne vs v (fun e => by subst e; exact absurd hk (by decide))
    rw [n10, n11, m10]
    exact ⟨fun q => (h.1 q).elim fun b hh => ⟨b, hh.1, hh.2.1, hh.2.2.below hb hh.2.2.lt⟩, h.2⟩
  · exact ⟨fun h => (by cases h), fun h => (by cases h)⟩
  · refine ⟨?_, ?_, ?_, ?_, ?_, ?_, ?_, ?_, ?_, ?_, ?_, ?_, ?_, trivial⟩
    all_goals intro done vs ac W1 hdep hnd hB hR hX hE
    all_goals try simp only [Nat.zero_add, Nat.reduceAdd] at hnd ⊢
    all_goals have ec : ∀ v : Value, ac.eval (.const v) = v := fun _ => rfl
    all_goals try simp [Region.binds] at hdep
    · have e0 : ac.eval (.tmp 0) = .pointer (some ⟨g, 0, none⟩) := (hE 0 (by simp)).trans (by simp [evF, Act.eval])
      exact soft_value (.pointer (some ⟨g, 0, none⟩)) (by unfold execOp; simp only [e0, ec]; rfl) rfl
    · have d0 : vs 0 = .pointer (some ⟨g, 0, none⟩) := hR 0 (by simp [hdep])
      have e43 : ac.eval (.tmp 43) = .pointer (some ⟨g, 0, none⟩) := (hE 43 (by simp)).trans (by simp [evF, hdep, d0])
      exact soft_value (.pointer (some ⟨g, 0, none⟩)) (by unfold execOp; simp only [e43]; go_simp) rfl
    · have d1 : vs 1 = .pointer (some ⟨g, 0, none⟩) := hR 1 (by simp [hdep])
      have e44 : ac.eval (.tmp 44) = .pointer (some ⟨g, 0, none⟩) := (hE 44 (by simp)).trans (by simp [evF, hdep, d1])
      exact soft_value (.pointer (some ⟨g, 6, none⟩)) (by unfold execOp; simp only [e44]; kernel_rfl) rfl
    · have d2 : vs 2 = .pointer (some ⟨g, 6, none⟩) := hR 2 (by simp [hdep])
      have e45 : ac.eval (.tmp 45) = .pointer (some ⟨g, 6, none⟩) := (hE 45 (by simp)).trans (by simp [evF, hdep, d2])
      have hc6 : W1.cell? ⟨g, 6, none⟩ = some (.map (some gm)) := (hK4.out.fr hB NG).cell 6
      exact soft_value (.map (some gm)) (by unfold execOp; simp only [e45]; go_simp) rfl
    · have e3 : ac.eval (.tmp 3) = .pointer (some ⟨gl, 0, none⟩) := (hE 3 (by simp)).trans (by simp [evF, Act.eval])
      exact soft_value (.pointer (some ⟨gl, 2, none⟩)) (by unfold execOp; simp only [e3]; kernel_rfl) rfl
    · have d4 : vs 4 = .pointer (some ⟨gl, 2, none⟩) := hR 4 (by simp [hdep])
      have e47 : ac.eval (.tmp 47) = .pointer (some ⟨gl, 2, none⟩) := (hE 47 (by simp)).trans (by simp [evF, hdep, d4])
      have hc2 : W1.cell? ⟨gl, 2, none⟩ = some (.int .i64 x.num) := (hL4.out.fr hB NL).cell 2
      exact soft_value (.int .i64 x.num) (by unfold execOp; simp only [e47]; go_simp) rfl
    · have d3 : vs 3 = .map (some gm) := hR 3 (by simp [hdep])
      have e46 : ac.eval (.tmp 46) = .map (some gm) := (hE 46 (by simp)).trans (by simp [evF, hdep, d3])
      have d5 : vs 5 = .int .i64 x.num := hR 5 (by simp [hdep])
      have e48 : ac.eval (.tmp 48) = .int .i64 x.num := (hE 48 (by simp)).trans (by simp [evF, hdep, d5])
      have hlk := ((hM4.out.fr hB NM).look (P := Try.prog) (keyInt .i64) Try.underlying88 Try.underlying3 (.agg #[.string ⟨#[]⟩, .string ⟨#[]⟩, .int .i64 0, .int .i64 0, .int .i64 0, .string ⟨#[]⟩, .string ⟨#[]⟩, .string ⟨#[]⟩, .int .i64 0, .int .i64 0, .string ⟨#[]⟩, .int .i64 0, .slice none 0 0, .slice none 0 0]) (fun u => zero_lt u) (x.num) true)
      rw [if_pos rfl, HY.out.1, HY.out.2] at hlk
      exact wp_look2 (.tmp 46) (.tmp 48) 88 true rfl _ _ (.tuple #[.agg #[.string y.fr, .string y.dst, .int .i64 y.num, .int .i64 y.kind, .int .i64 y.ack, .string ⟨#[]⟩, .string ⟨#[]⟩, .string ⟨#[]⟩, .int .i64 y.idx, .int .i64 0, .string ⟨#[]⟩, .int .i64 0, .slice none 0 0, .slice none 0 0], .bool false]) e46 e48 hlk ⟨_, rfl, Below.refl _ _, rfl⟩
    · have d6 : vs 6 = .tuple #[.agg #[.string y.fr, .string y.dst, .int .i64 y.num, .int .i64 y.kind, .int .i64 y.ack, .string ⟨#[]⟩, .string ⟨#[]⟩, .string ⟨#[]⟩, .int .i64 y.idx, .int .i64 0, .string ⟨#[]⟩, .int .i64 0, .slice none 0 0, .slice none 0 0], .bool false] := hR 6 (by simp [hdep])
      have e49 : ac.eval (.tmp 49) = .tuple #[.agg #[.string y.fr, .string y.dst, .int .i64 y.num, .int .i64 y.kind, .int .i64 y.ack, .string ⟨#[]⟩, .string ⟨#[]⟩, .string ⟨#[]⟩, .int .i64 y.idx, .int .i64 0, .string ⟨#[]⟩, .int .i64 0, .slice none 0 0, .slice none 0 0], .bool false] := (hE 49 (by simp)).trans (by simp [evF, hdep, d6])
      exact soft_value (.tuple #[.agg #[.string y.fr, .string y.dst, .int .i64 y.num, .int .i64 y.kind, .int .i64 y.ack, .string ⟨#[]⟩, .string ⟨#[]⟩, .string ⟨#[]⟩, .int .i64 y.idx, .int .i64 0, .string ⟨#[]⟩, .int .i64 0, .slice none 0 0, .slice none 0 0], .bool false]) (by unfold execOp; simp only [e49, ec]; rfl) rfl
    · have d7 : vs 7 = .tuple #[.agg #[.string y.fr, .string y.dst, .int .i64 y.num, .int .i64 y.kind, .int .i64 y.ack, .string ⟨#[]⟩, .string ⟨#[]⟩, .string ⟨#[]⟩, .int .i64 y.idx, .int .i64 0, .string ⟨#[]⟩, .int .i64 0, .slice none 0 0, .slice none 0 0], .bool false] := hR 7 (by simp [hdep])
      have e42 : ac.eval (.tmp 42) = .tuple #[.agg #[.string y.fr, .string y.dst, .int .i64 y.num, .int .i64 y.kind, .int .i64 y.ack, .string ⟨#[]⟩, .string ⟨#[]⟩, .string ⟨#[]⟩, .int .i64 y.idx, .int .i64 0, .string ⟨#[]⟩, .int .i64 0, .slice none 0 0, .slice none 0 0], .bool false] := (hE 42 (by simp)).trans (by simp [evF, hdep, d7])
      exact soft_value (.agg #[.string y.fr, .string y.dst, .int .i64 y.num, .int .i64 y.kind, .int .i64 y.ack, .string ⟨#[]⟩, .string ⟨#[]⟩, .string ⟨#[]⟩, .int .i64 y.idx, .int .i64 0, .string ⟨#[]⟩, .int .i64 0, .slice none 0 0, .slice none 0 0]) (by unfold execOp; simp only [e42]; rfl) rfl
    · have d7 : vs 7 = .tuple #[.agg #[.string y.fr, .string y.dst, .int .i64 y.num, .int .i64 y.kind, .int .i64 y.ack, .string ⟨#[]⟩, .string ⟨#[]⟩, .string ⟨#[]⟩, .int .i64 y.idx, .int .i64 0, .string ⟨#[]⟩, .int .i64 0, .slice none 0 0, .slice none 0 0], .bool false] := hR 7 (by simp [hdep])
      have e42 : ac.eval (.tmp 42) = .tuple #[.agg #[.string y.fr, .string y.dst, .int .i64 y.num, .int .i64 y.kind, .int .i64 y.ack, .string ⟨#[]⟩, .string ⟨#[]⟩, .string ⟨#[]⟩, .int .i64 y.idx, .int .i64 0, .string ⟨#[]⟩, .int .i64 0, .slice none 0 0, .slice none 0 0], .bool false] := (hE 42 (by simp)).trans (by simp [evF, hdep, d7])
      exact soft_value (.bool false) (by unfold execOp; simp only [e42]; rfl) rfl
    · have d11 : done 11 = false := not_of hX.2 hnd
      have n11 : upDn done 10 11 = false := by rw [up_ne done (by decide)]; exact d11
      refine wp_alloc_z 32 rfl #[.string ⟨#[]⟩, .string ⟨#[]⟩, .int .i64 0, .int .i64 0, .int .i64 0, .string ⟨#[]⟩, .string ⟨#[]⟩, .string ⟨#[]⟩, .int .i64 0, .int .i64 0, .string ⟨#[]⟩, .int .i64 0, .slice none 0 0, .slice none 0 0] (by kernel_rfl) ⟨_, rfl, (Fr.refl _ _).alloc _, ⟨fun _ => ⟨W1.heap.size, by rw [upv_same], hB.size, ?_⟩, fun h => (by rw [n11] at h; cases h)⟩, trivial⟩
      simp only [n11, Bool.false_eq_true, if_false]
      exact Blk.new _ _ _
    · obtain ⟨b, hb1, hb2, hb3⟩ := hX.1 (by simp [hdep])
      have d10 : vs 10 = .pointer (some ⟨b, 0, none⟩) := hb1
      have e6 : ac.eval (.tmp 6) = .pointer (some ⟨b, 0, none⟩) := (hE 6 (by simp)).trans (by simp [evF, hdep, d10])
      have d8 : vs 8 = .agg #[.string y.fr, .string y.dst, .int .i64 y.num, .int .i64 y.kind, .int .i64 y.ack, .string ⟨#[]⟩, .string ⟨#[]⟩, .string ⟨#[]⟩, .int .i64 y.idx, .int .i64 0, .string ⟨#[]⟩, .int .i64 0, .slice none 0 0, .slice none 0 0] := hR 8 (by simp [hdep])
      have e50 : ac.eval (.tmp 50) = .agg #[.string y.fr, .string y.dst, .int .i64 y.num, .int .i64 y.kind, .int .i64 y.ack, .string ⟨#[]⟩, .string ⟨#[]⟩, .string ⟨#[]⟩, .int .i64 y.idx, .int .i64 0, .string ⟨#[]⟩, .int .i64 0, .slice none 0 0, .slice none 0 0] := (hE 50 (by simp)).trans (by simp [evF, hdep, d8])
      rw [hnd] at hb3
      simp only [Bool.false_eq_true, if_false] at hb3
      refine wp_store_row 32 (.tmp 6) (.tmp 50) rfl b #[.string y.fr, .string y.dst, .int .i64 y.num, .int .i64 y.kind, .int .i64 y.ack, .string ⟨#[]⟩, .string ⟨#[]⟩, .string ⟨#[]⟩, .int .i64 y.idx, .int .i64 0, .string ⟨#[]⟩, .int .i64 0, .slice none 0 0, .slice none 0 0] e6 e50 32 #[.string ⟨#[]⟩, .string ⟨#[]⟩, .int .i64 0, .int .i64 0, .int .i64 0, .string ⟨#[]⟩, .string ⟨#[]⟩, .string ⟨#[]⟩, .int .i64 0, .int .i64 0, .string ⟨#[]⟩, .int .i64 0, .slice none 0 0, .slice none 0 0] hb3 (by kernel_rfl) rfl (by simp [Value.oneCell']) ⟨_, rfl, (fr_row _ _ _).mono (fun k hk => by rw [hk]; exact hb2), ⟨fun _ => ⟨b, by rw [upv_ne vs _ (by decide)]; exact hb1, hb2, ?_⟩, fun _ => by rw [up_ne done (by decide)]; simp [hdep]⟩, trivial⟩
      simp only [up_same, if_true]
      exact setRow_heap W1 b _ _ _ (0, 0) hb3
    · have d9 : vs 9 = .bool false := hR 9 (by simp [hdep])
      have e51 : ac.eval (.tmp 51) = .bool false := (hE 51 (by simp)).trans (by simp [evF, hdep, d9])
      exact soft_value (.bool false) (by unfold execOp; simp only [e51, ec]; rfl) rfl
  intro done vs W hall hB hR hX
  obtain ⟨b, hb1, hb2, hb3⟩ := hX.1 (hall 10 (by simp))
  rw [hall 11 (by simp)] at hb3
  simp only [if_true] at hb3
  have r12 : vs 12 = .bool false := hR 12 (by simp)
  have HB4 := Lib.hid hb3
  have HK4 := Lib.hid (hK4.out.fr hB NG)
  have HL4 := Lib.hid (hL4.out.fr hB NL)
  have HM4 := Lib.hid (hM4.out.fr hB NM)
  simp only [fillA, Act.put, List.setIfInBounds_toArray, List.set_cons_zero, List.set_cons_succ, if_true, r12, hb1]
  have HF5 : Hid (Fr (fun k => k = g) w W) := Lib.hid (HF4.out.trans hB (fun k hk => .inr (Nat.le_trans HF4.out.size hk)))
  clear hall hB hR hX NG NL NM hK4 hL4 hM4 HF4 r12 hb1 hb2 hb3 HB4
  have HK5 := HK4; have HL5 := HL4; have HM5 := HM4
  clear HK4 HL4 HM4
  have e0 := HK5.out.cell 0; have e1 := HK5.out.cell 1; have e2 := HK5.out.cell 2; have e3 := HK5.out.cell 3; have e4 := HK5.out.cell 4; have e5 := HK5.out.cell 5; have e6 := HK5.out.cell 6; have e7 := HK5.out.cell 7
  simp only [List.getElem?_toArray, List.getElem?_cons_zero, List.getElem?_cons_succ] at e0 e1 e2 e3 e4 e5 e6 e7
  go_wp2_with fail
  try simp only [Act.put]
  clear e0 e1 e2 e3 e4 e5 e6 e7
  refine wp_region_soft_last [Is (.pointer (some ⟨g, 0, none⟩)), Is (.pointer (some ⟨g, 0, none⟩)), Is (.pointer (some ⟨g, 6, none⟩)), Is (.map (some gm)), Is (.pointer (some ⟨gl, 2, none⟩)), Is (.int .i64 x.num), Is (.agg #[.string x.fr, .string x.dst, .int .i64 x.num, .int .i64 x.kind, .int .i64 x.ack, .string ⟨#[]⟩, .string ⟨#[]⟩, .string ⟨#[]⟩, .int .i64 x.idx, .int .i64 0, .string ⟨#[]⟩, .int .i64 0, .slice none 0 0, .slice none 0 0]), Is (.agg #[.string x.fr, .string x.dst, .int .i64 x.num, .int .i64 x.kind, .int .i64 x.ack, .string ⟨#[]⟩, .string ⟨#[]⟩, .string ⟨#[]⟩, .int .i64 x.idx, .int .i64 0, .string ⟨#[]⟩, .int .i64 0, .slice none 0 0, .slice none 0 0])] ⟨stab_is _, stab_is _, stab_is _, stab_is _, stab_is _, stab_is _, stab_is _, stab_is _, trivial⟩ (by kernel_rfl) (by kernel_rfl) (by kernel_rfl) (Nat.zero_lt_succ _) ?_
  refine ⟨?_, ?_, ?_, ?_, ?_, ?_, ?_, ?_, ?_⟩
  all_goals intro done vs ac W1 hdep hB hR hE
  all_goals have ec : ∀ v : Value, ac.eval (.const v) = v := fun _ => rfl
  all_goals try simp [Region.binds] at hdep
  · have e0 : ac.eval (.tmp 0) = .pointer (some ⟨g, 0, none⟩) := (hE 0 (by simp)).trans (by simp [evF, Act.eval])
    exact soft_value (.pointer (some ⟨g, 0, none⟩)) (by unfold execOp; simp only [e0, ec]; rfl) rfl
  · have d0 : vs 0 = .pointer (some ⟨g, 0, none⟩) := hR 0 (by simp [hdep])
    have e62 : ac.eval (.tmp 62) = .pointer (some ⟨g, 0, none⟩) := (hE 62 (by simp)).trans (by simp [evF, hdep, d0])
    exact soft_value (.pointer (some ⟨g, 0, none⟩)) (by unfold execOp; simp only [e62]; go_simp) rfl
  · have d1 : vs 1 = .pointer (some ⟨g, 0, none⟩) := hR 1 (by simp [hdep])
    have e63 : ac.eval (.tmp 63) = .pointer (some ⟨g, 0, none⟩) := (hE 63 (by simp)).trans (by simp [evF, hdep, d1])
    exact soft_value (.pointer (some ⟨g, 6, none⟩)) (by unfold execOp; simp only [e63]; kernel_rfl) rfl
  · have d2 : vs 2 = .pointer (some ⟨g, 6, none⟩) := hR 2 (by simp [hdep])
    have e64 : ac.eval (.tmp 64) = .pointer (some ⟨g, 6, none⟩) := (hE 64 (by simp)).trans (by simp [evF, hdep, d2])
    have hc6 : W1.cell? ⟨g, 6, none⟩ = some (.map (some gm)) := (HK5.out.below hB HK5.out.lt).cell 6
    exact soft_value (.map (some gm)) (by unfold execOp; simp only [e64]; go_simp) rfl
  · have e3 : ac.eval (.tmp 3) = .pointer (some ⟨gl, 0, none⟩) := (hE 3 (by simp)).trans (by simp [evF, Act.eval])
    exact soft_value (.pointer (some ⟨gl, 2, none⟩)) (by unfold execOp; simp only [e3]; kernel_rfl) rfl
  · have d4 : vs 4 = .pointer (some ⟨gl, 2, none⟩) := hR 4 (by simp [hdep])
    have e66 : ac.eval (.tmp 66) = .pointer (some ⟨gl, 2, none⟩) := (hE 66 (by simp)).trans (by simp [evF, hdep, d4])
    have hc2 : W1.cell? ⟨gl, 2, none⟩ = some (.int .i64 x.num) := (HL5.out.below hB HL5.out.lt).cell 2
    exact soft_value (.int .i64 x.num) (by unfold execOp; simp only [e66]; go_simp) rfl
  · have e3 : ac.eval (.tmp 3) = .pointer (some ⟨gl, 0, none⟩) := (hE 3 (by simp)).trans (by simp [evF, Act.eval])
    exact wp_load_row 32 _ rfl (gl) e3 32 _ (0, 0) _ (HL5.out.below hB HL5.out.lt) Try.underlying32 rfl (by kernel_rfl) ⟨_, rfl, Below.refl _ _, rfl⟩
  · have d6 : vs 6 = .agg #[.string x.fr, .string x.dst, .int .i64 x.num, .int .i64 x.kind, .int .i64 x.ack, .string ⟨#[]⟩, .string ⟨#[]⟩, .string ⟨#[]⟩, .int .i64 x.idx, .int .i64 0, .string ⟨#[]⟩, .int .i64 0, .slice none 0 0, .slice none 0 0] := hR 6 (by simp [hdep])
    have e68 : ac.eval (.tmp 68) = .agg #[.string x.fr, .string x.dst, .int .i64 x.num, .int .i64 x.kind, .int .i64 x.ack, .string ⟨#[]⟩, .string ⟨#[]⟩, .string ⟨#[]⟩, .int .i64 x.idx, .int .i64 0, .string ⟨#[]⟩, .int .i64 0, .slice none 0 0, .slice none 0 0] := (hE 68 (by simp)).trans (by simp [evF, hdep, d6])
    refine soft_call 32 _ _ rfl (enters_fn Try.func32 (by kernel_rfl) rfl) #[.agg #[.string x.fr, .string x.dst, .int .i64 x.num, .int .i64 x.kind, .int .i64 x.ack, .string ⟨#[]⟩, .string ⟨#[]⟩, .string ⟨#[]⟩, .int .i64 x.idx, .int .i64 0, .string ⟨#[]⟩, .int .i64 0, .slice none 0 0, .slice none 0 0]] (by simp [e68, ec]) ?_
    refine (own_any x W1).mono ?_
    rintro e9 w9 ⟨rfl, hb9⟩
    exact ⟨_, rfl, hb9, rfl⟩
  have hall := hdep
  have d3 : vs 3 = .map (some gm) := hR 3 (by omega)
  have e65 : ac.eval (.tmp 65) = .map (some gm) := (hE 65 (by simp)).trans (by simp [evF, hall 3 (by omega), d3])
  have d5 : vs 5 = .int .i64 x.num := hR 5 (by omega)
  have e67 : ac.eval (.tmp 67) = .int .i64 x.num := (hE 67 (by simp)).trans (by simp [evF, hall 5 (by omega), d5])
  have d7 : vs 7 = .agg #[.string x.fr, .string x.dst, .int .i64 x.num, .int .i64 x.kind, .int .i64 x.ack, .string ⟨#[]⟩, .string ⟨#[]⟩, .string ⟨#[]⟩, .int .i64 x.idx, .int .i64 0, .string ⟨#[]⟩, .int .i64 0, .slice none 0 0, .slice none 0 0] := hR 7 (by omega)
  have e69 : ac.eval (.tmp 69) = .agg #[.string x.fr, .string x.dst, .int .i64 x.num, .int .i64 x.kind, .int .i64 x.ack, .string ⟨#[]⟩, .string ⟨#[]⟩, .string ⟨#[]⟩, .int .i64 x.idx, .int .i64 0, .string ⟨#[]⟩, .int .i64 0, .slice none 0 0, .slice none 0 0] := (hE 69 (by simp)).trans (by simp [evF, hall 7 (by omega), d7])
  obtain ⟨W6, hput, hm6, hg6, hs6⟩ := (HM5.out.below hB HM5.out.lt).put (P := Try.prog) (keyInt .i64) Try.underlying88 Try.underlying3 x.num x
  refine wp_upd (.tmp 65) (.tmp 67) (.tmp 69) 88 rfl _ _ _ e65 e67 e69 hput ⟨undef, rfl, ?_⟩
  have HK6 := Lib.hid ((HK5.out.below hB HK5.out.lt).grown hg6 (fun e => HNG.out (by injection e with e; exact e.symm)))
  have HL6 := Lib.hid ((HL5.out.below hB HL5.out.lt).grown hg6 (fun e => (by injection e with e; have := HGL.out; have := HGM.out; omega)))
  have HF6 : Hid (Fr (fun j => j = g ∨ j = gm) w W6) := Lib.hid (((HF5.out.on hB).mono (fun k hk => .inl hk)).grown hg6 (fun k hk => by injection hk with hk; exact .inl (.inr hk.symm)))
  simp only [fillA, Act.put, List.setIfInBounds_toArray, List.set_cons_zero, List.set_cons_succ, if_true]
  have HM6 : Hid (LMap W6 gm _ m0) := Lib.hid (by have := hm6; rw [HM0.out] at this; exact this)
  have HGOT : Hid (Got w s o got sure gm g m0 (.slice none 0 0) W6) := Lib.hid ⟨0, _, m0, [], by omega, by simpa using HK6.out, HM6.out, World.ownsRow_nil _ _ _ _, rfl, fun i hi => (by omega), fun q => (by rw [if_neg (by omega)]), HF6.out⟩
  go_wp2_with fail
  go_step3
  obtain ⟨wr, hwr⟩ : ∃ wr, W6 = wr := ⟨_, rfl⟩
  rw [hwr] at HGOT ⊢
  clear hwr HK6 HL6 HM6 HF6 hm6 hg6 hs6 hput hE hR hB e65 e67 e69 d3 d5 d7 HK5 HL5 HM5 HF5 HY
  obtain ⟨k', n, m', ys, hk64, hkb, hmm, hown, hyl, hys, hmq, hfr⟩ := HGOT.out
  obtain ⟨A', c', hv'⟩ := own_slice hown
  injection hv' with hAA hkk hcc
  subst hAA hkk hcc
  obtain ⟨G, hG⟩ : ∃ G, got + ((0 : Nat) : Int) = G := ⟨_, rfl⟩
  have HGG := Lib.hid hG
  rw [hG] at hkb
  have HKR := Lib.hid hkb
  have HMR := Lib.hid hmm
  have HOR := Lib.hid hown
  have HFR := Lib.hid hfr
  have HYL := Lib.hid hyl
  have HYS := Lib.hid hys
  have HMQ := Lib.hid hmq
  have HK64 := Lib.hid hk64
  have HWS : Hid (w.heap.size ≤ wr.heap.size) := Lib.hid hfr.size
  have HNGR : Hid (gm ≠ g) := Lib.hid (hmm.ne_blk hkb)
  clear hG hkb hmm hown hfr hyl hys hmq hk64 HGOT
  have q2 : IntKind.i64.wrap (G + 1) = G + 1 := IntWalk.i64_in _ (by have := HGG.out; have := HGT.out; have := HK64.out; omega)
  cases hq : m' (G + 1) with
  | none =>
    obtain ⟨y, hy0⟩ : ∃ y : Lr, y = ⟨⟨#[]⟩, ⟨#[]⟩, 0, 0, 0, 0⟩ := ⟨_, rfl⟩
    have HY : Hid (((m' (G + 1)).map fun x : Lr => Value.agg #[.string x.fr, .string x.dst, .int .i64 x.num, .int .i64 x.kind, .int .i64 x.ack, .string ⟨#[]⟩, .string ⟨#[]⟩, .string ⟨#[]⟩, .int .i64 x.idx, .int .i64 0, .string ⟨#[]⟩, .int .i64 0, .slice none 0 0, .slice none 0 0]).getD (.agg #[.string ⟨#[]⟩, .string ⟨#[]⟩, .int .i64 0, .int .i64 0, .int .i64 0, .string ⟨#[]⟩, .string ⟨#[]⟩, .string ⟨#[]⟩, .int .i64 0, .int .i64 0, .string ⟨#[]⟩, .int .i64 0, .slice none 0 0, .slice none 0 0]) = .agg #[.string y.fr, .string y.dst, .int .i64 y.num, .int .i64 y.kind, .int .i64 y.ack, .string ⟨#[]⟩, .string ⟨#[]⟩, .string ⟨#[]⟩, .int .i64 y.idx, .int .i64 0, .string ⟨#[]⟩, .int .i64 0, .slice none 0 0, .slice none 0 0] ∧ (m' (G + 1)).isSome = false) := Lib.hid (by rw [hq, hy0]; exact ⟨rfl, rfl⟩)
    have hend : m0 (G + 1) = none := by
      have h1 := HMQ.out (G + 1)
      rw [hq, if_neg (by have := HGG.out; omega)] at h1
      exact h1.symm
    have HEND := Lib.hid hend
    clear hq hy0 hend
    have e0 := HKR.out.cell 0; have e1 := HKR.out.cell 1; have e2 := HKR.out.cell 2; have e3 := HKR.out.cell 3; have e4 := HKR.out.cell 4; have e5 := HKR.out.cell 5; have e6 := HKR.out.cell 6; have e7 := HKR.out.cell 7
    simp only [List.getElem?_toArray, List.getElem?_cons_zero, List.getElem?_cons_succ] at e0 e1 e2 e3 e4 e5 e6 e7
    go_wp2_with fail
    try simp only [Act.put]
    clear e0 e1 e2 e3 e4 e5 e6 e7
    have NG : ¬ wr.heap.size ≤ g := by have := HKR.out.lt; omega
    have NM : ¬ wr.heap.size ≤ gm := by have := HMR.out.lt; omega
    refine wp_region_softX [Is (.pointer (some ⟨g, 0, none⟩)), Is (.pointer (some ⟨g, 0, none⟩)), Is (.pointer (some ⟨g, 6, none⟩)), Is (.map (some gm)), Is (.pointer (some ⟨g, 0, none⟩)), Is (.pointer (some ⟨g, 0, none⟩)), Is (.pointer (some ⟨g, 4, none⟩)), Is (.int .i64 G), Is (.int .i64 (G + 1)), Is (.tuple #[.agg #[.string y.fr, .string y.dst, .int .i64 y.num, .int .i64 y.kind, .int .i64 y.ack, .string ⟨#[]⟩, .string ⟨#[]⟩, .string ⟨#[]⟩, .int .i64 y.idx, .int .i64 0, .string ⟨#[]⟩, .int .i64 0, .slice none 0 0, .slice none 0 0], .bool false]), Is (.tuple #[.agg #[.string y.fr, .string y.dst, .int .i64 y.num, .int .i64 y.kind, .int .i64 y.ack, .string ⟨#[]⟩, .string ⟨#[]⟩, .string ⟨#[]⟩, .int .i64 y.idx, .int .i64 0, .string ⟨#[]⟩, .int .i64 0, .slice none 0 0, .slice none 0 0], .bool false]), Is (.agg #[.string y.fr, .string y.dst, .int .i64 y.num, .int .i64 y.kind, .int .i64 y.ack, .string ⟨#[]⟩, .string ⟨#[]⟩, .string ⟨#[]⟩, .int .i64 y.idx, .int .i64 0, .string ⟨#[]⟩, .int .i64 0, .slice none 0 0, .slice none 0 0]), Is (.bool false), AnyV, AnyV, Is (.bool false)] ⟨stab_is _, stab_is _, stab_is _, stab_is _, stab_is _, stab_is _, stab_is _, stab_is _, stab_is _, stab_is _, stab_is _, stab_is _, stab_is _, stab_anyv, stab_anyv, stab_is _, trivial⟩ (fun k => wr.heap.size ≤ k) ⟨stabf_is _ _, stabf_is _ _, stabf_is _ _, stabf_is _ _, stabf_is _ _, stabf_is _ _, stabf_is _ _, stabf_is _ _, stabf_is _ _, stabf_is _ _, stabf_is _ _, stabf_is _ _, stabf_is _ _, stabf_anyv _, stabf_anyv _, stabf_is _ _, trivial⟩ [false, false, false, false, false, false, false, false, false, false, false, false, false, true, true, false] (fun done vs W => (done 13 = true → ∃ b, vs 13 = .pointer (some ⟨b, 0, none⟩) ∧ wr.heap.size ≤ b ∧ Blk W b 32 (if done 14 = true then #[.string y.fr, .string y.dst, .int .i64 y.num, .int .i64 y.kind, .int .i64 y.ack, .string ⟨#[]⟩, .string ⟨#[]⟩, .string ⟨#[]⟩, .int .i64 y.idx, .int .i64 0, .string ⟨#[]⟩, .int .i64 0, .slice none 0 0, .slice none 0 0] else #[.string ⟨#[]⟩, .string ⟨#[]⟩, .int .i64 0, .int .i64 0, .int .i64 0, .string ⟨#[]⟩, .string ⟨#[]⟩, .string ⟨#[]⟩, .int .i64 0, .int .i64 0, .string ⟨#[]⟩, .int .i64 0, .slice none 0 0, .slice none 0 0])) ∧ (done 14 = true → done 13 = true)) ?_ ?_ (by kernel_rfl) (by kernel_rfl) ?_ ?_
    · intro k hk done vs v W W' h hnd hb
      have n10 : upDn done k 13 = done 13 := up_ne done (fun e => by subst e; exact absurd hk (by decide))
      have n11 : upDn done k 14 = done 14 := up_ne done (fun e => by subst e; exact absurd hk (by decide))
      have m10 : upVs vs k v 13 = vs 13 := upv_ne vs v (fun e => by subst e; exact absurd hk (by decide))
      rw [n10, n11, m10]
      exact ⟨fun q => (h.1 q).elim fun b hh => ⟨b, hh.1, hh.2.1, hh.2.2.below hb hh.2.2.lt⟩, h.2⟩
    · exact ⟨fun h => (by cases h), fun h => (by cases h)⟩
    · refine ⟨?_, ?_, ?_, ?_, ?_, ?_, ?_, ?_, ?_, ?_, ?_, ?_, ?_, ?_, ?_, ?_, trivial⟩
      all_goals intro done vs ac W1 hdep hnd hB hR hX hE
      all_goals try simp only [Nat.zero_add, Nat.reduceAdd] at hnd ⊢
      all_goals have ec : ∀ v : Value, ac.eval (.const v) = v := fun _ => rfl
      all_goals try simp [Region.binds] at hdep
      · have e0 : ac.eval (.tmp 0) = .pointer (some ⟨g, 0, none⟩) := (hE 0 (by simp)).trans (by simp [evF, Act.eval])
        exact soft_value (.pointer (some ⟨g, 0, none⟩)) (by unfold execOp; simp only [e0, ec]; rfl) rfl
      · have d0 : vs 0 = .pointer (some ⟨g, 0, none⟩) := hR 0 (by simp [hdep])
        have e71 : ac.eval (.tmp 71) = .pointer (some ⟨g, 0, none⟩) := (hE 71 (by simp)).trans (by simp [evF, hdep, d0])
        exact soft_value (.pointer (some ⟨g, 0, none⟩)) (by unfold execOp; simp only [e71]; go_simp) rfl
      · have d1 : vs 1 = .pointer (some ⟨g, 0, none⟩) := hR 1 (by simp [hdep])
        have e72 : ac.eval (.tmp 72) = .pointer (some ⟨g, 0, none⟩) := (hE 72 (by simp)).trans (by simp [evF, hdep, d1])
        exact soft_value (.pointer (some ⟨g, 6, none⟩)) (by unfold execOp; simp only [e72]; kernel_rfl) rfl
      · have d2 : vs 2 = .pointer (some ⟨g, 6, none⟩) := hR 2 (by simp [hdep])
        have e73 : ac.eval (.tmp 73) = .pointer (some ⟨g, 6, none⟩) := (hE 73 (by simp)).trans (by simp [evF, hdep, d2])
        have hc6 : W1.cell? ⟨g, 6, none⟩ = some (.map (some gm)) := (HKR.out.fr hB NG).cell 6
        exact soft_value (.map (some gm)) (by unfold execOp; simp only [e73]; go_simp) rfl
      · have e0 : ac.eval (.tmp 0) = .pointer (some ⟨g, 0, none⟩) := (hE 0 (by simp)).trans (by simp [evF, Act.eval])
        exact soft_value (.pointer (some ⟨g, 0, none⟩)) (by unfold execOp; simp only [e0, ec]; rfl) rfl
      · have d4 : vs 4 = .pointer (some ⟨g, 0, none⟩) := hR 4 (by simp [hdep])
        have e75 : ac.eval (.tmp 75) = .pointer (some ⟨g, 0, none⟩) := (hE 75 (by simp)).trans (by simp [evF, hdep, d4])
        exact soft_value (.pointer (some ⟨g, 0, none⟩)) (by unfold execOp; simp only [e75]; go_simp) rfl
      · have d5 : vs 5 = .pointer (some ⟨g, 0, none⟩) := hR 5 (by simp [hdep])
        have e76 : ac.eval (.tmp 76) = .pointer (some ⟨g, 0, none⟩) := (hE 76 (by simp)).trans (by simp [evF, hdep, d5])
        exact soft_value (.pointer (some ⟨g, 4, none⟩)) (by unfold execOp; simp only [e76]; kernel_rfl) rfl
      · have d6 : vs 6 = .pointer (some ⟨g, 4, none⟩) := hR 6 (by simp [hdep])
        have e77 : ac.eval (.tmp 77) = .pointer (some ⟨g, 4, none⟩) := (hE 77 (by simp)).trans (by simp [evF, hdep, d6])
        have hc4 : W1.cell? ⟨g, 4, none⟩ = some (.int .i64 G) := (HKR.out.fr hB NG).cell 4
        exact soft_value (.int .i64 G) (by unfold execOp; simp only [e77]; go_simp) rfl
      · have d7 : vs 7 = .int .i64 G := hR 7 (by simp [hdep])
        have e78 : ac.eval (.tmp 78) = .int .i64 G := (hE 78 (by simp)).trans (by simp [evF, hdep, d7])
        exact soft_value (.int .i64 (G + 1)) (by unfold execOp; simp only [e78, ec]; go_simp) rfl
      · have d3 : vs 3 = .map (some gm) := hR 3 (by simp [hdep])
        have e74 : ac.eval (.tmp 74) = .map (some gm) := (hE 74 (by simp)).trans (by simp [evF, hdep, d3])
        have d8 : vs 8 = .int .i64 (G + 1) := hR 8 (by simp [hdep])
        have e79 : ac.eval (.tmp 79) = .int .i64 (G + 1) := (hE 79 (by simp)).trans (by simp [evF, hdep, d8])
        have hlk := ((HMR.out.fr hB NM).look (P := Try.prog) (keyInt .i64) Try.underlying88 Try.underlying3 (.agg #[.string ⟨#[]⟩, .string ⟨#[]⟩, .int .i64 0, .int .i64 0, .int .i64 0, .string ⟨#[]⟩, .string ⟨#[]⟩, .string ⟨#[]⟩, .int .i64 0, .int .i64 0, .string ⟨#[]⟩, .int .i64 0, .slice none 0 0, .slice none 0 0]) (fun u => zero_lt u) (G + 1) true)
        rw [if_pos rfl, HY.out.1, HY.out.2] at hlk
        exact wp_look2 (.tmp 74) (.tmp 79) 88 true rfl _ _ (.tuple #[.agg #[.string y.fr, .string y.dst, .int .i64 y.num, .int .i64 y.kind, .int .i64 y.ack, .string ⟨#[]⟩, .string ⟨#[]⟩, .string ⟨#[]⟩, .int .i64 y.idx, .int .i64 0, .string ⟨#[]⟩, .int .i64 0, .slice none 0 0, .slice none 0 0], .bool false]) e74 e79 hlk ⟨_, rfl, Below.refl _ _, rfl⟩
      · have d9 : vs 9 = .tuple #[.agg #[.string y.fr, .string y.dst, .int .i64 y.num, .int .i64 y.kind, .int .i64 y.ack, .string ⟨#[]⟩, .string ⟨#[]⟩, .string ⟨#[]⟩, .int .i64 y.idx, .int .i64 0, .string ⟨#[]⟩, .int .i64 0, .slice none 0 0, .slice none 0 0], .bool false] := hR 9 (by simp [hdep])
        have e80 : ac.eval (.tmp 80) = .tuple #[.agg #[.string y.fr, .string y.dst, .int .i64 y.num, .int .i64 y.kind, .int .i64 y.ack, .string ⟨#[]⟩, .string ⟨#[]⟩, .string ⟨#[]⟩, .int .i64 y.idx, .int .i64 0, .string ⟨#[]⟩, .int .i64 0, .slice none 0 0, .slice none 0 0], .bool false] := (hE 80 (by simp)).trans (by simp [evF, hdep, d9])
        exact soft_value (.tuple #[.agg #[.string y.fr, .string y.dst, .int .i64 y.num, .int .i64 y.kind, .int .i64 y.ack, .string ⟨#[]⟩, .string ⟨#[]⟩, .string ⟨#[]⟩, .int .i64 y.idx, .int .i64 0, .string ⟨#[]⟩, .int .i64 0, .slice none 0 0, .slice none 0 0], .bool false]) (by unfold execOp; simp only [e80, ec]; rfl) rfl
      · have d10 : vs 10 = .tuple #[.agg #[.string y.fr, .string y.dst, .int .i64 y.num, .int .i64 y.kind, .int .i64 y.ack, .string ⟨#[]⟩, .string ⟨#[]⟩, .string ⟨#[]⟩, .int .i64 y.idx, .int .i64 0, .string ⟨#[]⟩, .int .i64 0, .slice none 0 0, .slice none 0 0], .bool false] := hR 10 (by simp [hdep])
        have e70 : ac.eval (.tmp 70) = .tuple #[.agg #[.string y.fr, .string y.dst, .int .i64 y.num, .int .i64 y.kind, .int .i64 y.ack, .string ⟨#[]⟩, .string ⟨#[]⟩, .string ⟨#[]⟩, .int .i64 y.idx, .int .i64 0, .string ⟨#[]⟩, .int .i64 0, .slice none 0 0, .slice none 0 0], .bool false] := (hE 70 (by simp)).trans (by simp [evF, hdep, d10])
        exact soft_value (.agg #[.string y.fr, .string y.dst, .int .i64 y.num, .int .i64 y.kind, .int .i64 y.ack, .string ⟨#[]⟩, .string ⟨#[]⟩, .string ⟨#[]⟩, .int .i64 y.idx, .int .i64 0, .string ⟨#[]⟩, .int .i64 0, .slice none 0 0, .slice none 0 0]) (by unfold execOp; simp only [e70]; rfl) rfl
      · have d10 : vs 10 = .tuple #[.agg #[.string y.fr, .string y.dst, .int .i64 y.num, .int .i64 y.kind, .int .i64 y.ack, .string ⟨#[]⟩, .string ⟨#[]⟩, .string ⟨#[]⟩, .int .i64 y.idx, .int .i64 0, .string ⟨#[]⟩, .int .i64 0, .slice none 0 0, .slice none 0 0], .bool false] := hR 10 (by simp [hdep])
        have e70 : ac.eval (.tmp 70) = .tuple #[.agg #[.string y.fr, .string y.dst, .int .i64 y.num, .int .i64 y.kind, .int .i64 y.ack, .string ⟨#[]⟩, .string ⟨#[]⟩, .string ⟨#[]⟩, .int .i64 y.idx, .int .i64 0, .string ⟨#[]⟩, .int .i64 0, .slice none 0 0, .slice none 0 0], .bool false] := (hE 70 (by simp)).trans (by simp [evF, hdep, d10])
        exact soft_value (.bool false) (by unfold execOp; simp only [e70]; rfl) rfl
      · have d11 : done 14 = false := not_of hX.2 hnd
        have n11 : upDn done 13 14 = false := by rw [up_ne done (by decide)]; exact d11
        refine wp_alloc_z 32 rfl #[.string ⟨#[]⟩, .string ⟨#[]⟩, .int .i64 0, .int .i64 0, .int .i64 0, .string ⟨#[]⟩, .string ⟨#[]⟩, .string ⟨#[]⟩, .int .i64 0, .int .i64 0, .string ⟨#[]⟩, .int .i64 0, .slice none 0 0, .slice none 0 0] (by kernel_rfl) ⟨_, rfl, (Fr.refl _ _).alloc _, ⟨fun _ => ⟨W1.heap.size, by rw [upv_same], hB.size, ?_⟩, fun h => (by rw [n11] at h; cases h)⟩, trivial⟩
        simp only [n11, Bool.false_eq_true, if_false]
        exact Blk.new _ _ _
      · obtain ⟨b, hb1, hb2, hb3⟩ := hX.1 (by simp [hdep])
        have d13 : vs 13 = .pointer (some ⟨b, 0, none⟩) := hb1
        have e9 : ac.eval (.tmp 9) = .pointer (some ⟨b, 0, none⟩) := (hE 9 (by simp)).trans (by simp [evF, hdep, d13])
        have d11 : vs 11 = .agg #[.string y.fr, .string y.dst, .int .i64 y.num, .int .i64 y.kind, .int .i64 y.ack, .string ⟨#[]⟩, .string ⟨#[]⟩, .string ⟨#[]⟩, .int .i64 y.idx, .int .i64 0, .string ⟨#[]⟩, .int .i64 0, .slice none 0 0, .slice none 0 0] := hR 11 (by simp [hdep])
        have e81 : ac.eval (.tmp 81) = .agg #[.string y.fr, .string y.dst, .int .i64 y.num, .int .i64 y.kind, .int .i64 y.ack, .string ⟨#[]⟩, .string ⟨#[]⟩, .string ⟨#[]⟩, .int .i64 y.idx, .int .i64 0, .string ⟨#[]⟩, .int .i64 0, .slice none 0 0, .slice none 0 0] := (hE 81 (by simp)).trans (by simp [evF, hdep, d11])
        rw [hnd] at hb3
        simp only [Bool.false_eq_true, if_false] at hb3
        refine wp_store_row 32 (.tmp 9) (.tmp 81) rfl b #[.string y.fr, .string y.dst, .int .i64 y.num, .int .i64 y.kind, .int .i64 y.ack, .string ⟨#[]⟩, .string ⟨#[]⟩, .string ⟨#[]⟩, .int .i64 y.idx, .int .i64 0, .string ⟨#[]⟩, .int .i64 0, .slice none 0 0, .slice none 0 0] e9 e81 32 #[.string ⟨#[]⟩, .string ⟨#[]⟩, .int .i64 0, .int .i64 0, .int .i64 0, .string ⟨#[]⟩, .string ⟨#[]⟩, .string ⟨#[]⟩, .int .i64 0, .int .i64 0, .string ⟨#[]⟩, .int .i64 0, .slice none 0 0, .slice none 0 0] hb3 (by kernel_rfl) rfl (by simp [Value.oneCell']) ⟨_, rfl, (fr_row _ _ _).mono (fun k hk => by rw [hk]; exact hb2), ⟨fun _ => ⟨b, by rw [upv_ne vs _ (by decide)]; exact hb1, hb2, ?_⟩, fun _ => by rw [up_ne done (by decide)]; simp [hdep]⟩, trivial⟩
        simp only [up_same, if_true]
        exact setRow_heap W1 b _ _ _ (0, 0) hb3
      · have d12 : vs 12 = .bool false := hR 12 (by simp [hdep])
        have e82 : ac.eval (.tmp 82) = .bool false := (hE 82 (by simp)).trans (by simp [evF, hdep, d12])
        exact soft_value (.bool false) (by unfold execOp; simp only [e82, ec]; rfl) rfl
    intro done vs W hall hB hR hX
    obtain ⟨b, hb1, hb2, hb3⟩ := hX.1 (hall 13 (by simp))
    rw [hall 14 (by simp)] at hb3
    simp only [if_true] at hb3
    have r12 : vs 15 = .bool false := hR 15 (by simp)
    have HB4 := Lib.hid hb3
    have HK4 := Lib.hid (HKR.out.fr hB NG)
    have HM4 := Lib.hid (HMR.out.fr hB NM)
    simp only [fillA, Act.put, List.setIfInBounds_toArray, List.set_cons_zero, List.set_cons_succ, if_true, r12, hb1]
    clear hall hX NG NM
    have HP : Hid (TakeY s o got sure gm g m0 w (.returned (.tuple #[.slice none 0 0, .bool true])) W) := Lib.hid ⟨_, 0, n, m', ys, rfl, HK64.out, by rw [HGG.out]; exact HK4.out, HM4.out, own_fr HOR.out hB (fun q hq e => by have := (HOR.out.lt q hq).2; omega), HYL.out, HYS.out, HMQ.out, by rw [HGG.out]; exact HEND.out, HFR.out.trans hB (fun q hq => .inr (Nat.le_trans HWS.out hq))⟩
    clear hB hR
    go_wp2_with fail
    go_ret2
    exact HP.out
  | some y =>
    have hin : got < G + 1 ∧ G + 1 ≤ got + 64 := by
      refine HMB.out (G + 1) (fun h0 => ?_)
      have h1 := HMQ.out (G + 1)
      rw [hq] at h1
      split at h1
      · cases h1
      · rw [h0] at h1; cases h1
    have hmy : m0 (G + 1) = some y := by
      have h1 := HMQ.out (G + 1)
      rw [hq, if_neg (by have := HGG.out; omega)] at h1
      exact h1.symm
    have HIN := Lib.hid hin
    have HMY := Lib.hid hmy
    have HY : Hid (((m' (G + 1)).map fun x : Lr => Value.agg #[.string x.fr, .string x.dst, .int .i64 x.num, .int .i64 x.kind, .int .i64 x.ack, .string ⟨#[]⟩, .string ⟨#[]⟩, .string ⟨#[]⟩, .int .i64 x.idx, .int .i64 0, .string ⟨#[]⟩, .int .i64 0, .slice none 0 0, .slice none 0 0]).getD (.agg #[.string ⟨#[]⟩, .string ⟨#[]⟩, .int .i64 0, .int .i64 0, .int .i64 0, .string ⟨#[]⟩, .string ⟨#[]⟩, .string ⟨#[]⟩, .int .i64 0, .int .i64 0, .string ⟨#[]⟩, .int .i64 0, .slice none 0 0, .slice none 0 0]) = .agg #[.string y.fr, .string y.dst, .int .i64 y.num, .int .i64 y.kind, .int .i64 y.ack, .string ⟨#[]⟩, .string ⟨#[]⟩, .string ⟨#[]⟩, .int .i64 y.idx, .int .i64 0, .string ⟨#[]⟩, .int .i64 0, .slice none 0 0, .slice none 0 0] ∧ (m' (G + 1)).isSome = true) := Lib.hid (by rw [hq]; exact ⟨rfl, rfl⟩)
    clear hq hin hmy
    have e0 := HKR.out.cell 0; have e1 := HKR.out.cell 1; have e2 := HKR.out.cell 2; have e3 := HKR.out.cell 3; have e4 := HKR.out.cell 4; have e5 := HKR.out.cell 5; have e6 := HKR.out.cell 6; have e7 := HKR.out.cell 7
    simp only [List.getElem?_toArray, List.getElem?_cons_zero, List.getElem?_cons_succ] at e0 e1 e2 e3 e4 e5 e6 e7
    go_wp2_with fail
    try simp only [Act.put]
    clear e0 e1 e2 e3 e4 e5 e6 e7
    have NG : ¬ wr.heap.size ≤ g := by have := HKR.out.lt; omega
    have NM : ¬ wr.heap.size ≤ gm := by have := HMR.out.lt; omega
    refine wp_region_softX [Is (.pointer (some ⟨g, 0, none⟩)), Is (.pointer (some ⟨g, 0, none⟩)), Is (.pointer (some ⟨g, 6, none⟩)), Is (.map (some gm)), Is (.pointer (some ⟨g, 0, none⟩)), Is (.pointer (some ⟨g, 0, none⟩)), Is (.pointer (some ⟨g, 4, none⟩)), Is (.int .i64 G), Is (.int .i64 (G + 1)), Is (.tuple #[.agg #[.string y.fr, .string y.dst, .int .i64 y.num, .int .i64 y.kind, .int .i64 y.ack, .string ⟨#[]⟩, .string ⟨#[]⟩, .string ⟨#[]⟩, .int .i64 y.idx, .int .i64 0, .string ⟨#[]⟩, .int .i64 0, .slice none 0 0, .slice none 0 0], .bool true]), Is (.tuple #[.agg #[.string y.fr, .string y.dst, .int .i64 y.num, .int .i64 y.kind, .int .i64 y.ack, .string ⟨#[]⟩, .string ⟨#[]⟩, .string ⟨#[]⟩, .int .i64 y.idx, .int .i64 0, .string ⟨#[]⟩, .int .i64 0, .slice none 0 0, .slice none 0 0], .bool true]), Is (.agg #[.string y.fr, .string y.dst, .int .i64 y.num, .int .i64 y.kind, .int .i64 y.ack, .string ⟨#[]⟩, .string ⟨#[]⟩, .string ⟨#[]⟩, .int .i64 y.idx, .int .i64 0, .string ⟨#[]⟩, .int .i64 0, .slice none 0 0, .slice none 0 0]), Is (.bool true), AnyV, AnyV, Is (.bool true)] ⟨stab_is _, stab_is _, stab_is _, stab_is _, stab_is _, stab_is _, stab_is _, stab_is _, stab_is _, stab_is _, stab_is _, stab_is _, stab_is _, stab_anyv, stab_anyv, stab_is _, trivial⟩ (fun k => wr.heap.size ≤ k) ⟨stabf_is _ _, stabf_is _ _, stabf_is _ _, stabf_is _ _, stabf_is _ _, stabf_is _ _, stabf_is _ _, stabf_is _ _, stabf_is _ _, stabf_is _ _, stabf_is _ _, stabf_is _ _, stabf_is _ _, stabf_anyv _, stabf_anyv _, stabf_is _ _, trivial⟩ [false, false, false, false, false, false, false, false, false, false, false, false, false, true, true, false] (fun done vs W => (done 13 = true → ∃ b, vs 13 = .pointer (some ⟨b, 0, none⟩) ∧ wr.heap.size ≤ b ∧ Blk W b 32 (if done 14 = true then #[.string y.fr, .string y.dst, .int .i64 y.num, .int .i64 y.kind, .int .i64 y.ack, .string ⟨#[]⟩, .string ⟨#[]⟩, .string ⟨#[]⟩, .int .i64 y.idx, .int .i64 0, .string ⟨#[]⟩, .int .i64 0, .slice none 0 0, .slice none 0 0] else #[.string ⟨#[]⟩, .string ⟨#[]⟩, .int .i64 0, .int .i64 0, .int .i64 0, .string ⟨#[]⟩, .string ⟨#[]⟩, .string ⟨#[]⟩, .int .i64 0, .int .i64 0, .string ⟨#[]⟩, .int .i64 0, .slice none 0 0, .slice none 0 0])) ∧ (done 14 = true → done 13 = true)) ?_ ?_ (by kernel_rfl) (by kernel_rfl) ?_ ?_
    · intro k hk done vs v W W' h hnd hb
      have n10 : upDn done k 13 = done 13 := up_ne done (fun e => by subst e; exact absurd hk (by decide))
      have n11 : upDn done k 14 = done 14 := up_ne done (fun e => by subst e; exact absurd hk (by decide))
      have m10 : upVs vs k v 13 = vs 13 := upv_ne vs v (fun e => by subst e; exact absurd hk (by decide))
      rw [n10, n11, m10]
      exact ⟨fun q => (h.1 q).elim fun b hh => ⟨b, hh.1, hh.2.1, hh.2.2.below hb hh.2.2.lt⟩, h.2⟩
    · exact ⟨fun h => (by cases h), fun h => (by cases h)⟩
    · refine ⟨?_, ?_, ?_, ?_, ?_, ?_, ?_, ?_, ?_, ?_, ?_, ?_, ?_, ?_, ?_, ?_, trivial⟩
      all_goals intro done vs ac W1 hdep hnd hB hR hX hE
      all_goals try simp only [Nat.zero_add, Nat.reduceAdd] at hnd ⊢
      all_goals have ec : ∀ v : Value, ac.eval (.const v) = v := fun _ => rfl
      all_goals try simp [Region.binds] at hdep
      · have e0 : ac.eval (.tmp 0) = .pointer (some ⟨g, 0, none⟩) := (hE 0 (by simp)).trans (by simp [evF, Act.eval])
        exact soft_value (.pointer (some ⟨g, 0, none⟩)) (by unfold execOp; simp only [e0, ec]; rfl) rfl
      · have d0 : vs 0 = .pointer (some ⟨g, 0, none⟩) := hR 0 (by simp [hdep])
        have e71 : ac.eval (.tmp 71) = .pointer (some ⟨g, 0, none⟩) := (hE 71 (by simp)).trans (by simp [evF, hdep, d0])
        exact soft_value (.pointer (some ⟨g, 0, none⟩)) (by unfold execOp; simp only [e71]; go_simp) rfl
      · have d1 : vs 1 = .pointer (some ⟨g, 0, none⟩) := hR 1 (by simp [hdep])
        have e72 : ac.eval (.tmp 72) = .pointer (some ⟨g, 0, none⟩) := (hE 72 (by simp)).trans (by simp [evF, hdep, d1])
        exact soft_value (.pointer (some ⟨g, 6, none⟩)) (by unfold execOp; simp only [e72]; kernel_rfl) rfl
      · have d2 : vs 2 = .pointer (some ⟨g, 6, none⟩) := hR 2 (by simp [hdep])
        have e73 : ac.eval (.tmp 73) = .pointer (some ⟨g, 6, none⟩) := (hE 73 (by simp)).trans (by simp [evF, hdep, d2])
        have hc6 : W1.cell? ⟨g, 6, none⟩ = some (.map (some gm)) := (HKR.out.fr hB NG).cell 6
        exact soft_value (.map (some gm)) (by unfold execOp; simp only [e73]; go_simp) rfl
      · have e0 : ac.eval (.tmp 0) = .pointer (some ⟨g, 0, none⟩) := (hE 0 (by simp)).trans (by simp [evF, Act.eval])
        exact soft_value (.pointer (some ⟨g, 0, none⟩)) (by unfold execOp; simp only [e0, ec]; rfl) rfl
      · have d4 : vs 4 = .pointer (some ⟨g, 0, none⟩) := hR 4 (by simp [hdep])
        have e75 : ac.eval (.tmp 75) = .pointer (some ⟨g, 0, none⟩) := (hE 75 (by simp)).trans (by simp [evF, hdep, d4])
        exact soft_value (.pointer (some ⟨g, 0, none⟩)) (by unfold execOp; simp only [e75]; go_simp) rfl
      · have d5 : vs 5 = .pointer (some ⟨g, 0, none⟩) := hR 5 (by simp [hdep])
        have e76 : ac.eval (.tmp 76) = .pointer (some ⟨g, 0, none⟩) := (hE 76 (by simp)).trans (by simp [evF, hdep, d5])
        exact soft_value (.pointer (some ⟨g, 4, none⟩)) (by unfold execOp; simp only [e76]; kernel_rfl) rfl
      · have d6 : vs 6 = .pointer (some ⟨g, 4, none⟩) := hR 6 (by simp [hdep])
        have e77 : ac.eval (.tmp 77) = .pointer (some ⟨g, 4, none⟩) := (hE 77 (by simp)).trans (by simp [evF, hdep, d6])
        have hc4 : W1.cell? ⟨g, 4, none⟩ = some (.int .i64 G) := (HKR.out.fr hB NG).cell 4
        exact soft_value (.int .i64 G) (by unfold execOp; simp only [e77]; go_simp) rfl
      · have d7 : vs 7 = .int .i64 G := hR 7 (by simp [hdep])
        have e78 : ac.eval (.tmp 78) = .int .i64 G := (hE 78 (by simp)).trans (by simp [evF, hdep, d7])
        exact soft_value (.int .i64 (G + 1)) (by unfold execOp; simp only [e78, ec]; go_simp) rfl
      · have d3 : vs 3 = .map (some gm) := hR 3 (by simp [hdep])
        have e74 : ac.eval (.tmp 74) = .map (some gm) := (hE 74 (by simp)).trans (by simp [evF, hdep, d3])
        have d8 : vs 8 = .int .i64 (G + 1) := hR 8 (by simp [hdep])
        have e79 : ac.eval (.tmp 79) = .int .i64 (G + 1) := (hE 79 (by simp)).trans (by simp [evF, hdep, d8])
        have hlk := ((HMR.out.fr hB NM).look (P := Try.prog) (keyInt .i64) Try.underlying88 Try.underlying3 (.agg #[.string ⟨#[]⟩, .string ⟨#[]⟩, .int .i64 0, .int .i64 0, .int .i64 0, .string ⟨#[]⟩, .string ⟨#[]⟩, .string ⟨#[]⟩, .int .i64 0, .int .i64 0, .string ⟨#[]⟩, .int .i64 0, .slice none 0 0, .slice none 0 0]) (fun u => zero_lt u) (G + 1) true)
        rw [if_pos rfl, HY.out.1, HY.out.2] at hlk
        exact wp_look2 (.tmp 74) (.tmp 79) 88 true rfl _ _ (.tuple #[.agg #[.string y.fr, .string y.dst, .int .i64 y.num, .int .i64 y.kind, .int .i64 y.ack, .string ⟨#[]⟩, .string ⟨#[]⟩, .string ⟨#[]⟩, .int .i64 y.idx, .int .i64 0, .string ⟨#[]⟩, .int .i64 0, .slice none 0 0, .slice none 0 0], .bool true]) e74 e79 hlk ⟨_, rfl, Below.refl _ _, rfl⟩
      · have d9 : vs 9 = .tuple #[.agg #[.string y.fr, .string y.dst, .int .i64 y.num, .int .i64 y.kind, .int .i64 y.ack, .string ⟨#[]⟩, .string ⟨#[]⟩, .string ⟨#[]⟩, .int .i64 y.idx, .int .i64 0, .string ⟨#[]⟩, .int .i64 0, .slice none 0 0, .slice none 0 0], .bool true] := hR 9 (by simp [hdep])
        have e80 : ac.eval (.tmp 80) = .tuple #[.agg #[.string y.fr, .string y.dst, .int .i64 y.num, .int .i64 y.kind, .int .i64 y.ack, .string ⟨#[]⟩, .string ⟨#[]⟩, .string ⟨#[]⟩, .int .i64 y.idx, .int .i64 0, .string ⟨#[]⟩, .int .i64 0, .slice none 0 0, .slice none 0 0], .bool true] := (hE 80 (by simp)).trans (by simp [evF, hdep, d9])
        exact soft_value (.tuple #[.agg #[.string y.fr, .string y.dst, .int .i64 y.num, .int .i64 y.kind, .int .i64 y.ack, .string ⟨#[]⟩, .string ⟨#[]⟩, .string ⟨#[]⟩, .int .i64 y.idx, .int .i64 0, .string ⟨#[]⟩, .int .i64 0, .slice none 0 0, .slice none 0 0], .bool true]) (by unfold execOp; simp only [e80, ec]; rfl) rfl
      · have d10 : vs 10 = .tuple #[.agg #[.string y.fr, .string y.dst, .int .i64 y.num, .int .i64 y.kind, .int .i64 y.ack, .string ⟨#[]⟩, .string ⟨#[]⟩, .string ⟨#[]⟩, .int .i64 y.idx, .int .i64 0, .string ⟨#[]⟩, .int .i64 0, .slice none 0 0, .slice none 0 0], .bool true] := hR 10 (by simp [hdep])
        have e70 : ac.eval (.tmp 70) = .tuple #[.agg #[.string y.fr, .string y.dst, .int .i64 y.num, .int .i64 y.kind, .int .i64 y.ack, .string ⟨#[]⟩, .string ⟨#[]⟩, .string ⟨#[]⟩, .int .i64 y.idx, .int .i64 0, .string ⟨#[]⟩, .int .i64 0, .slice none 0 0, .slice none 0 0], .bool true] := (hE 70 (by simp)).trans (by simp [evF, hdep, d10])
        exact soft_value (.agg #[.string y.fr, .string y.dst, .int .i64 y.num, .int .i64 y.kind, .int .i64 y.ack, .string ⟨#[]⟩, .string ⟨#[]⟩, .string ⟨#[]⟩, .int .i64 y.idx, .int .i64 0, .string ⟨#[]⟩, .int .i64 0, .slice none 0 0, .slice none 0 0]) (by unfold execOp; simp only [e70]; rfl) rfl
      · have d10 : vs 10 = .tuple #[.agg #[.string y.fr, .string y.dst, .int .i64 y.num, .int .i64 y.kind, .int .i64 y.ack, .string ⟨#[]⟩, .string ⟨#[]⟩, .string ⟨#[]⟩, .int .i64 y.idx, .int .i64 0, .string ⟨#[]⟩, .int .i64 0, .slice none 0 0, .slice none 0 0], .bool true] := hR 10 (by simp [hdep])
        have e70 : ac.eval (.tmp 70) = .tuple #[.agg #[.string y.fr, .string y.dst, .int .i64 y.num, .int .i64 y.kind, .int .i64 y.ack, .string ⟨#[]⟩, .string ⟨#[]⟩, .string ⟨#[]⟩, .int .i64 y.idx, .int .i64 0, .string ⟨#[]⟩, .int .i64 0, .slice none 0 0, .slice none 0 0], .bool true] := (hE 70 (by simp)).trans (by simp [evF, hdep, d10])
        exact soft_value (.bool true) (by unfold execOp; simp only [e70]; rfl) rfl
      · have d11 : done 14 = false := not_of hX.2 hnd
        have n11 : upDn done 13 14 = false := by rw [up_ne done (by decide)]; exact d11
        refine wp_alloc_z 32 rfl #[.string ⟨#[]⟩, .string ⟨#[]⟩, .int .i64 0, .int .i64 0, .int .i64 0, .string ⟨#[]⟩, .string ⟨#[]⟩, .string ⟨#[]⟩, .int .i64 0, .int .i64 0, .string ⟨#[]⟩, .int .i64 0, .slice none 0 0, .slice none 0 0] (by kernel_rfl) ⟨_, rfl, (Fr.refl _ _).alloc _, ⟨fun _ => ⟨W1.heap.size, by rw [upv_same], hB.size, ?_⟩, fun h => (by rw [n11] at h; cases h)⟩, trivial⟩
        simp only [n11, Bool.false_eq_true, if_false]
        exact Blk.new _ _ _
      · obtain ⟨b, hb1, hb2, hb3⟩ := hX.1 (by simp [hdep])
        have d13 : vs 13 = .pointer (some ⟨b, 0, none⟩) := hb1
        have e9 : ac.eval (.tmp 9) = .pointer (some ⟨b, 0, none⟩) := (hE 9 (by simp)).trans (by simp [evF, hdep, d13])
        have d11 : vs 11 = .agg #[.string y.fr, .string y.dst, .int .i64 y.num, .int .i64 y.kind, .int .i64 y.ack, .string ⟨#[]⟩, .string ⟨#[]⟩, .string ⟨#[]⟩, .int .i64 y.idx, .int .i64 0, .string ⟨#[]⟩, .int .i64 0, .slice none 0 0, .slice none 0 0] := hR 11 (by simp [hdep])
        have e81 : ac.eval (.tmp 81) = .agg #[.string y.fr, .string y.dst, .int .i64 y.num, .int .i64 y.kind, .int .i64 y.ack, .string ⟨#[]⟩, .string ⟨#[]⟩, .string ⟨#[]⟩, .int .i64 y.idx, .int .i64 0, .string ⟨#[]⟩, .int .i64 0, .slice none 0 0, .slice none 0 0] := (hE 81 (by simp)).trans (by simp [evF, hdep, d11])
        rw [hnd] at hb3
        simp only [Bool.false_eq_true, if_false] at hb3
        refine wp_store_row 32 (.tmp 9) (.tmp 81) rfl b #[.string y.fr, .string y.dst, .int .i64 y.num, .int .i64 y.kind, .int .i64 y.ack, .string ⟨#[]⟩, .string ⟨#[]⟩, .string ⟨#[]⟩, .int .i64 y.idx, .int .i64 0, .string ⟨#[]⟩, .int .i64 0, .slice none 0 0, .slice none 0 0] e9 e81 32 #[.string ⟨#[]⟩, .string ⟨#[]⟩, .int .i64 0, .int .i64 0, .int .i64 0, .string ⟨#[]⟩, .string ⟨#[]⟩, .string ⟨#[]⟩, .int .i64 0, .int .i64 0, .string ⟨#[]⟩, .int .i64 0, .slice none 0 0, .slice none 0 0] hb3 (by kernel_rfl) rfl (by simp [Value.oneCell']) ⟨_, rfl, (fr_row _ _ _).mono (fun k hk => by rw [hk]; exact hb2), ⟨fun _ => ⟨b, by rw [upv_ne vs _ (by decide)]; exact hb1, hb2, ?_⟩, fun _ => by rw [up_ne done (by decide)]; simp [hdep]⟩, trivial⟩
        simp only [up_same, if_true]
        exact setRow_heap W1 b _ _ _ (0, 0) hb3
      · have d12 : vs 12 = .bool true := hR 12 (by simp [hdep])
        have e82 : ac.eval (.tmp 82) = .bool true := (hE 82 (by simp)).trans (by simp [evF, hdep, d12])
        exact soft_value (.bool true) (by unfold execOp; simp only [e82, ec]; rfl) rfl
    intro done vs W hall hB hR hX
    obtain ⟨b, hb1, hb2, hb3⟩ := hX.1 (hall 13 (by simp))
    rw [hall 14 (by simp)] at hb3
    simp only [if_true] at hb3
    have r12 : vs 15 = .bool true := hR 15 (by simp)
    have HB4 := Lib.hid hb3
    have HK4 := Lib.hid (HKR.out.fr hB NG)
    have HM4 := Lib.hid (HMR.out.fr hB NM)
    simp only [fillA, Act.put, List.setIfInBounds_toArray, List.set_cons_zero, List.set_cons_succ, if_true, r12, hb1]
    clear hall hX NG NM
    have HF4 := Lib.hid (HFR.out.trans hB (fun q hq => .inr (Nat.le_trans HWS.out hq)))
    have HO4 := Lib.hid (own_fr HOR.out hB (fun q hq e => by have := (HOR.out.lt q hq).2; omega))
    have HBB := Lib.hid hb2
    have HGM4 : Hid (gm < b) := Lib.hid (by have := HMR.out.lt; omega)
    have HG4 : Hid (g < b) := Lib.hid (by have := HKR.out.lt; omega)
    clear hB hR HKR HMR HFR HOR hb2
    have e0 := HK4.out.cell 0; have e1 := HK4.out.cell 1; have e2 := HK4.out.cell 2; have e3 := HK4.out.cell 3; have e4 := HK4.out.cell 4; have e5 := HK4.out.cell 5; have e6 := HK4.out.cell 6; have e7 := HK4.out.cell 7
    simp only [List.getElem?_toArray, List.getElem?_cons_zero, List.getElem?_cons_succ] at e0 e1 e2 e3 e4 e5 e6 e7
    go_wp2_with fail
    try simp only [Act.put]
    clear e0 e1 e2 e3 e4 e5 e6 e7
    refine wp_region_soft_last [Is (.pointer (some ⟨g, 0, none⟩)), Is (.pointer (some ⟨g, 0, none⟩)), Is (.pointer (some ⟨g, 6, none⟩)), Is (.map (some gm)), Is (.pointer (some ⟨g, 0, none⟩)), Is (.pointer (some ⟨g, 0, none⟩)), Is (.pointer (some ⟨g, 4, none⟩)), Is (.int .i64 G), Is (.int .i64 (G + 1))] ⟨stab_is _, stab_is _, stab_is _, stab_is _, stab_is _, stab_is _, stab_is _, stab_is _, stab_is _, trivial⟩ (by kernel_rfl) (by kernel_rfl) (by kernel_rfl) (Nat.zero_lt_succ _) ?_
    refine ⟨?_, ?_, ?_, ?_, ?_, ?_, ?_, ?_, ?_, ?_⟩
    all_goals intro done vs ac W1 hdep hB hR hE
    all_goals have ec : ∀ v : Value, ac.eval (.const v) = v := fun _ => rfl
    all_goals try simp [Region.binds] at hdep
    · have e0 : ac.eval (.tmp 0) = .pointer (some ⟨g, 0, none⟩) := (hE 0 (by simp)).trans (by simp [evF, Act.eval])
      exact soft_value (.pointer (some ⟨g, 0, none⟩)) (by unfold execOp; simp only [e0, ec]; rfl) rfl
    · have d0 : vs 0 = .pointer (some ⟨g, 0, none⟩) := hR 0 (by simp [hdep])
      have e84 : ac.eval (.tmp 84) = .pointer (some ⟨g, 0, none⟩) := (hE 84 (by simp)).trans (by simp [evF, hdep, d0])
      exact soft_value (.pointer (some ⟨g, 0, none⟩)) (by unfold execOp; simp only [e84]; go_simp) rfl
    · have d1 : vs 1 = .pointer (some ⟨g, 0, none⟩) := hR 1 (by simp [hdep])
      have e85 : ac.eval (.tmp 85) = .pointer (some ⟨g, 0, none⟩) := (hE 85 (by simp)).trans (by simp [evF, hdep, d1])
      exact soft_value (.pointer (some ⟨g, 6, none⟩)) (by unfold execOp; simp only [e85]; kernel_rfl) rfl
    · have d2 : vs 2 = .pointer (some ⟨g, 6, none⟩) := hR 2 (by simp [hdep])
      have e86 : ac.eval (.tmp 86) = .pointer (some ⟨g, 6, none⟩) := (hE 86 (by simp)).trans (by simp [evF, hdep, d2])
      have hc6 : W1.cell? ⟨g, 6, none⟩ = some (.map (some gm)) := (HK4.out.below hB HK4.out.lt).cell 6
      exact soft_value (.map (some gm)) (by unfold execOp; simp only [e86]; go_simp) rfl
    · have e0 : ac.eval (.tmp 0) = .pointer (some ⟨g, 0, none⟩) := (hE 0 (by simp)).trans (by simp [evF, Act.eval])
      exact soft_value (.pointer (some ⟨g, 0, none⟩)) (by unfold execOp; simp only [e0, ec]; rfl) rfl
    · have d4 : vs 4 = .pointer (some ⟨g, 0, none⟩) := hR 4 (by simp [hdep])
      have e88 : ac.eval (.tmp 88) = .pointer (some ⟨g, 0, none⟩) := (hE 88 (by simp)).trans (by simp [evF, hdep, d4])
      exact soft_value (.pointer (some ⟨g, 0, none⟩)) (by unfold execOp; simp only [e88]; go_simp) rfl
    · have d5 : vs 5 = .pointer (some ⟨g, 0, none⟩) := hR 5 (by simp [hdep])
      have e89 : ac.eval (.tmp 89) = .pointer (some ⟨g, 0, none⟩) := (hE 89 (by simp)).trans (by simp [evF, hdep, d5])
      exact soft_value (.pointer (some ⟨g, 4, none⟩)) (by unfold execOp; simp only [e89]; kernel_rfl) rfl
    · have d6 : vs 6 = .pointer (some ⟨g, 4, none⟩) := hR 6 (by simp [hdep])
      have e90 : ac.eval (.tmp 90) = .pointer (some ⟨g, 4, none⟩) := (hE 90 (by simp)).trans (by simp [evF, hdep, d6])
      have hc4 : W1.cell? ⟨g, 4, none⟩ = some (.int .i64 G) := (HK4.out.below hB HK4.out.lt).cell 4
      exact soft_value (.int .i64 G) (by unfold execOp; simp only [e90]; go_simp) rfl
    · have d7 : vs 7 = .int .i64 G := hR 7 (by simp [hdep])
      have e91 : ac.eval (.tmp 91) = .int .i64 G := (hE 91 (by simp)).trans (by simp [evF, hdep, d7])
      exact soft_value (.int .i64 (G + 1)) (by unfold execOp; simp only [e91, ec]; go_simp) rfl
    have hall := hdep
    have d3 : vs 3 = .map (some gm) := hR 3 (by omega)
    have e87 : ac.eval (.tmp 87) = .map (some gm) := (hE 87 (by simp)).trans (by simp [evF, hall 3 (by omega), d3])
    have d8 : vs 8 = .int .i64 (G + 1) := hR 8 (by omega)
    have e92 : ac.eval (.tmp 92) = .int .i64 (G + 1) := (hE 92 (by simp)).trans (by simp [evF, hall 8 (by omega), d8])
    obtain ⟨W6, hdel, hm6, hg6, hs6⟩ := (HM4.out.below hB HM4.out.lt).del (P := Try.prog) (keyInt .i64) Try.underlying88 Try.underlying3 (G + 1) 0
    refine wp_del3 (.tmp 87) (.tmp 92) 88 3 rfl _ _ e87 e92 hdel ⟨.tuple #[], rfl, ?_⟩
    have HK6 := Lib.hid ((HK4.out.below hB HK4.out.lt).grown hg6 (fun e => HNGR.out (by injection e with e; exact e.symm)))
    have HB6 := Lib.hid ((HB4.out.below hB HB4.out.lt).grown hg6 (fun e => by injection e with e; have := HGM4.out; omega))
    have HO6 := Lib.hid (own_fr (own_kept_below HO4.out hB) ((Fr.refl (fun k => k = gm) _).grown hg6 (fun k hk => by injection hk with hk; exact .inl hk.symm)) (fun q hq e => (HM4.out.below hB HM4.out.lt).ne_own (own_kept_below HO4.out hB) (by rw [hq, e])))
    have HM6 := Lib.hid hm6
    have HF6 : Hid (Fr (fun j => j = g ∨ j = gm) w W6) := Lib.hid ((HF4.out.on hB).grown hg6 (fun k hk => by injection hk with hk; exact .inl (.inr hk.symm)))
    simp only [fillA, Act.put, List.setIfInBounds_toArray, List.set_cons_zero, List.set_cons_succ, if_true]
    clear hdel hm6 hg6 hs6 hE hR hB HK4 HB4 HO4 HM4 HF4 hall hdep
    have e0 := HK6.out.cell 0; have e1 := HK6.out.cell 1; have e2 := HK6.out.cell 2; have e3 := HK6.out.cell 3; have e4 := HK6.out.cell 4; have e5 := HK6.out.cell 5; have e6 := HK6.out.cell 6; have e7 := HK6.out.cell 7
    simp only [List.getElem?_toArray, List.getElem?_cons_zero, List.getElem?_cons_succ] at e0 e1 e2 e3 e4 e5 e6 e7
    have f4 := HK6.out.frozen 4
    go_upto_region 20 with (fail)
    have HK7 : Hid (Blk (W6.setCell ⟨g, 4, none⟩ (.int .i64 (G + 1))) g 90 #[.string s, .string o, .slice none 0 0, .int .i64 0, .int .i64 (G + 1), .int .i64 sure, .map (some gm), .bool true]) := Lib.hid (HK6.out.set_ 4 (.int .i64 (G + 1)))
    have HB7 : Hid (Blk (W6.setCell ⟨g, 4, none⟩ (.int .i64 (G + 1))) b 32 #[.string y.fr, .string y.dst, .int .i64 y.num, .int .i64 y.kind, .int .i64 y.ack, .string ⟨#[]⟩, .string ⟨#[]⟩, .string ⟨#[]⟩, .int .i64 y.idx, .int .i64 0, .string ⟨#[]⟩, .int .i64 0, .slice none 0 0, .slice none 0 0]) := Lib.hid (HB6.out.far (p := ⟨g, 4, none⟩) (by have := HG4.out; simp; omega) _)
    have HFS : Hid (Fr (fun k => k = g) W6 (W6.setCell ⟨g, 4, none⟩ (.int .i64 (G + 1)))) := Lib.hid ((show Fr (fun k => k = g) W6 W6 from Fr.refl _ _).setCell (p := ⟨g, 4, none⟩) (.inl rfl) _)
    have HM7 := Lib.hid (HM6.out.fr HFS.out HNGR.out)
    have HO7 := Lib.hid (own_set HO6.out HK6.out 4 (.int .i64 (G + 1)))
    have HF7 := Lib.hid (HF6.out.setCell (p := ⟨g, 4, none⟩) (.inl (.inl rfl)) (.int .i64 (G + 1)))
    obtain ⟨w2, hw2⟩ : ∃ W, W6.setCell ⟨g, 4, none⟩ (.int .i64 (G + 1)) = W := ⟨_, rfl⟩
    rw [hw2] at HK7 HB7 HM7 HO7 HF7 ⊢
    clear hw2 HFS HK6 HB6 HO6 HM6 HF6 e0 e1 e2 e3 e4 e5 e6 e7 f4
    have hq0 : 0 < 14 := by omega
    have hq3 : 0 + 1 ≤ maxLen := by have := HK64.out; unfold maxLen; omega
    have hq4 : (0 + 1) * 192 ≤ 140737488355328 := by have := HK64.out; omega
    have hq5 := lt_one y
    have HO8 := Lib.hid (HO7.out.alloc (.cells #[.string y.fr, .string y.dst, .int .i64 y.num, .int .i64 y.kind, .int .i64 y.ack, .string ⟨#[]⟩, .string ⟨#[]⟩, .string ⟨#[]⟩, .int .i64 y.idx, .int .i64 0, .string ⟨#[]⟩, .int .i64 0, .slice none 0 0, .slice none 0 0] 32))
    have HM8 := Lib.hid (HM7.out.alloc (.cells #[.string y.fr, .string y.dst, .int .i64 y.num, .int .i64 y.kind, .int .i64 y.ack, .string ⟨#[]⟩, .string ⟨#[]⟩, .string ⟨#[]⟩, .int .i64 y.idx, .int .i64 0, .string ⟨#[]⟩, .int .i64 0, .slice none 0 0, .slice none 0 0] 32))
    have HK8 := Lib.hid (HK7.out.alloc (.cells #[.string y.fr, .string y.dst, .int .i64 y.num, .int .i64 y.kind, .int .i64 y.ack, .string ⟨#[]⟩, .string ⟨#[]⟩, .string ⟨#[]⟩, .int .i64 y.idx, .int .i64 0, .string ⟨#[]⟩, .int .i64 0, .slice none 0 0, .slice none 0 0] 32))
    have HF8 := Lib.hid (HF7.out.alloc (.cells #[.string y.fr, .string y.dst, .int .i64 y.num, .int .i64 y.kind, .int .i64 y.ack, .string ⟨#[]⟩, .string ⟨#[]⟩, .string ⟨#[]⟩, .int .i64 y.idx, .int .i64 0, .string ⟨#[]⟩, .int .i64 0, .slice none 0 0, .slice none 0 0] 32))
    have HSX : Hid (w.heap.size ≤ (w2.alloc (.cells #[.string y.fr, .string y.dst, .int .i64 y.num, .int .i64 y.kind, .int .i64 y.ack, .string ⟨#[]⟩, .string ⟨#[]⟩, .string ⟨#[]⟩, .int .i64 y.idx, .int .i64 0, .string ⟨#[]⟩, .int .i64 0, .slice none 0 0, .slice none 0 0] 32)).heap.size) := Lib.hid HF8.out.size
    have HNW := Lib.hid (news_at w2 #[.string y.fr, .string y.dst, .int .i64 y.num, .int .i64 y.kind, .int .i64 y.ack, .string ⟨#[]⟩, .string ⟨#[]⟩, .string ⟨#[]⟩, .int .i64 y.idx, .int .i64 0, .string ⟨#[]⟩, .int .i64 0, .slice none 0 0, .slice none 0 0] 32 w2.heap.size rfl)
    go_wp2_with (first | ((refine stop_load 32 _ rfl ?_; refine wpList_load_want rfl 32 _ rfl b rfl 32 _ _ HB7.out Try.underlying32 rfl (by kernel_rfl) ?_)) | (at_builtin; refine wpList_append_own_at _ rfl (.tmp 100) (.tmp 102) 26 rfl w.heap.size 32 i0 _ 14 192 Try.underlying26 hi hz0 hz1 hz2 rfl hq0 _ 0 _ rfl HO8.out ⟨w2.heap.size, 0, none⟩ 1 1 (ltC y) rfl rfl HNW.out hq5 hq3 hq4 HSX.out ?_; intro v9 w9 hown9 hg9 hl0 hl1; have HG9 := Lib.hid hg9; have HO9 := Lib.hid hown9; clear hown9 hg9 hl0 hl1))
    have HGOT2 : Hid (Got w s o got sure gm g m0 v9 w9) := Lib.hid ⟨0 + 1, _, _, ys ++ [y], by have := HIN.out; have := HGG.out; omega, by have := HK8.out.grown HG9.out (fun e => own_blk_ne HO8.out HK8.out (by decide) e.symm); rw [← HGG.out] at this; rw [show got + (((0 + 1 : Nat)) : Int) = got + ((0 : Nat) : Int) + 1 by omega]; exact this, HM8.out.kept HG9.out (fun e => HM8.out.ne_own HO8.out e.symm), by rw [List.flatMap_append]; simpa using HO9.out, by rw [List.length_append, HYL.out]; rfl, fun i hi => ?_, fun q => ?_, HF8.out.grown HG9.out (fun q hq => .inr ((HO8.out.lt q hq).1))⟩
    · go_step3
      exact ⟨rfl, at_next_of v9 (by kernel_rfl) HGOT2⟩
    · by_cases e : i = 0
      · rw [e, List.getElem?_append_right (by rw [HYL.out]; omega), HYL.out, Nat.sub_self]
        have h1 := HMY.out
        rw [← HGG.out] at h1
        rw [show got + 1 + ((0 : Nat) : Int) = got + ((0 : Nat) : Int) + 1 by omega, h1]; rfl
      · rw [List.getElem?_append_left (by rw [HYL.out]; omega)]
        exact HYS.out i (by omega)
    · have h1 := HMQ.out q
      unfold delF
      have h2 := HGG.out
      by_cases e : q = G + 1
      · rw [if_pos e, if_pos (by omega)]
      · rw [if_neg e, h1]
        by_cases e2 : got < q ∧ q ≤ got + ((0 : Nat) : Int)
        · rw [if_pos e2, if_pos (by omega)]
        · rw [if_neg e2, if_neg (by omega)]
end Go.Proofs.Ytlicmhgpldmliaa.kit
