/- The credit that asks for the papers of a deal without boxes and insurer: four needs. Condition: the table of powers of ten. -/
import Derived.Test.YtlicmhgpldmliaaDoorPpD
import Derived.Deep.Cut
namespace Go.Proofs.YtlicmhgpldmliaaDoor.kit
open Go.RowKit Go.PlainAid
set_option linter.unusedVariables false
set_option linter.unusedSimpArgs false

/-- A block of needs that its slice fills. -/
def FullN (n lo : Nat) : Value → World → Prop := fun v W => ∃ b cs, v = .slice (some ⟨b, 0, none⟩) n n ∧ Blk W b 61 cs ∧ cs.size = n * 8 ∧ lo ≤ b
theorem stab_fulln (n lo : Nat) : Stab (FullN n lo) := fun _ _ _ ⟨b, cs, h1, h2, h3, h4⟩ hb => ⟨b, cs, h1, h2.below hb h2.lt, h3, h4⟩
/-- A need of so many rules. -/
def NeedR (k : Int) (m : Nat) : Value → World → Prop := fun v W => ∃ A c, v = .agg #[.int .i64 k, .int .i64 1, .int .i64 0, .int .i64 0, .string ⟨#[]⟩, .string ⟨#[]⟩, .int .i64 0, .slice A m c]
theorem stab_needr (k : Int) (m : Nat) : Stab (NeedR k m) := fun _ _ _ h _ => h
def DocE (n : Nat) : Value → World → Prop := fun v W => ∃ (k : Int) (nu is : ByteArray) (A : Option Addr) (c : Nat) (FS : List Fd), v = .agg #[.int .i64 k, .string nu, .string is, .slice A n c] ∧ SliceOf W 2 fdC A n FS
theorem stab_doce (n : Nat) : Stab (DocE n) := fun _ _ _ ⟨k, nu, is, A, c, FS, h1, h2⟩ hb => ⟨k, nu, is, A, c, FS, h1, h2.below hb⟩
theorem soft_append_grow {P : Program} {R : List (Value → World → Prop)} {o : Oper} {a : Act} {w : World} {k : Nat} {Q : Exit → Act → World → Prop} (s x : Operand) (t : TypeId) (ho : o.op = .call { callee := .builtin .append, args := #[s, x], argTypes := #[t, t] })
    (e : TypeId) (i : TypeInfo) (z : Value) (ht : P.underlying t = some (.slice e)) (hi : P.info? e = some i) (hz : i.zero = some z)
    (b sLen sCap : Nat) (olds : Array Value) (hb : Blk w b e olds) (hlo : olds.size = sLen * i.size) (b2 n c : Nat) (news : Array Value) (hb2 : Blk w b2 e news) (hl : news.size = n * i.size)
    (hs : a.eval s = .slice (some ⟨b, 0, none⟩) sLen sCap) (hx : a.eval x = .slice (some ⟨b2, 0, none⟩) n c) (hg : sCap < sLen + n) (h63 : ((sLen + n : Nat) : Int) ≤ 9223372036854775807) (hfit : Builtin.nextslicecap (sLen + n) sCap * i.bytes ≤ 281474976710656)
    (hr : ∀ A c' w', nthR R k (.slice A (sLen + n) c') w') : o.wp P a w (fun a' w' => ∃ v, a' = a.put o.dst v ∧ Below w.heap.size w w' ∧ nthR R k v w') Q := by
  have h := run_append_grow (P := P) (w := w) t o.type e i z ht hi hz ⟨b, 0, none⟩ sLen sCap olds.toList (by simpa using hlo) (fun j v hj => by rw [addr_add, Nat.zero_add, hb.cell j, ← Array.getElem?_toList]; exact hj) ⟨b2, 0, none⟩ n c news.toList (by simpa using hl) (fun j v hj => by rw [addr_add, Nat.zero_add, hb2.cell j, ← Array.getElem?_toList]; exact hj) hg h63 hfit
  unfold Oper.wp execOp
  simp only [ho, resolve, invoke, builtin, Sem.run_bind, Sem.run_pure, Result.andThen_ok, List.map_toArray, List.map_cons, List.map_nil, hs, hx, h]
  exact ⟨_, rfl, (Below.refl w.heap.size w).drew.alloc (Nat.le_refl _) _, hr _ _ _⟩
theorem bs2 (a0 a1 : ByteArray) (w : World) : (Instr.buildSlice 73 2 #[(0, .string a0), (1, .string a1)]).run Tryd.prog w = .ok (.slice (some ⟨w.heap.size, 0, none⟩) 2 2) (w.alloc (.cells #[.string a0, .string a1] 9)) := by kernel_rfl
theorem build_cr (nu bu se is fr dst cu : ByteArray) (am la ex te : Int) (w : World) : (Instr.build 43 #[(0, .string nu), (1, .string bu), (2, .string se), (3, .string is), (5, .string fr), (6, .string dst), (7, .agg #[.string cu, .int .i64 am]), (10, .int .i64 la), (11, .int .i64 ex), (12, .int .i64 21), (13, .int .i64 te), (15, .bool true)]).run Tryd.prog w = .ok (.agg #[.string nu, .string bu, .string se, .string is, .string ⟨#[]⟩, .string fr, .string dst, .string cu, .int .i64 am, .int .i64 0, .int .i64 0, .int .i64 la, .int .i64 ex, .int .i64 21, .int .i64 te, .bool false, .bool true, .slice none 0 0]) w := run_build w _ _ _ (by kernel_rfl)
theorem bn7 (f0 t0 f1 t1 f2 t2 f3 t3 f4 t4 f5 t5 f6 : ByteArray) (la : Int) (w : World) : (Instr.buildSlice 57 7 #[(0, .agg #[.int .i64 3, .int .i64 0, .string f0, .string t0, .int .i64 0, .slice none 0 0]), (1, .agg #[.int .i64 3, .int .i64 0, .string f1, .string t1, .int .i64 0, .slice none 0 0]), (2, .agg #[.int .i64 3, .int .i64 0, .string f2, .string t2, .int .i64 0, .slice none 0 0]), (3, .agg #[.int .i64 3, .int .i64 0, .string f3, .string t3, .int .i64 0, .slice none 0 0]), (4, .agg #[.int .i64 3, .int .i64 0, .string f4, .string t4, .int .i64 0, .slice none 0 0]), (5, .agg #[.int .i64 3, .int .i64 0, .string f5, .string t5, .int .i64 0, .slice none 0 0]), (6, .agg #[.int .i64 5, .int .i64 0, .string f6, .string ⟨#[]⟩, .int .i64 la, .slice none 0 0])]).run Tryd.prog w = .ok (.slice (some ⟨w.heap.size, 0, none⟩) 7 7) (w.alloc (.cells #[.int .i64 3, .int .i64 0, .string f0, .string t0, .int .i64 0, .slice none 0 0, .int .i64 3, .int .i64 0, .string f1, .string t1, .int .i64 0, .slice none 0 0, .int .i64 3, .int .i64 0, .string f2, .string t2, .int .i64 0, .slice none 0 0, .int .i64 3, .int .i64 0, .string f3, .string t3, .int .i64 0, .slice none 0 0, .int .i64 3, .int .i64 0, .string f4, .string t4, .int .i64 0, .slice none 0 0, .int .i64 3, .int .i64 0, .string f5, .string t5, .int .i64 0, .slice none 0 0, .int .i64 5, .int .i64 0, .string f6, .string ⟨#[]⟩, .int .i64 la, .slice none 0 0] 59)) := by kernel_rfl
theorem bne3 (k0 k1 k2 : Int) (A0 A1 A2 : Option Addr) (m0 c0 m1 c1 m2 c2 : Nat) (w : World) : (Instr.buildSlice 41 3 #[(0, .agg #[.int .i64 k0, .int .i64 1, .int .i64 0, .int .i64 0, .string ⟨#[]⟩, .string ⟨#[]⟩, .int .i64 0, .slice A0 m0 c0]), (1, .agg #[.int .i64 k1, .int .i64 1, .int .i64 0, .int .i64 0, .string ⟨#[]⟩, .string ⟨#[]⟩, .int .i64 0, .slice A1 m1 c1]), (2, .agg #[.int .i64 k2, .int .i64 1, .int .i64 0, .int .i64 0, .string ⟨#[]⟩, .string ⟨#[]⟩, .int .i64 0, .slice A2 m2 c2])]).run Tryd.prog w = .ok (.slice (some ⟨w.heap.size, 0, none⟩) 3 3) (w.alloc (.cells #[.int .i64 k0, .int .i64 1, .int .i64 0, .int .i64 0, .string ⟨#[]⟩, .string ⟨#[]⟩, .int .i64 0, .slice A0 m0 c0, .int .i64 k1, .int .i64 1, .int .i64 0, .int .i64 0, .string ⟨#[]⟩, .string ⟨#[]⟩, .int .i64 0, .slice A1 m1 c1, .int .i64 k2, .int .i64 1, .int .i64 0, .int .i64 0, .string ⟨#[]⟩, .string ⟨#[]⟩, .int .i64 0, .slice A2 m2 c2] 61)) := by kernel_rfl
theorem bne1 (k0 : Int) (A0 : Option Addr) (m0 c0 : Nat) (w : World) : (Instr.buildSlice 41 1 #[(0, .agg #[.int .i64 k0, .int .i64 1, .int .i64 0, .int .i64 0, .string ⟨#[]⟩, .string ⟨#[]⟩, .int .i64 0, .slice A0 m0 c0])]).run Tryd.prog w = .ok (.slice (some ⟨w.heap.size, 0, none⟩) 1 1) (w.alloc (.cells #[.int .i64 k0, .int .i64 1, .int .i64 0, .int .i64 0, .string ⟨#[]⟩, .string ⟨#[]⟩, .int .i64 0, .slice A0 m0 c0] 61)) := by kernel_rfl
theorem build_most (la : Int) (w : World) : (Instr.build 59 #[(0, .int .i64 5), (2, .string ⟨#[105, 115, 115, 117, 101, 100]⟩), (4, .int .i64 la)]).run Tryd.prog w = .ok (.agg #[.int .i64 5, .int .i64 0, .string ⟨#[105, 115, 115, 117, 101, 100]⟩, .string ⟨#[]⟩, .int .i64 la, .slice none 0 0]) w := run_build w _ _ _ (by kernel_rfl)
theorem infoNe : (Tryd.prog.info? 61).map (fun i => (i.zero, i.size, i.bytes)) = some (some (.agg #[.int .i64 0, .int .i64 0, .int .i64 0, .int .i64 0, .string ByteArray.empty, .string ByteArray.empty, .int .i64 0, .slice none 0 0]), 8, 96) := by kernel_rfl
set_option maxRecDepth 100000 in
set_option maxHeartbeats 25600000 in
theorem wanted_any (nu se bu ca is ho fr dst cu : ByteArray) (am term la ex te du : Int) (w : World) (h1 : I64 am) (h2 : I64 term) (hn : nu.size ≤ 1000) (ht : PowTab w) :
    Calls Tryd.prog 13 #[.agg #[.string nu, .string se, .string bu, .string ca, .string is, .string ho, .string ⟨#[]⟩, .string fr, .string dst, .string cu, .int .i64 am, .slice none 0 0, .int .i64 term, .int .i64 la, .int .i64 ex, .int .i64 te, .int .i64 du]] w fun e w' => ∃ A c, e = .returned (.agg #[.string nu, .string bu, .string se, .string is, .string ⟨#[]⟩, .string fr, .string dst, .string cu, .int .i64 am, .int .i64 0, .int .i64 0, .int .i64 la, .int .i64 ex, .int .i64 21, .int .i64 te, .bool false, .bool true, .slice A 4 c]) ∧ Below w.heap.size w w' := by
  have HTB := Lib.hid (Lib.tabBelow_of_tabIs ht)
  have HI := Lib.hid (⟨h1, h2⟩ : I64 am ∧ I64 term)
  have HN := Lib.hid hn
  obtain ⟨i0, hi, hz0, hz1, hz2⟩ := info_parts infoNe
  clear ht h1 h2 hn
  have hbd := build_cr nu bu se is fr dst cu am la ex te
  have HB1 := Lib.hid (two_alloc w (.cells #[.string nu, .string se, .string bu, .string ca, .string is, .string ho, .string ⟨#[]⟩, .string fr, .string dst, .string cu, .int .i64 am, .slice none 0 0, .int .i64 term, .int .i64 la, .int .i64 ex, .int .i64 te, .int .i64 du] 47) (.cells #[.string ⟨#[]⟩, .string ⟨#[]⟩, .string ⟨#[]⟩, .string ⟨#[]⟩, .string ⟨#[]⟩, .string ⟨#[]⟩, .string ⟨#[]⟩, .string ⟨#[]⟩, .int .i64 0, .int .i64 0, .int .i64 0, .int .i64 0, .int .i64 0, .int .i64 0, .int .i64 0, .bool false, .bool false, .slice none 0 0] 43))
  have HK1 : Hid (Blk ((w.alloc (.cells #[.string nu, .string se, .string bu, .string ca, .string is, .string ho, .string ⟨#[]⟩, .string fr, .string dst, .string cu, .int .i64 am, .slice none 0 0, .int .i64 term, .int .i64 la, .int .i64 ex, .int .i64 te, .int .i64 du] 47)).alloc (.cells #[.string ⟨#[]⟩, .string ⟨#[]⟩, .string ⟨#[]⟩, .string ⟨#[]⟩, .string ⟨#[]⟩, .string ⟨#[]⟩, .string ⟨#[]⟩, .string ⟨#[]⟩, .int .i64 0, .int .i64 0, .int .i64 0, .int .i64 0, .int .i64 0, .int .i64 0, .int .i64 0, .bool false, .bool false, .slice none 0 0] 43)) w.heap.size 47 #[.string nu, .string se, .string bu, .string ca, .string is, .string ho, .string ⟨#[]⟩, .string fr, .string dst, .string cu, .int .i64 am, .slice none 0 0, .int .i64 term, .int .i64 la, .int .i64 ex, .int .i64 te, .int .i64 du]) := Lib.hid ((Blk.new _ _ _).alloc _)
  have HR1 : Hid (Blk ((w.alloc (.cells #[.string nu, .string se, .string bu, .string ca, .string is, .string ho, .string ⟨#[]⟩, .string fr, .string dst, .string cu, .int .i64 am, .slice none 0 0, .int .i64 term, .int .i64 la, .int .i64 ex, .int .i64 te, .int .i64 du] 47)).alloc (.cells #[.string ⟨#[]⟩, .string ⟨#[]⟩, .string ⟨#[]⟩, .string ⟨#[]⟩, .string ⟨#[]⟩, .string ⟨#[]⟩, .string ⟨#[]⟩, .string ⟨#[]⟩, .int .i64 0, .int .i64 0, .int .i64 0, .int .i64 0, .int .i64 0, .int .i64 0, .int .i64 0, .bool false, .bool false, .slice none 0 0] 43)) (w.heap.size + 1) 43 #[.string ⟨#[]⟩, .string ⟨#[]⟩, .string ⟨#[]⟩, .string ⟨#[]⟩, .string ⟨#[]⟩, .string ⟨#[]⟩, .string ⟨#[]⟩, .string ⟨#[]⟩, .int .i64 0, .int .i64 0, .int .i64 0, .int .i64 0, .int .i64 0, .int .i64 0, .int .i64 0, .bool false, .bool false, .slice none 0 0]) := Lib.hid (blk_second _ _ _ _)
  have HS1 : Hid (((w.alloc (.cells #[.string nu, .string se, .string bu, .string ca, .string is, .string ho, .string ⟨#[]⟩, .string fr, .string dst, .string cu, .int .i64 am, .slice none 0 0, .int .i64 term, .int .i64 la, .int .i64 ex, .int .i64 te, .int .i64 du] 47)).alloc (.cells #[.string ⟨#[]⟩, .string ⟨#[]⟩, .string ⟨#[]⟩, .string ⟨#[]⟩, .string ⟨#[]⟩, .string ⟨#[]⟩, .string ⟨#[]⟩, .string ⟨#[]⟩, .int .i64 0, .int .i64 0, .int .i64 0, .int .i64 0, .int .i64 0, .int .i64 0, .int .i64 0, .bool false, .bool false, .slice none 0 0] 43)).heap.size = w.heap.size + 2) := Lib.hid (by simp)
  go_enter Tryd.func13, Tryd.ntmps13
  go_upto_region 1 with (fail)
  obtain ⟨wa, hwa⟩ : ∃ W, ((w.alloc (.cells #[.string nu, .string se, .string bu, .string ca, .string is, .string ho, .string ⟨#[]⟩, .string fr, .string dst, .string cu, .int .i64 am, .slice none 0 0, .int .i64 term, .int .i64 la, .int .i64 ex, .int .i64 te, .int .i64 du] 47)).alloc (.cells #[.string ⟨#[]⟩, .string ⟨#[]⟩, .string ⟨#[]⟩, .string ⟨#[]⟩, .string ⟨#[]⟩, .string ⟨#[]⟩, .string ⟨#[]⟩, .string ⟨#[]⟩, .int .i64 0, .int .i64 0, .int .i64 0, .int .i64 0, .int .i64 0, .int .i64 0, .int .i64 0, .bool false, .bool false, .slice none 0 0] 43)) = W := ⟨_, rfl⟩
  rw [hwa] at HB1 HK1 HR1 HS1 ⊢
  obtain ⟨g, hg⟩ : ∃ g, w.heap.size = g := ⟨_, rfl⟩
  rw [hg] at HK1 HR1 HS1
  simp only [hg]
  have HG := Lib.hid hg
  clear hg hwa
  have z0 := HK1.out.cell 0; have z1 := HK1.out.cell 1; have z2 := HK1.out.cell 2; have z4 := HK1.out.cell 4; have z7 := HK1.out.cell 7; have z8 := HK1.out.cell 8; have z9 := HK1.out.cell 9; have z10 := HK1.out.cell 10; have z13 := HK1.out.cell 13; have z14 := HK1.out.cell 14; have z15 := HK1.out.cell 15
  simp only [List.getElem?_toArray, List.getElem?_cons_zero, List.getElem?_cons_succ] at z0 z1 z2 z4 z7 z8 z9 z10 z13 z14 z15
  go_wp2_with ((refine stop_store 43 _ _ rfl ?_; refine wpList_store_new rfl 43 _ _ rfl _ rfl rfl (by kernel_rfl) rfl rfl ?_))
  clear z0 z1 z2 z4 z7 z8 z9 z10 z13 z14 z15
  have HBB := Lib.hid (HB1.out.alloc HB1.out.size (.cells #[.string nu, .string bu, .string se, .string is, .string ⟨#[]⟩, .string fr, .string dst, .string cu, .int .i64 am, .int .i64 0, .int .i64 0, .int .i64 la, .int .i64 ex, .int .i64 21, .int .i64 te, .bool false, .bool true, .slice none 0 0] 43))
  have HK0 := Lib.hid (HK1.out.alloc (.cells #[.string nu, .string bu, .string se, .string is, .string ⟨#[]⟩, .string fr, .string dst, .string cu, .int .i64 am, .int .i64 0, .int .i64 0, .int .i64 la, .int .i64 ex, .int .i64 21, .int .i64 te, .bool false, .bool true, .slice none 0 0] 43))
  have HR0 := Lib.hid (HR1.out.alloc (.cells #[.string nu, .string bu, .string se, .string is, .string ⟨#[]⟩, .string fr, .string dst, .string cu, .int .i64 am, .int .i64 0, .int .i64 0, .int .i64 la, .int .i64 ex, .int .i64 21, .int .i64 te, .bool false, .bool true, .slice none 0 0] 43))
  have HC0 : Hid (Blk (wa.alloc (.cells #[.string nu, .string bu, .string se, .string is, .string ⟨#[]⟩, .string fr, .string dst, .string cu, .int .i64 am, .int .i64 0, .int .i64 0, .int .i64 la, .int .i64 ex, .int .i64 21, .int .i64 te, .bool false, .bool true, .slice none 0 0] 43)) (g + 2) 43 #[.string nu, .string bu, .string se, .string is, .string ⟨#[]⟩, .string fr, .string dst, .string cu, .int .i64 am, .int .i64 0, .int .i64 0, .int .i64 la, .int .i64 ex, .int .i64 21, .int .i64 te, .bool false, .bool true, .slice none 0 0]) := Lib.hid (Blk.new_at _ _ _ _ HS1.out.symm)
  have HS0 : Hid (g + 3 ≤ (wa.alloc (.cells #[.string nu, .string bu, .string se, .string is, .string ⟨#[]⟩, .string fr, .string dst, .string cu, .int .i64 am, .int .i64 0, .int .i64 0, .int .i64 la, .int .i64 ex, .int .i64 21, .int .i64 te, .bool false, .bool true, .slice none 0 0] 43)).heap.size) := Lib.hid (by rw [size_alloc]; have := HS1.out; omega)
  obtain ⟨ws, hws⟩ : ∃ W, (wa.alloc (.cells #[.string nu, .string bu, .string se, .string is, .string ⟨#[]⟩, .string fr, .string dst, .string cu, .int .i64 am, .int .i64 0, .int .i64 0, .int .i64 la, .int .i64 ex, .int .i64 21, .int .i64 te, .bool false, .bool true, .slice none 0 0] 43)) = W := ⟨_, rfl⟩
  rw [hws] at HBB HK0 HR0 HC0 HS0 ⊢
  rw [HS1.out]
  try simp only [Act.put]
  clear HB1 HK1 HR1 HS1
  clear hws hbd
  refine wp_region_soft_last [Is (.agg #[.string nu, .string se, .string bu, .string ca, .string is, .string ho, .string ⟨#[]⟩, .string fr, .string dst, .string cu, .int .i64 am, .slice none 0 0, .int .i64 term, .int .i64 la, .int .i64 ex, .int .i64 te, .int .i64 du]), DocE 8, SlHi 0 1 strC 6 [⟨#[115, 101, 108, 108, 101, 114]⟩, ⟨#[98, 117, 121, 101, 114]⟩, ⟨#[99, 117, 114, 114, 101, 110, 99, 121]⟩, ⟨#[115, 117, 109]⟩, ⟨#[102, 114, 111, 109]⟩, ⟨#[116, 111]⟩], Sl 6, NeedR 0 6, Is (.agg #[.string nu, .string se, .string bu, .string ca, .string is, .string ho, .string ⟨#[]⟩, .string fr, .string dst, .string cu, .int .i64 am, .slice none 0 0, .int .i64 term, .int .i64 la, .int .i64 ex, .int .i64 te, .int .i64 du]), DocE 6, SlHi 0 1 strC 2 [⟨#[98, 111, 120, 101, 115]⟩, ⟨#[109, 97, 114, 107, 115]⟩], Sl 2, NeedR 1 2, Is (.pointer (some ⟨g, 3, none⟩)), Is (.string ca), Is (.agg #[.int .i64 3, .int .i64 0, .string ⟨#[99, 97, 114, 114, 105, 101, 114]⟩, .string ca, .int .i64 0, .slice none 0 0]), Is (.pointer (some ⟨g, 1, none⟩)), Is (.string se), Is (.agg #[.int .i64 3, .int .i64 0, .string ⟨#[115, 104, 105, 112, 112, 101, 114]⟩, .string se, .int .i64 0, .slice none 0 0]), Is (.pointer (some ⟨g, 7, none⟩)), Is (.string fr), Is (.agg #[.int .i64 3, .int .i64 0, .string ⟨#[102, 114, 111, 109]⟩, .string fr, .int .i64 0, .slice none 0 0]), Is (.pointer (some ⟨g, 8, none⟩)), Is (.string dst), Is (.agg #[.int .i64 3, .int .i64 0, .string ⟨#[116, 111]⟩, .string dst, .int .i64 0, .slice none 0 0]), Is (.pointer (some ⟨g, 11, none⟩)), Is (.slice none 0 0), Is (.string ⟨#[]⟩), Is (.agg #[.int .i64 3, .int .i64 0, .string ⟨#[109, 97, 114, 107, 115]⟩, .string ⟨#[]⟩, .int .i64 0, .slice none 0 0]), Is (.agg #[.int .i64 3, .int .i64 0, .string ⟨#[99, 108, 101, 97, 110]⟩, .string ⟨#[121, 101, 115]⟩, .int .i64 0, .slice none 0 0]), Is (.pointer (some ⟨g, 13, none⟩)), Is (.int .i64 la), Is (.agg #[.int .i64 5, .int .i64 0, .string ⟨#[105, 115, 115, 117, 101, 100]⟩, .string ⟨#[]⟩, .int .i64 la, .slice none 0 0]), Sl 7, NeedR 2 7, FullN 3 (g + 3), Is (.pointer (some ⟨g + 2, 17, none⟩))] ⟨stab_is _, stab_doce _, stab_slhi _ _ _ _ _, stab_sl _, stab_needr _ _, stab_is _, stab_doce _, stab_slhi _ _ _ _ _, stab_sl _, stab_needr _ _, stab_is _, stab_is _, stab_is _, stab_is _, stab_is _, stab_is _, stab_is _, stab_is _, stab_is _, stab_is _, stab_is _, stab_is _, stab_is _, stab_is _, stab_is _, stab_is _, stab_is _, stab_is _, stab_is _, stab_is _, stab_sl _, stab_needr _ _, stab_fulln _ _, stab_is _, trivial⟩ (by kernel_rfl) (by kernel_rfl) (by kernel_rfl) (Nat.zero_lt_succ _) ?_
  refine ⟨?_, ?_, ?_, ?_, ?_, ?_, ?_, ?_, ?_, ?_, ?_, ?_, ?_, ?_, ?_, ?_, ?_, ?_, ?_, ?_, ?_, ?_, ?_, ?_, ?_, ?_, ?_, ?_, ?_, ?_, ?_, ?_, ?_, ?_, ?_⟩
  all_goals intro done vs ac W1 hdep hB hR hE
  all_goals have ec : ∀ v : Value, ac.eval (.const v) = v := fun _ => rfl
  all_goals try simp [Region.binds] at hdep
  · have e1 : ac.eval (.tmp 1) = .pointer (some ⟨g, 0, none⟩) := (hE 1 (by simp)).trans (by simp [evF, Act.eval])
    exact wp_load_row 47 _ rfl (g) e1 47 _ (0, 0) _ (HK0.out.below hB HK0.out.lt) Tryd.underlying47 rfl (by kernel_rfl) ⟨_, rfl, Below.refl _ _, rfl⟩
  · have d0 : vs 0 = .agg #[.string nu, .string se, .string bu, .string ca, .string is, .string ho, .string ⟨#[]⟩, .string fr, .string dst, .string cu, .int .i64 am, .slice none 0 0, .int .i64 term, .int .i64 la, .int .i64 ex, .int .i64 te, .int .i64 du] := hR 0 (by simp [hdep])
    have e25 : ac.eval (.tmp 25) = .agg #[.string nu, .string se, .string bu, .string ca, .string is, .string ho, .string ⟨#[]⟩, .string fr, .string dst, .string cu, .int .i64 am, .slice none 0 0, .int .i64 term, .int .i64 la, .int .i64 ex, .int .i64 te, .int .i64 du] := (hE 25 (by simp)).trans (by simp [evF, hdep, d0])
    refine soft_call 24 _ _ rfl (enters_fn Tryd.func24 (by kernel_rfl) rfl) #[.agg #[.string nu, .string se, .string bu, .string ca, .string is, .string ho, .string ⟨#[]⟩, .string fr, .string dst, .string cu, .int .i64 am, .slice none 0 0, .int .i64 term, .int .i64 la, .int .i64 ex, .int .i64 te, .int .i64 du]] (by simp [e25, ec]) ?_
    refine (invoice_any nu se bu ca is ho fr dst cu am term la ex te du W1 HI.out.1 HI.out.2 HN.out (HTB.out.on (HBB.out.trans (hB.mono HBB.out.size))).here).mono ?_
    rintro e9 w9 ⟨B, d, rfl, hs9, hb9⟩
    exact ⟨_, rfl, hb9, ⟨_, _, _, B, d, _, rfl, hs9⟩⟩
  · refine soft_build 73 9 6 _ rfl #[(0, .string ⟨#[115, 101, 108, 108, 101, 114]⟩), (1, .string ⟨#[98, 117, 121, 101, 114]⟩), (2, .string ⟨#[99, 117, 114, 114, 101, 110, 99, 121]⟩), (3, .string ⟨#[115, 117, 109]⟩), (4, .string ⟨#[102, 114, 111, 109]⟩), (5, .string ⟨#[116, 111]⟩)] (by simp [ec]) #[.string ⟨#[115, 101, 108, 108, 101, 114]⟩, .string ⟨#[98, 117, 121, 101, 114]⟩, .string ⟨#[99, 117, 114, 114, 101, 110, 99, 121]⟩, .string ⟨#[115, 117, 109]⟩, .string ⟨#[102, 114, 111, 109]⟩, .string ⟨#[116, 111]⟩] (bs6 ⟨#[115, 101, 108, 108, 101, 114]⟩ ⟨#[98, 117, 121, 101, 114]⟩ ⟨#[99, 117, 114, 114, 101, 110, 99, 121]⟩ ⟨#[115, 117, 109]⟩ ⟨#[102, 114, 111, 109]⟩ ⟨#[116, 111]⟩ W1) ⟨_, _, rfl, SliceOf.blk (en := strC) (Blk.new_at W1 9 _ _ rfl) [⟨#[115, 101, 108, 108, 101, 114]⟩, ⟨#[98, 117, 121, 101, 114]⟩, ⟨#[99, 117, 114, 114, 101, 110, 99, 121]⟩, ⟨#[115, 117, 109]⟩, ⟨#[102, 114, 111, 109]⟩, ⟨#[116, 111]⟩] rfl (fun _ => rfl) rfl, fun _ _ _ => Nat.zero_le _⟩
  · obtain ⟨k1, nu1, is1, A1, c1, FS1, d1, h1⟩ := (show (DocE 8) (vs 1) W1 from hR 1 (by simp [hdep]))
    have e26 : ac.eval (.tmp 26) = .agg #[.int .i64 k1, .string nu1, .string is1, .slice A1 8 c1] := (hE 26 (by simp)).trans (by simp [evF, hdep, d1])
    obtain ⟨A2, c2, d2, h2, _⟩ := (show (SlHi 0 1 strC 6 [⟨#[115, 101, 108, 108, 101, 114]⟩, ⟨#[98, 117, 121, 101, 114]⟩, ⟨#[99, 117, 114, 114, 101, 110, 99, 121]⟩, ⟨#[115, 117, 109]⟩, ⟨#[102, 114, 111, 109]⟩, ⟨#[116, 111]⟩]) (vs 2) W1 from hR 2 (by simp [hdep]))
    have e27 : ac.eval (.tmp 27) = .slice A2 6 c2 := (hE 27 (by simp)).trans (by simp [evF, hdep, d2])
    refine soft_call 23 _ _ rfl (enters_fn Tryd.func23 (by kernel_rfl) rfl) #[.agg #[.int .i64 k1, .string nu1, .string is1, .slice A1 8 c1], .slice A2 6 c2] (by simp [e26, e27, ec]) ?_
    refine (alike_any k1 nu1 is1 A1 8 c1 FS1 A2 6 c2 _ W1 h1 (by omega) h2 (by omega)).mono ?_
    rintro e9 w9 ⟨C, e8, rfl, hb9⟩
    exact ⟨_, rfl, hb9, ⟨_, _, rfl⟩⟩
  · obtain ⟨A3, c3, d3⟩ := (show (Sl 6) (vs 3) W1 from hR 3 (by simp [hdep]))
    have e28 : ac.eval (.tmp 28) = .slice A3 6 c3 := (hE 28 (by simp)).trans (by simp [evF, hdep, d3])
    refine soft_call 22 _ _ rfl (enters_fn Tryd.func22 (by kernel_rfl) rfl) #[.int .i64 0, .slice A3 6 c3] (by simp [e28, ec]) ?_
    refine (need_any 0 A3 6 c3 W1).mono ?_
    rintro e9 w9 ⟨rfl, hb9⟩
    exact ⟨_, rfl, hb9, ⟨_, _, rfl⟩⟩
  · have e1 : ac.eval (.tmp 1) = .pointer (some ⟨g, 0, none⟩) := (hE 1 (by simp)).trans (by simp [evF, Act.eval])
    exact wp_load_row 47 _ rfl (g) e1 47 _ (0, 0) _ (HK0.out.below hB HK0.out.lt) Tryd.underlying47 rfl (by kernel_rfl) ⟨_, rfl, Below.refl _ _, rfl⟩
  · have d5 : vs 5 = .agg #[.string nu, .string se, .string bu, .string ca, .string is, .string ho, .string ⟨#[]⟩, .string fr, .string dst, .string cu, .int .i64 am, .slice none 0 0, .int .i64 term, .int .i64 la, .int .i64 ex, .int .i64 te, .int .i64 du] := hR 5 (by simp [hdep])
    have e30 : ac.eval (.tmp 30) = .agg #[.string nu, .string se, .string bu, .string ca, .string is, .string ho, .string ⟨#[]⟩, .string fr, .string dst, .string cu, .int .i64 am, .slice none 0 0, .int .i64 term, .int .i64 la, .int .i64 ex, .int .i64 te, .int .i64 du] := (hE 30 (by simp)).trans (by simp [evF, hdep, d5])
    refine soft_call 25 _ _ rfl (enters_fn Tryd.func25 (by kernel_rfl) rfl) #[.agg #[.string nu, .string se, .string bu, .string ca, .string is, .string ho, .string ⟨#[]⟩, .string fr, .string dst, .string cu, .int .i64 am, .slice none 0 0, .int .i64 term, .int .i64 la, .int .i64 ex, .int .i64 te, .int .i64 du]] (by simp [e30, ec]) ?_
    refine (packing_any nu se bu ca is ho fr dst cu am term la ex te du W1 HI.out.1 HI.out.2 HN.out (HTB.out.on (HBB.out.trans (hB.mono HBB.out.size))).here).mono ?_
    rintro e9 w9 ⟨FS, B, d, rfl, hs9, hb9⟩
    exact ⟨_, rfl, hb9, ⟨_, _, _, B, d, _, rfl, hs9⟩⟩
  · refine soft_build 73 9 2 _ rfl #[(0, .string ⟨#[98, 111, 120, 101, 115]⟩), (1, .string ⟨#[109, 97, 114, 107, 115]⟩)] (by simp [ec]) #[.string ⟨#[98, 111, 120, 101, 115]⟩, .string ⟨#[109, 97, 114, 107, 115]⟩] (bs2 ⟨#[98, 111, 120, 101, 115]⟩ ⟨#[109, 97, 114, 107, 115]⟩ W1) ⟨_, _, rfl, SliceOf.blk (en := strC) (Blk.new_at W1 9 _ _ rfl) [⟨#[98, 111, 120, 101, 115]⟩, ⟨#[109, 97, 114, 107, 115]⟩] rfl (fun _ => rfl) rfl, fun _ _ _ => Nat.zero_le _⟩
  · obtain ⟨k6, nu6, is6, A6, c6, FS6, d6, h6⟩ := (show (DocE 6) (vs 6) W1 from hR 6 (by simp [hdep]))
    have e31 : ac.eval (.tmp 31) = .agg #[.int .i64 k6, .string nu6, .string is6, .slice A6 6 c6] := (hE 31 (by simp)).trans (by simp [evF, hdep, d6])
    obtain ⟨A7, c7, d7, h7, _⟩ := (show (SlHi 0 1 strC 2 [⟨#[98, 111, 120, 101, 115]⟩, ⟨#[109, 97, 114, 107, 115]⟩]) (vs 7) W1 from hR 7 (by simp [hdep]))
    have e32 : ac.eval (.tmp 32) = .slice A7 2 c7 := (hE 32 (by simp)).trans (by simp [evF, hdep, d7])
    refine soft_call 23 _ _ rfl (enters_fn Tryd.func23 (by kernel_rfl) rfl) #[.agg #[.int .i64 k6, .string nu6, .string is6, .slice A6 6 c6], .slice A7 2 c7] (by simp [e31, e32, ec]) ?_
    refine (alike_any k6 nu6 is6 A6 6 c6 FS6 A7 2 c7 _ W1 h6 (by omega) h7 (by omega)).mono ?_
    rintro e9 w9 ⟨C, e8, rfl, hb9⟩
    exact ⟨_, rfl, hb9, ⟨_, _, rfl⟩⟩
  · obtain ⟨A8, c8, d8⟩ := (show (Sl 2) (vs 8) W1 from hR 8 (by simp [hdep]))
    have e33 : ac.eval (.tmp 33) = .slice A8 2 c8 := (hE 33 (by simp)).trans (by simp [evF, hdep, d8])
    refine soft_call 22 _ _ rfl (enters_fn Tryd.func22 (by kernel_rfl) rfl) #[.int .i64 1, .slice A8 2 c8] (by simp [e33, ec]) ?_
    refine (need_any 1 A8 2 c8 W1).mono ?_
    rintro e9 w9 ⟨rfl, hb9⟩
    exact ⟨_, rfl, hb9, ⟨_, _, rfl⟩⟩
  · have e1 : ac.eval (.tmp 1) = .pointer (some ⟨g, 0, none⟩) := (hE 1 (by simp)).trans (by simp [evF, Act.eval])
    exact soft_value (.pointer (some ⟨g, 3, none⟩)) (by unfold execOp; simp only [e1]; kernel_rfl) rfl
  · have d10 : vs 10 = .pointer (some ⟨g, 3, none⟩) := hR 10 (by simp [hdep])
    have e35 : ac.eval (.tmp 35) = .pointer (some ⟨g, 3, none⟩) := (hE 35 (by simp)).trans (by simp [evF, hdep, d10])
    have hc3 : W1.cell? ⟨g, 3, none⟩ = some (.string ca) := (HK0.out.below hB HK0.out.lt).cell 3
    exact soft_value (.string ca) (by unfold execOp; simp only [e35]; go_simp) rfl
  · have d11 : vs 11 = .string ca := hR 11 (by simp [hdep])
    have e36 : ac.eval (.tmp 36) = .string ca := (hE 36 (by simp)).trans (by simp [evF, hdep, d11])
    refine soft_call 26 _ _ rfl (enters_fn Tryd.func26 (by kernel_rfl) rfl) #[.string ⟨#[99, 97, 114, 114, 105, 101, 114]⟩, .string ca] (by simp [e36, ec]) ?_
    refine (is_any ⟨#[99, 97, 114, 114, 105, 101, 114]⟩ ca W1).mono ?_
    rintro e9 w9 ⟨rfl, hb9⟩
    exact ⟨_, rfl, hb9, rfl⟩
  · have e1 : ac.eval (.tmp 1) = .pointer (some ⟨g, 0, none⟩) := (hE 1 (by simp)).trans (by simp [evF, Act.eval])
    exact soft_value (.pointer (some ⟨g, 1, none⟩)) (by unfold execOp; simp only [e1]; kernel_rfl) rfl
  · have d13 : vs 13 = .pointer (some ⟨g, 1, none⟩) := hR 13 (by simp [hdep])
    have e38 : ac.eval (.tmp 38) = .pointer (some ⟨g, 1, none⟩) := (hE 38 (by simp)).trans (by simp [evF, hdep, d13])
    have hc1 : W1.cell? ⟨g, 1, none⟩ = some (.string se) := (HK0.out.below hB HK0.out.lt).cell 1
    exact soft_value (.string se) (by unfold execOp; simp only [e38]; go_simp) rfl
  · have d14 : vs 14 = .string se := hR 14 (by simp [hdep])
    have e39 : ac.eval (.tmp 39) = .string se := (hE 39 (by simp)).trans (by simp [evF, hdep, d14])
    refine soft_call 26 _ _ rfl (enters_fn Tryd.func26 (by kernel_rfl) rfl) #[.string ⟨#[115, 104, 105, 112, 112, 101, 114]⟩, .string se] (by simp [e39, ec]) ?_
    refine (is_any ⟨#[115, 104, 105, 112, 112, 101, 114]⟩ se W1).mono ?_
    rintro e9 w9 ⟨rfl, hb9⟩
    exact ⟨_, rfl, hb9, rfl⟩
  · have e1 : ac.eval (.tmp 1) = .pointer (some ⟨g, 0, none⟩) := (hE 1 (by simp)).trans (by simp [evF, Act.eval])
    exact soft_value (.pointer (some ⟨g, 7, none⟩)) (by unfold execOp; simp only [e1]; kernel_rfl) rfl
  · have d16 : vs 16 = .pointer (some ⟨g, 7, none⟩) := hR 16 (by simp [hdep])
    have e41 : ac.eval (.tmp 41) = .pointer (some ⟨g, 7, none⟩) := (hE 41 (by simp)).trans (by simp [evF, hdep, d16])
    have hc7 : W1.cell? ⟨g, 7, none⟩ = some (.string fr) := (HK0.out.below hB HK0.out.lt).cell 7
    exact soft_value (.string fr) (by unfold execOp; simp only [e41]; go_simp) rfl
  · have d17 : vs 17 = .string fr := hR 17 (by simp [hdep])
    have e42 : ac.eval (.tmp 42) = .string fr := (hE 42 (by simp)).trans (by simp [evF, hdep, d17])
    refine soft_call 26 _ _ rfl (enters_fn Tryd.func26 (by kernel_rfl) rfl) #[.string ⟨#[102, 114, 111, 109]⟩, .string fr] (by simp [e42, ec]) ?_
    refine (is_any ⟨#[102, 114, 111, 109]⟩ fr W1).mono ?_
    rintro e9 w9 ⟨rfl, hb9⟩
    exact ⟨_, rfl, hb9, rfl⟩
  · have e1 : ac.eval (.tmp 1) = .pointer (some ⟨g, 0, none⟩) := (hE 1 (by simp)).trans (by simp [evF, Act.eval])
    exact soft_value (.pointer (some ⟨g, 8, none⟩)) (by unfold execOp; simp only [e1]; kernel_rfl) rfl
  · have d19 : vs 19 = .pointer (some ⟨g, 8, none⟩) := hR 19 (by simp [hdep])
    have e44 : ac.eval (.tmp 44) = .pointer (some ⟨g, 8, none⟩) := (hE 44 (by simp)).trans (by simp [evF, hdep, d19])
    have hc8 : W1.cell? ⟨g, 8, none⟩ = some (.string dst) := (HK0.out.below hB HK0.out.lt).cell 8
    exact soft_value (.string dst) (by unfold execOp; simp only [e44]; go_simp) rfl
  · have d20 : vs 20 = .string dst := hR 20 (by simp [hdep])
    have e45 : ac.eval (.tmp 45) = .string dst := (hE 45 (by simp)).trans (by simp [evF, hdep, d20])
    refine soft_call 26 _ _ rfl (enters_fn Tryd.func26 (by kernel_rfl) rfl) #[.string ⟨#[116, 111]⟩, .string dst] (by simp [e45, ec]) ?_
    refine (is_any ⟨#[116, 111]⟩ dst W1).mono ?_
    rintro e9 w9 ⟨rfl, hb9⟩
    exact ⟨_, rfl, hb9, rfl⟩
  · have e1 : ac.eval (.tmp 1) = .pointer (some ⟨g, 0, none⟩) := (hE 1 (by simp)).trans (by simp [evF, Act.eval])
    exact soft_value (.pointer (some ⟨g, 11, none⟩)) (by unfold execOp; simp only [e1]; kernel_rfl) rfl
  · have d22 : vs 22 = .pointer (some ⟨g, 11, none⟩) := hR 22 (by simp [hdep])
    have e47 : ac.eval (.tmp 47) = .pointer (some ⟨g, 11, none⟩) := (hE 47 (by simp)).trans (by simp [evF, hdep, d22])
    have hc11 : W1.cell? ⟨g, 11, none⟩ = some (.slice none 0 0) := (HK0.out.below hB HK0.out.lt).cell 11
    exact soft_value (.slice none 0 0) (by unfold execOp; simp only [e47]; go_simp) rfl
  · have d23 : vs 23 = .slice none 0 0 := hR 23 (by simp [hdep])
    have e48 : ac.eval (.tmp 48) = .slice none 0 0 := (hE 48 (by simp)).trans (by simp [evF, hdep, d23])
    refine soft_call 27 _ _ rfl (enters_fn Tryd.func27 (by kernel_rfl) rfl) #[.slice none 0 0] (by simp [e48, ec]) ?_
    refine (marks_none W1).mono ?_
    rintro e9 w9 ⟨rfl, hb9⟩
    exact ⟨_, rfl, hb9, rfl⟩
  · have d24 : vs 24 = .string ⟨#[]⟩ := hR 24 (by simp [hdep])
    have e49 : ac.eval (.tmp 49) = .string ⟨#[]⟩ := (hE 49 (by simp)).trans (by simp [evF, hdep, d24])
    refine soft_call 26 _ _ rfl (enters_fn Tryd.func26 (by kernel_rfl) rfl) #[.string ⟨#[109, 97, 114, 107, 115]⟩, .string ⟨#[]⟩] (by simp [e49, ec]) ?_
    refine (is_any ⟨#[109, 97, 114, 107, 115]⟩ ⟨#[]⟩ W1).mono ?_
    rintro e9 w9 ⟨rfl, hb9⟩
    exact ⟨_, rfl, hb9, rfl⟩
  · refine soft_call 26 _ _ rfl (enters_fn Tryd.func26 (by kernel_rfl) rfl) #[.string ⟨#[99, 108, 101, 97, 110]⟩, .string ⟨#[121, 101, 115]⟩] (by simp [ec]) ?_
    refine (is_any ⟨#[99, 108, 101, 97, 110]⟩ ⟨#[121, 101, 115]⟩ W1).mono ?_
    rintro e9 w9 ⟨rfl, hb9⟩
    exact ⟨_, rfl, hb9, rfl⟩
  · have e1 : ac.eval (.tmp 1) = .pointer (some ⟨g, 0, none⟩) := (hE 1 (by simp)).trans (by simp [evF, Act.eval])
    exact soft_value (.pointer (some ⟨g, 13, none⟩)) (by unfold execOp; simp only [e1]; kernel_rfl) rfl
  · have d27 : vs 27 = .pointer (some ⟨g, 13, none⟩) := hR 27 (by simp [hdep])
    have e52 : ac.eval (.tmp 52) = .pointer (some ⟨g, 13, none⟩) := (hE 52 (by simp)).trans (by simp [evF, hdep, d27])
    have hc13 : W1.cell? ⟨g, 13, none⟩ = some (.int .i64 la) := (HK0.out.below hB HK0.out.lt).cell 13
    exact soft_value (.int .i64 la) (by unfold execOp; simp only [e52]; go_simp) rfl
  · have d28 : vs 28 = .int .i64 la := hR 28 (by simp [hdep])
    have e53 : ac.eval (.tmp 53) = .int .i64 la := (hE 53 (by simp)).trans (by simp [evF, hdep, d28])
    exact soft_value (.agg #[.int .i64 5, .int .i64 0, .string ⟨#[105, 115, 115, 117, 101, 100]⟩, .string ⟨#[]⟩, .int .i64 la, .slice none 0 0]) (by unfold execOp; simp [e53, ec]; exact by simp [build_most, Result.andThen]) rfl
  · have d12 : vs 12 = .agg #[.int .i64 3, .int .i64 0, .string ⟨#[99, 97, 114, 114, 105, 101, 114]⟩, .string ca, .int .i64 0, .slice none 0 0] := hR 12 (by simp [hdep])
    have e37 : ac.eval (.tmp 37) = .agg #[.int .i64 3, .int .i64 0, .string ⟨#[99, 97, 114, 114, 105, 101, 114]⟩, .string ca, .int .i64 0, .slice none 0 0] := (hE 37 (by simp)).trans (by simp [evF, hdep, d12])
    have d15 : vs 15 = .agg #[.int .i64 3, .int .i64 0, .string ⟨#[115, 104, 105, 112, 112, 101, 114]⟩, .string se, .int .i64 0, .slice none 0 0] := hR 15 (by simp [hdep])
    have e40 : ac.eval (.tmp 40) = .agg #[.int .i64 3, .int .i64 0, .string ⟨#[115, 104, 105, 112, 112, 101, 114]⟩, .string se, .int .i64 0, .slice none 0 0] := (hE 40 (by simp)).trans (by simp [evF, hdep, d15])
    have d18 : vs 18 = .agg #[.int .i64 3, .int .i64 0, .string ⟨#[102, 114, 111, 109]⟩, .string fr, .int .i64 0, .slice none 0 0] := hR 18 (by simp [hdep])
    have e43 : ac.eval (.tmp 43) = .agg #[.int .i64 3, .int .i64 0, .string ⟨#[102, 114, 111, 109]⟩, .string fr, .int .i64 0, .slice none 0 0] := (hE 43 (by simp)).trans (by simp [evF, hdep, d18])
    have d21 : vs 21 = .agg #[.int .i64 3, .int .i64 0, .string ⟨#[116, 111]⟩, .string dst, .int .i64 0, .slice none 0 0] := hR 21 (by simp [hdep])
    have e46 : ac.eval (.tmp 46) = .agg #[.int .i64 3, .int .i64 0, .string ⟨#[116, 111]⟩, .string dst, .int .i64 0, .slice none 0 0] := (hE 46 (by simp)).trans (by simp [evF, hdep, d21])
    have d25 : vs 25 = .agg #[.int .i64 3, .int .i64 0, .string ⟨#[109, 97, 114, 107, 115]⟩, .string ⟨#[]⟩, .int .i64 0, .slice none 0 0] := hR 25 (by simp [hdep])
    have e50 : ac.eval (.tmp 50) = .agg #[.int .i64 3, .int .i64 0, .string ⟨#[109, 97, 114, 107, 115]⟩, .string ⟨#[]⟩, .int .i64 0, .slice none 0 0] := (hE 50 (by simp)).trans (by simp [evF, hdep, d25])
    have d26 : vs 26 = .agg #[.int .i64 3, .int .i64 0, .string ⟨#[99, 108, 101, 97, 110]⟩, .string ⟨#[121, 101, 115]⟩, .int .i64 0, .slice none 0 0] := hR 26 (by simp [hdep])
    have e51 : ac.eval (.tmp 51) = .agg #[.int .i64 3, .int .i64 0, .string ⟨#[99, 108, 101, 97, 110]⟩, .string ⟨#[121, 101, 115]⟩, .int .i64 0, .slice none 0 0] := (hE 51 (by simp)).trans (by simp [evF, hdep, d26])
    have d29 : vs 29 = .agg #[.int .i64 5, .int .i64 0, .string ⟨#[105, 115, 115, 117, 101, 100]⟩, .string ⟨#[]⟩, .int .i64 la, .slice none 0 0] := hR 29 (by simp [hdep])
    have e54 : ac.eval (.tmp 54) = .agg #[.int .i64 5, .int .i64 0, .string ⟨#[105, 115, 115, 117, 101, 100]⟩, .string ⟨#[]⟩, .int .i64 la, .slice none 0 0] := (hE 54 (by simp)).trans (by simp [evF, hdep, d29])
    refine soft_build 57 59 7 _ rfl #[(0, .agg #[.int .i64 3, .int .i64 0, .string ⟨#[99, 97, 114, 114, 105, 101, 114]⟩, .string ca, .int .i64 0, .slice none 0 0]), (1, .agg #[.int .i64 3, .int .i64 0, .string ⟨#[115, 104, 105, 112, 112, 101, 114]⟩, .string se, .int .i64 0, .slice none 0 0]), (2, .agg #[.int .i64 3, .int .i64 0, .string ⟨#[102, 114, 111, 109]⟩, .string fr, .int .i64 0, .slice none 0 0]), (3, .agg #[.int .i64 3, .int .i64 0, .string ⟨#[116, 111]⟩, .string dst, .int .i64 0, .slice none 0 0]), (4, .agg #[.int .i64 3, .int .i64 0, .string ⟨#[109, 97, 114, 107, 115]⟩, .string ⟨#[]⟩, .int .i64 0, .slice none 0 0]), (5, .agg #[.int .i64 3, .int .i64 0, .string ⟨#[99, 108, 101, 97, 110]⟩, .string ⟨#[121, 101, 115]⟩, .int .i64 0, .slice none 0 0]), (6, .agg #[.int .i64 5, .int .i64 0, .string ⟨#[105, 115, 115, 117, 101, 100]⟩, .string ⟨#[]⟩, .int .i64 la, .slice none 0 0])] (by simp [e37, e40, e43, e46, e50, e51, e54, ec]) #[.int .i64 3, .int .i64 0, .string ⟨#[99, 97, 114, 114, 105, 101, 114]⟩, .string ca, .int .i64 0, .slice none 0 0, .int .i64 3, .int .i64 0, .string ⟨#[115, 104, 105, 112, 112, 101, 114]⟩, .string se, .int .i64 0, .slice none 0 0, .int .i64 3, .int .i64 0, .string ⟨#[102, 114, 111, 109]⟩, .string fr, .int .i64 0, .slice none 0 0, .int .i64 3, .int .i64 0, .string ⟨#[116, 111]⟩, .string dst, .int .i64 0, .slice none 0 0, .int .i64 3, .int .i64 0, .string ⟨#[109, 97, 114, 107, 115]⟩, .string ⟨#[]⟩, .int .i64 0, .slice none 0 0, .int .i64 3, .int .i64 0, .string ⟨#[99, 108, 101, 97, 110]⟩, .string ⟨#[121, 101, 115]⟩, .int .i64 0, .slice none 0 0, .int .i64 5, .int .i64 0, .string ⟨#[105, 115, 115, 117, 101, 100]⟩, .string ⟨#[]⟩, .int .i64 la, .slice none 0 0] (bn7 ⟨#[99, 97, 114, 114, 105, 101, 114]⟩ ca ⟨#[115, 104, 105, 112, 112, 101, 114]⟩ se ⟨#[102, 114, 111, 109]⟩ fr ⟨#[116, 111]⟩ dst ⟨#[109, 97, 114, 107, 115]⟩ ⟨#[]⟩ ⟨#[99, 108, 101, 97, 110]⟩ ⟨#[121, 101, 115]⟩ ⟨#[105, 115, 115, 117, 101, 100]⟩ la W1) ⟨_, _, rfl⟩
  · obtain ⟨A30, c30, d30⟩ := (show (Sl 7) (vs 30) W1 from hR 30 (by simp [hdep]))
    have e55 : ac.eval (.tmp 55) = .slice A30 7 c30 := (hE 55 (by simp)).trans (by simp [evF, hdep, d30])
    refine soft_call 22 _ _ rfl (enters_fn Tryd.func22 (by kernel_rfl) rfl) #[.int .i64 2, .slice A30 7 c30] (by simp [e55, ec]) ?_
    refine (need_any 2 A30 7 c30 W1).mono ?_
    rintro e9 w9 ⟨rfl, hb9⟩
    exact ⟨_, rfl, hb9, ⟨_, _, rfl⟩⟩
  · obtain ⟨A4, c4, d4⟩ := (show (NeedR 0 6) (vs 4) W1 from hR 4 (by simp [hdep]))
    have e29 : ac.eval (.tmp 29) = .agg #[.int .i64 0, .int .i64 1, .int .i64 0, .int .i64 0, .string ⟨#[]⟩, .string ⟨#[]⟩, .int .i64 0, .slice A4 6 c4] := (hE 29 (by simp)).trans (by simp [evF, hdep, d4])
    obtain ⟨A9, c9, d9⟩ := (show (NeedR 1 2) (vs 9) W1 from hR 9 (by simp [hdep]))
    have e34 : ac.eval (.tmp 34) = .agg #[.int .i64 1, .int .i64 1, .int .i64 0, .int .i64 0, .string ⟨#[]⟩, .string ⟨#[]⟩, .int .i64 0, .slice A9 2 c9] := (hE 34 (by simp)).trans (by simp [evF, hdep, d9])
    obtain ⟨A31, c31, d31⟩ := (show (NeedR 2 7) (vs 31) W1 from hR 31 (by simp [hdep]))
    have e56 : ac.eval (.tmp 56) = .agg #[.int .i64 2, .int .i64 1, .int .i64 0, .int .i64 0, .string ⟨#[]⟩, .string ⟨#[]⟩, .int .i64 0, .slice A31 7 c31] := (hE 56 (by simp)).trans (by simp [evF, hdep, d31])
    refine soft_build 41 61 3 _ rfl #[(0, .agg #[.int .i64 0, .int .i64 1, .int .i64 0, .int .i64 0, .string ⟨#[]⟩, .string ⟨#[]⟩, .int .i64 0, .slice A4 6 c4]), (1, .agg #[.int .i64 1, .int .i64 1, .int .i64 0, .int .i64 0, .string ⟨#[]⟩, .string ⟨#[]⟩, .int .i64 0, .slice A9 2 c9]), (2, .agg #[.int .i64 2, .int .i64 1, .int .i64 0, .int .i64 0, .string ⟨#[]⟩, .string ⟨#[]⟩, .int .i64 0, .slice A31 7 c31])] (by simp [e29, e34, e56, ec]) #[.int .i64 0, .int .i64 1, .int .i64 0, .int .i64 0, .string ⟨#[]⟩, .string ⟨#[]⟩, .int .i64 0, .slice A4 6 c4, .int .i64 1, .int .i64 1, .int .i64 0, .int .i64 0, .string ⟨#[]⟩, .string ⟨#[]⟩, .int .i64 0, .slice A9 2 c9, .int .i64 2, .int .i64 1, .int .i64 0, .int .i64 0, .string ⟨#[]⟩, .string ⟨#[]⟩, .int .i64 0, .slice A31 7 c31] (bne3 0 1 2 A4 A9 A31 6 c4 2 c9 7 c31 W1) ⟨_, _, rfl, Blk.new_at W1 61 _ _ rfl, rfl, Nat.le_trans HS0.out hB.size⟩
  · have e3 : ac.eval (.tmp 3) = .pointer (some ⟨g + 2, 0, none⟩) := (hE 3 (by simp)).trans (by simp [evF, Act.eval])
    exact soft_value (.pointer (some ⟨g + 2, 17, none⟩)) (by unfold execOp; simp only [e3]; kernel_rfl) rfl
  · have hall := hdep
    have d33 : vs 33 = .pointer (some ⟨g + 2, 17, none⟩) := hR 33 (by omega)
    have e58 : ac.eval (.tmp 58) = .pointer (some ⟨g + 2, 17, none⟩) := (hE 58 (by simp)).trans (by simp [evF, hall 33 (by omega), d33])
    obtain ⟨b32, cs32, d32, h32, z32, l32⟩ := (show (FullN 3 (g + 3)) (vs 32) W1 from hR 32 (by omega))
    have e57 : ac.eval (.tmp 57) = .slice (some ⟨b32, 0, none⟩) 3 3 := (hE 57 (by simp)).trans (by simp [evF, hall 32 (by omega), d32])
    have hkc := HC0.out.below hB HC0.out.lt
    have hcc := hkc.cell 17
    have hcf := hkc.frozen 17
    simp only [List.getElem?_toArray, List.getElem?_cons_zero, List.getElem?_cons_succ] at hcc
    refine wp_store_one 41 _ _ rfl (g + 2) 17 (some ⟨b32, 0, none⟩) 3 3 _ e58 e57 hcc hcf (by kernel_rfl) ⟨_, rfl, ?_⟩
    have HB2 : Hid (Below w.heap.size w (W1.setCell ⟨g + 2, 17, none⟩ (.slice (some ⟨b32, 0, none⟩) 3 3))) := Lib.hid ((HBB.out.trans (hB.mono HBB.out.size)).setCell (p := ⟨g + 2, 17, none⟩) (by have := HG.out; simp; omega) _)
    have HK2 : Hid (Blk (W1.setCell ⟨g + 2, 17, none⟩ (.slice (some ⟨b32, 0, none⟩) 3 3)) g 47 #[.string nu, .string se, .string bu, .string ca, .string is, .string ho, .string ⟨#[]⟩, .string fr, .string dst, .string cu, .int .i64 am, .slice none 0 0, .int .i64 term, .int .i64 la, .int .i64 ex, .int .i64 te, .int .i64 du]) := Lib.hid ((HK0.out.below hB HK0.out.lt).far (p := ⟨g + 2, 17, none⟩) (by simp) _)
    have HR2 : Hid (Blk (W1.setCell ⟨g + 2, 17, none⟩ (.slice (some ⟨b32, 0, none⟩) 3 3)) (g + 1) 43 #[.string ⟨#[]⟩, .string ⟨#[]⟩, .string ⟨#[]⟩, .string ⟨#[]⟩, .string ⟨#[]⟩, .string ⟨#[]⟩, .string ⟨#[]⟩, .string ⟨#[]⟩, .int .i64 0, .int .i64 0, .int .i64 0, .int .i64 0, .int .i64 0, .int .i64 0, .int .i64 0, .bool false, .bool false, .slice none 0 0]) := Lib.hid ((HR0.out.below hB HR0.out.lt).far (p := ⟨g + 2, 17, none⟩) (by simp) _)
    have HC2 : Hid (Blk (W1.setCell ⟨g + 2, 17, none⟩ (.slice (some ⟨b32, 0, none⟩) 3 3)) (g + 2) 43 #[.string nu, .string bu, .string se, .string is, .string ⟨#[]⟩, .string fr, .string dst, .string cu, .int .i64 am, .int .i64 0, .int .i64 0, .int .i64 la, .int .i64 ex, .int .i64 21, .int .i64 te, .bool false, .bool true, .slice (some ⟨b32, 0, none⟩) 3 3]) := Lib.hid (hkc.set_ 17 _)
    have HN2 : Hid (Blk (W1.setCell ⟨g + 2, 17, none⟩ (.slice (some ⟨b32, 0, none⟩) 3 3)) b32 61 cs32) := Lib.hid (h32.far (p := ⟨g + 2, 17, none⟩) (by simp; omega) _)
    have HZ := Lib.hid z32
    have HS2 : Hid (g + 3 ≤ (W1.setCell ⟨g + 2, 17, none⟩ (.slice (some ⟨b32, 0, none⟩) 3 3)).heap.size) := Lib.hid (by have := hB.size; have := HS0.out; simp [World.setCell]; omega)
    simp only [fillA, Act.put, List.setIfInBounds_toArray, List.set_cons_zero, List.set_cons_succ, if_true]
    obtain ⟨W2, hW2⟩ : ∃ W, W1.setCell ⟨g + 2, 17, none⟩ (.slice (some ⟨b32, 0, none⟩) 3 3) = W := ⟨_, rfl⟩
    rw [hW2] at HB2 HK2 HR2 HC2 HN2 HS2 ⊢
    have HBB' := HB2
    clear hW2 hkc hcc hcf hB hR hE hdep hall ec HK0 HC0 HR0 HS0 HBB h32 z32 l32 e58 e57
    have HBB := HBB'
    have HS0 := HS2
    clear HBB' HS2
    have q6 := HK2.out.cell 6
    simp only [List.getElem?_toArray, List.getElem?_cons_zero, List.getElem?_cons_succ] at q6
    go_wp2_with fail
    clear q6
    refine wp_region_soft_last [Is (.pointer (some ⟨g + 2, 17, none⟩)), Is (.slice (some ⟨b32, 0, none⟩) 3 3), Is (.agg #[.string nu, .string se, .string bu, .string ca, .string is, .string ho, .string ⟨#[]⟩, .string fr, .string dst, .string cu, .int .i64 am, .slice none 0 0, .int .i64 term, .int .i64 la, .int .i64 ex, .int .i64 te, .int .i64 du]), Is (.pointer (some ⟨g, 7, none⟩)), Is (.string fr), DocE 3, SlHi 0 1 strC 2 [⟨#[115, 101, 108, 108, 101, 114]⟩, ⟨#[99, 111, 117, 110, 116, 114, 121]⟩], Sl 2, NeedR 4 2, FullN 1 (g + 3), Sl 4, Is (.pointer (some ⟨g + 2, 17, none⟩))] ⟨stab_is _, stab_is _, stab_is _, stab_is _, stab_is _, stab_doce _, stab_slhi _ _ _ _ _, stab_sl _, stab_needr _ _, stab_fulln _ _, stab_sl _, stab_is _, trivial⟩ (by kernel_rfl) (by kernel_rfl) (by kernel_rfl) (Nat.zero_lt_succ _) ?_
    refine ⟨?_, ?_, ?_, ?_, ?_, ?_, ?_, ?_, ?_, ?_, ?_, ?_, ?_⟩
    all_goals intro done vs ac W1 hdep hB hR hE
    all_goals have ec : ∀ v : Value, ac.eval (.const v) = v := fun _ => rfl
    all_goals try simp [Region.binds] at hdep
    · have e3 : ac.eval (.tmp 3) = .pointer (some ⟨g + 2, 0, none⟩) := (hE 3 (by simp)).trans (by simp [evF, Act.eval])
      exact soft_value (.pointer (some ⟨g + 2, 17, none⟩)) (by unfold execOp; simp only [e3]; kernel_rfl) rfl
    · have d0 : vs 0 = .pointer (some ⟨g + 2, 17, none⟩) := hR 0 (by simp [hdep])
      have e83 : ac.eval (.tmp 83) = .pointer (some ⟨g + 2, 17, none⟩) := (hE 83 (by simp)).trans (by simp [evF, hdep, d0])
      have hc17 : W1.cell? ⟨g + 2, 17, none⟩ = some (.slice (some ⟨b32, 0, none⟩) 3 3) := (HC2.out.below hB HC2.out.lt).cell 17
      exact soft_value (.slice (some ⟨b32, 0, none⟩) 3 3) (by unfold execOp; simp only [e83]; go_simp) rfl
    · have e1 : ac.eval (.tmp 1) = .pointer (some ⟨g, 0, none⟩) := (hE 1 (by simp)).trans (by simp [evF, Act.eval])
      exact wp_load_row 47 _ rfl (g) e1 47 _ (0, 0) _ (HK2.out.below hB HK2.out.lt) Tryd.underlying47 rfl (by kernel_rfl) ⟨_, rfl, Below.refl _ _, rfl⟩
    · have e1 : ac.eval (.tmp 1) = .pointer (some ⟨g, 0, none⟩) := (hE 1 (by simp)).trans (by simp [evF, Act.eval])
      exact soft_value (.pointer (some ⟨g, 7, none⟩)) (by unfold execOp; simp only [e1]; kernel_rfl) rfl
    · have d3 : vs 3 = .pointer (some ⟨g, 7, none⟩) := hR 3 (by simp [hdep])
      have e86 : ac.eval (.tmp 86) = .pointer (some ⟨g, 7, none⟩) := (hE 86 (by simp)).trans (by simp [evF, hdep, d3])
      have hc7 : W1.cell? ⟨g, 7, none⟩ = some (.string fr) := (HK2.out.below hB HK2.out.lt).cell 7
      exact soft_value (.string fr) (by unfold execOp; simp only [e86]; go_simp) rfl
    · have d2 : vs 2 = .agg #[.string nu, .string se, .string bu, .string ca, .string is, .string ho, .string ⟨#[]⟩, .string fr, .string dst, .string cu, .int .i64 am, .slice none 0 0, .int .i64 term, .int .i64 la, .int .i64 ex, .int .i64 te, .int .i64 du] := hR 2 (by simp [hdep])
      have e85 : ac.eval (.tmp 85) = .agg #[.string nu, .string se, .string bu, .string ca, .string is, .string ho, .string ⟨#[]⟩, .string fr, .string dst, .string cu, .int .i64 am, .slice none 0 0, .int .i64 term, .int .i64 la, .int .i64 ex, .int .i64 te, .int .i64 du] := (hE 85 (by simp)).trans (by simp [evF, hdep, d2])
      have d4 : vs 4 = .string fr := hR 4 (by simp [hdep])
      have e87 : ac.eval (.tmp 87) = .string fr := (hE 87 (by simp)).trans (by simp [evF, hdep, d4])
      refine soft_call 28 _ _ rfl (enters_fn Tryd.func28 (by kernel_rfl) rfl) #[.agg #[.string nu, .string se, .string bu, .string ca, .string is, .string ho, .string ⟨#[]⟩, .string fr, .string dst, .string cu, .int .i64 am, .slice none 0 0, .int .i64 term, .int .i64 la, .int .i64 ex, .int .i64 te, .int .i64 du], .string fr] (by simp [e85, e87, ec]) ?_
      refine (origin_any nu se bu ca is ho fr dst cu am term la ex te du W1 HI.out.1 HI.out.2 HN.out (HTB.out.on (HBB.out.trans (hB.mono HBB.out.size))).here fr).mono ?_
      rintro e9 w9 ⟨B, d, rfl, hs9, hb9⟩
      exact ⟨_, rfl, hb9, ⟨_, _, _, B, d, _, rfl, hs9⟩⟩
    · refine soft_build 73 9 2 _ rfl #[(0, .string ⟨#[115, 101, 108, 108, 101, 114]⟩), (1, .string ⟨#[99, 111, 117, 110, 116, 114, 121]⟩)] (by simp [ec]) #[.string ⟨#[115, 101, 108, 108, 101, 114]⟩, .string ⟨#[99, 111, 117, 110, 116, 114, 121]⟩] (bs2 ⟨#[115, 101, 108, 108, 101, 114]⟩ ⟨#[99, 111, 117, 110, 116, 114, 121]⟩ W1) ⟨_, _, rfl, SliceOf.blk (en := strC) (Blk.new_at W1 9 _ _ rfl) [⟨#[115, 101, 108, 108, 101, 114]⟩, ⟨#[99, 111, 117, 110, 116, 114, 121]⟩] rfl (fun _ => rfl) rfl, fun _ _ _ => Nat.zero_le _⟩
    · obtain ⟨k5, nu5, is5, A5, c5, FS5, d5, h5⟩ := (show (DocE 3) (vs 5) W1 from hR 5 (by simp [hdep]))
      have e88 : ac.eval (.tmp 88) = .agg #[.int .i64 k5, .string nu5, .string is5, .slice A5 3 c5] := (hE 88 (by simp)).trans (by simp [evF, hdep, d5])
      obtain ⟨A6, c6, d6, h6, _⟩ := (show (SlHi 0 1 strC 2 [⟨#[115, 101, 108, 108, 101, 114]⟩, ⟨#[99, 111, 117, 110, 116, 114, 121]⟩]) (vs 6) W1 from hR 6 (by simp [hdep]))
      have e89 : ac.eval (.tmp 89) = .slice A6 2 c6 := (hE 89 (by simp)).trans (by simp [evF, hdep, d6])
      refine soft_call 23 _ _ rfl (enters_fn Tryd.func23 (by kernel_rfl) rfl) #[.agg #[.int .i64 k5, .string nu5, .string is5, .slice A5 3 c5], .slice A6 2 c6] (by simp [e88, e89, ec]) ?_
      refine (alike_any k5 nu5 is5 A5 3 c5 FS5 A6 2 c6 _ W1 h5 (by omega) h6 (by omega)).mono ?_
      rintro e9 w9 ⟨C, e8, rfl, hb9⟩
      exact ⟨_, rfl, hb9, ⟨_, _, rfl⟩⟩
    · obtain ⟨A7, c7, d7⟩ := (show (Sl 2) (vs 7) W1 from hR 7 (by simp [hdep]))
      have e90 : ac.eval (.tmp 90) = .slice A7 2 c7 := (hE 90 (by simp)).trans (by simp [evF, hdep, d7])
      refine soft_call 22 _ _ rfl (enters_fn Tryd.func22 (by kernel_rfl) rfl) #[.int .i64 4, .slice A7 2 c7] (by simp [e90, ec]) ?_
      refine (need_any 4 A7 2 c7 W1).mono ?_
      rintro e9 w9 ⟨rfl, hb9⟩
      exact ⟨_, rfl, hb9, ⟨_, _, rfl⟩⟩
    · obtain ⟨A8, c8, d8⟩ := (show (NeedR 4 2) (vs 8) W1 from hR 8 (by simp [hdep]))
      have e91 : ac.eval (.tmp 91) = .agg #[.int .i64 4, .int .i64 1, .int .i64 0, .int .i64 0, .string ⟨#[]⟩, .string ⟨#[]⟩, .int .i64 0, .slice A8 2 c8] := (hE 91 (by simp)).trans (by simp [evF, hdep, d8])
      refine soft_build 41 61 1 _ rfl #[(0, .agg #[.int .i64 4, .int .i64 1, .int .i64 0, .int .i64 0, .string ⟨#[]⟩, .string ⟨#[]⟩, .int .i64 0, .slice A8 2 c8])] (by simp [e91, ec]) #[.int .i64 4, .int .i64 1, .int .i64 0, .int .i64 0, .string ⟨#[]⟩, .string ⟨#[]⟩, .int .i64 0, .slice A8 2 c8] (bne1 4 A8 2 c8 W1) ⟨_, _, rfl, Blk.new_at W1 61 _ _ rfl, rfl, Nat.le_trans HS0.out hB.size⟩
    · have d1 : vs 1 = .slice (some ⟨b32, 0, none⟩) 3 3 := hR 1 (by simp [hdep])
      have e84 : ac.eval (.tmp 84) = .slice (some ⟨b32, 0, none⟩) 3 3 := (hE 84 (by simp)).trans (by simp [evF, hdep, d1])
      obtain ⟨b9, cs9, d9, h9, z9, l9⟩ := (show (FullN 1 (g + 3)) (vs 9) W1 from hR 9 (by simp [hdep]))
      have e92 : ac.eval (.tmp 92) = .slice (some ⟨b9, 0, none⟩) 1 1 := (hE 92 (by simp)).trans (by simp [evF, hdep, d9])
      exact soft_append_grow (.tmp 84) (.tmp 92) 41 rfl 61 i0 _ Tryd.underlying41 hi hz0 b32 3 3 cs32 (HN2.out.below hB HN2.out.lt) (by rw [hz1]; exact HZ.out) b9 1 1 cs9 h9 (by rw [hz1]; exact z9) e84 e92 (by omega) (by omega) (by rw [hz2]; decide) (fun A c w => ⟨A, c, rfl⟩)
    · have e3 : ac.eval (.tmp 3) = .pointer (some ⟨g + 2, 0, none⟩) := (hE 3 (by simp)).trans (by simp [evF, Act.eval])
      exact soft_value (.pointer (some ⟨g + 2, 17, none⟩)) (by unfold execOp; simp only [e3]; kernel_rfl) rfl
    · have hall := hdep
      have d11 : vs 11 = .pointer (some ⟨g + 2, 17, none⟩) := hR 11 (by omega)
      have e94 : ac.eval (.tmp 94) = .pointer (some ⟨g + 2, 17, none⟩) := (hE 94 (by simp)).trans (by simp [evF, hall 11 (by omega), d11])
      obtain ⟨A10, c10, d10⟩ := (show (Sl 4) (vs 10) W1 from hR 10 (by omega))
      have e93 : ac.eval (.tmp 93) = .slice A10 4 c10 := (hE 93 (by simp)).trans (by simp [evF, hall 10 (by omega), d10])
      have hkc := HC2.out.below hB HC2.out.lt
      have hcc := hkc.cell 17
      have hcf := hkc.frozen 17
      simp only [List.getElem?_toArray, List.getElem?_cons_zero, List.getElem?_cons_succ] at hcc
      refine wp_store_one 41 _ _ rfl (g + 2) 17 A10 4 c10 _ e94 e93 hcc hcf (by kernel_rfl) ⟨_, rfl, ?_⟩
      have HB3 : Hid (Below w.heap.size w (W1.setCell ⟨g + 2, 17, none⟩ (.slice A10 4 c10))) := Lib.hid ((HB2.out.trans (hB.mono HB2.out.size)).setCell (p := ⟨g + 2, 17, none⟩) (by have := HG.out; simp; omega) _)
      have HR3 : Hid (Blk (W1.setCell ⟨g + 2, 17, none⟩ (.slice A10 4 c10)) (g + 1) 43 #[.string ⟨#[]⟩, .string ⟨#[]⟩, .string ⟨#[]⟩, .string ⟨#[]⟩, .string ⟨#[]⟩, .string ⟨#[]⟩, .string ⟨#[]⟩, .string ⟨#[]⟩, .int .i64 0, .int .i64 0, .int .i64 0, .int .i64 0, .int .i64 0, .int .i64 0, .int .i64 0, .bool false, .bool false, .slice none 0 0]) := Lib.hid ((HR2.out.below hB HR2.out.lt).far (p := ⟨g + 2, 17, none⟩) (by simp) _)
      have HC3 : Hid (Blk (W1.setCell ⟨g + 2, 17, none⟩ (.slice A10 4 c10)) (g + 2) 43 #[.string nu, .string bu, .string se, .string is, .string ⟨#[]⟩, .string fr, .string dst, .string cu, .int .i64 am, .int .i64 0, .int .i64 0, .int .i64 la, .int .i64 ex, .int .i64 21, .int .i64 te, .bool false, .bool true, .slice A10 4 c10]) := Lib.hid (hkc.set_ 17 _)
      simp only [fillA, Act.put, List.setIfInBounds_toArray, List.set_cons_zero, List.set_cons_succ, if_true]
      obtain ⟨W3, hW3⟩ : ∃ W, (W1.setCell ⟨g + 2, 17, none⟩ (.slice A10 4 c10)) = W := ⟨_, rfl⟩
      rw [hW3] at HB3 HR3 HC3 ⊢
      clear hW3 hkc hcc hcf hB hR hE hdep hall ec HK2 HC2 HR2 HN2 e94 e93
      go_wp2_with (first | (refine stop_load 43 _ rfl ?_; refine wpList_load_want rfl 43 _ rfl (g + 2) rfl 43 _ _ HC3.out Tryd.underlying43 rfl (by kernel_rfl) ?_) | (refine stop_store 43 _ _ rfl ?_; refine wpList_store_blk rfl 43 _ _ rfl _ rfl rfl HR3.out (by kernel_rfl) rfl rfl ?_; intro w4 hn4 kn4 bn4))
      have HB4 := bn4 _ _ HB3.out (by have := HG.out; omega)
      have q0 := hn4.cell 0; have q1 := hn4.cell 1; have q2 := hn4.cell 2; have q3 := hn4.cell 3; have q4 := hn4.cell 4; have q5 := hn4.cell 5; have q6 := hn4.cell 6; have q7 := hn4.cell 7; have q8 := hn4.cell 8; have q9 := hn4.cell 9; have q10 := hn4.cell 10; have q11 := hn4.cell 11; have q12 := hn4.cell 12; have q13 := hn4.cell 13; have q14 := hn4.cell 14; have q15 := hn4.cell 15; have q16 := hn4.cell 16; have q17 := hn4.cell 17
      simp only [List.getElem?_toArray, List.getElem?_cons_zero, List.getElem?_cons_succ] at q0 q1 q2 q3 q4 q5 q6 q7 q8 q9 q10 q11 q12 q13 q14 q15 q16 q17
      refine bodyPost_ret (v := .agg #[.string nu, .string bu, .string se, .string is, .string ⟨#[]⟩, .string fr, .string dst, .string cu, .int .i64 am, .int .i64 0, .int .i64 0, .int .i64 la, .int .i64 ex, .int .i64 21, .int .i64 te, .bool false, .bool true, .slice A10 4 c10]) (by simp [results, Tryd.results13, go_sem, q0, q1, q2, q3, q4, q5, q6, q7, q8, q9, q10, q11, q12, q13, q14, q15, q16, q17]) rfl ?_
      exact ⟨_, _, rfl, HB4⟩
end Go.Proofs.YtlicmhgpldmliaaDoor.kit
