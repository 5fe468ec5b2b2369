/- An end of a link: Take of a receipt. No condition. -/
import Derived.Test.YtlicmhgpldmliaaTlE
import Derived.ScopeJumps
namespace Go.Proofs.Ytlicmhgpldmliaa.kit
open Go.RowKit
set_option linter.unusedVariables false

/-- What Take of a receipt brings: the letters up to it are out no more. -/
def TakeA (B : Nat) (s o : ByteArray) (v : Value) (xs : List Lr) (sent got sure ack : Int) (gm g : Nat) (ow : Bool) (w : World) (e : Ending) (w' : World) : Prop :=
  ∃ v', e = .returned (.tuple #[.slice none 0 0, .bool true]) ∧ Blk w' g 90 #[.string s, .string o, v', .int .i64 sent, .int .i64 got, .int .i64 sure, .map (some gm), .bool ow] ∧ w'.ownsRow B 32 14 v' (xs.drop (ack - (sent - xs.length)).toNat).length ((xs.drop (ack - (sent - xs.length)).toNat).flatMap ltC) ∧ NewRow w v v' ∧ Fr (fun k => k = g) w w'
set_option maxRecDepth 100000 in
set_option maxHeartbeats 3200000 in
theorem take_a (B : Nat) (s o : ByteArray) (v : Value) (xs : List Lr) (sent got sure : Int) (gm g : Nat) (ow : Bool) (x : Lr) (w : World) (hk : Blk w g 90 #[.string s, .string o, v, .int .i64 sent, .int .i64 got, .int .i64 sure, .map (some gm), .bool ow]) (hv : w.ownsRow B 32 14 v xs.length (xs.flatMap ltC)) (hB : B ≤ w.heap.size) (h1 : 0 ≤ sent ∧ sent ≤ 1048576) (h2 : xs.length ≤ 4096) (hx : (xs.length : Int) ≤ sent) (hf : x.fr = o) (hd : x.dst = s) (hack : 0 ≤ x.ack ∧ x.ack ≤ sent) (hkd : x.kind = 28) (hnm : x.num = 0) :
    Calls Try.prog 9 #[(.pointer (some ⟨g, 0, none⟩)), .agg #[.string x.fr, .string x.dst, .int .i64 x.num, .int .i64 x.kind, .int .i64 x.ack, .string ⟨#[]⟩, .string ⟨#[]⟩, .string ⟨#[]⟩, .int .i64 x.idx, .int .i64 0, .string ⟨#[]⟩, .int .i64 0, .slice none 0 0, .slice none 0 0]] w (TakeA B s o v xs sent got sure x.ack gm g ow w) := by
  have hK0 := Lib.hid (hk.alloc (.cells #[.string x.fr, .string x.dst, .int .i64 x.num, .int .i64 x.kind, .int .i64 x.ack, .string ⟨#[]⟩, .string ⟨#[]⟩, .string ⟨#[]⟩, .int .i64 x.idx, .int .i64 0, .string ⟨#[]⟩, .int .i64 0, .slice none 0 0, .slice none 0 0] 32))
  have hL0 := Lib.hid (Blk.new w 32 #[.string x.fr, .string x.dst, .int .i64 x.num, .int .i64 x.kind, .int .i64 x.ack, .string ⟨#[]⟩, .string ⟨#[]⟩, .string ⟨#[]⟩, .int .i64 x.idx, .int .i64 0, .string ⟨#[]⟩, .int .i64 0, .slice none 0 0, .slice none 0 0])
  have HB0 := Lib.hid (one_alloc w (.cells #[.string x.fr, .string x.dst, .int .i64 x.num, .int .i64 x.kind, .int .i64 x.ack, .string ⟨#[]⟩, .string ⟨#[]⟩, .string ⟨#[]⟩, .int .i64 x.idx, .int .i64 0, .string ⟨#[]⟩, .int .i64 0, .slice none 0 0, .slice none 0 0] 32))
  have HV0 := Lib.hid (hv.alloc (.cells #[.string x.fr, .string x.dst, .int .i64 x.num, .int .i64 x.kind, .int .i64 x.ack, .string ⟨#[]⟩, .string ⟨#[]⟩, .string ⟨#[]⟩, .int .i64 x.idx, .int .i64 0, .string ⟨#[]⟩, .int .i64 0, .slice none 0 0, .slice none 0 0] 32))
  have HG := Lib.hid hk.lt
  have HS := Lib.hid hB
  have HOWN : Hid (∀ W, Blk W g 90 #[.string s, .string o, v, .int .i64 sent, .int .i64 got, .int .i64 sure, .map (some gm), .bool ow] → Calls Try.prog 30 #[(.pointer (some ⟨g, 0, none⟩)), .agg #[.string x.fr, .string x.dst, .int .i64 x.num, .int .i64 x.kind, .int .i64 x.ack, .string ⟨#[]⟩, .string ⟨#[]⟩, .string ⟨#[]⟩, .int .i64 x.idx, .int .i64 0, .string ⟨#[]⟩, .int .i64 0, .slice none 0 0, .slice none 0 0]] W fun e w' => e = .returned (.bool true) ∧ Below W.heap.size W w') := Lib.hid (fun W hW => isOwn_any s o v sent got sure gm g ow x W hW hf hd hack (.inl ⟨hkd, hnm⟩))
  have HAK : Hid (∀ W, Blk W g 90 #[.string s, .string o, v, .int .i64 sent, .int .i64 got, .int .i64 sure, .map (some gm), .bool ow] → W.ownsRow B 32 14 v xs.length (xs.flatMap ltC) → B ≤ W.heap.size → _) := Lib.hid (fun W hW hV hB => acked_drop B s o v xs sent got sure x.ack gm g ow W hW hV hB h1 h2 hack.2 hx)
  have HNK := Lib.hid hkd
  clear hk hv hB hf hd hack hkd hnm h1 h2 hx
  go_enter Try.func9, Try.ntmps9
  go_upto_region 1 with (fail)
  obtain ⟨w0, hw0⟩ : ∃ W, (w.alloc (.cells #[.string x.fr, .string x.dst, .int .i64 x.num, .int .i64 x.kind, .int .i64 x.ack, .string ⟨#[]⟩, .string ⟨#[]⟩, .string ⟨#[]⟩, .int .i64 x.idx, .int .i64 0, .string ⟨#[]⟩, .int .i64 0, .slice none 0 0, .slice none 0 0] 32)) = W := ⟨_, rfl⟩
  obtain ⟨gl, hgl⟩ : ∃ gl, w.heap.size = gl := ⟨_, rfl⟩
  rw [hw0] at hK0 hL0 HB0 HV0 ⊢
  have HGL := Lib.hid hgl
  rw [hgl] at hL0
  simp only [hgl]
  clear hw0 hgl
  refine wp_scope_jumps 0 (fun _ _ => False) (fun _ _ => 0) rfl ?_ (fun _ _ h => h.elim)
  go_wp2_with ((refine stop_load 32 _ rfl ?_; refine wpList_load_want rfl 32 _ rfl gl rfl 32 _ _ hL0.out Try.underlying32 rfl (by kernel_rfl) ?_))
  refine (HOWN.out _ hK0.out).mono ?_
  rintro e w1 ⟨rfl, hb1⟩
  have HB1 := Lib.hid (HB0.out.trans (hb1.mono HB0.out.size))
  have hK1 := Lib.hid (hK0.out.below hb1 hK0.out.lt)
  have hL1 := Lib.hid (hL0.out.below hb1 hL0.out.lt)
  have HV1 := Lib.hid (own_kept_below HV0.out hb1)
  clear hb1 hK0 hL0 HB0 HV0
  have c4 := hL1.out.cell 4
  simp only [List.getElem?_toArray, List.getElem?_cons_zero, List.getElem?_cons_succ] at c4
  go_wp2_with fail
  refine (HAK.out _ hK1.out HV1.out (Nat.le_trans HS.out HB1.out.size)).mono ?_
  rintro e w2 ⟨v', r, rfl, hk2, hv2, hn2, hf2⟩
  have hL2 := Lib.hid (hL1.out.fr hf2 (by have := HG.out; have := HGL.out; omega))
  have HP : Hid (TakeA B s o v xs sent got sure x.ack gm g ow w (.returned (.tuple #[.slice none 0 0, .bool true])) w2) := Lib.hid ⟨v', rfl, hk2, hv2, hn2.elim .inl (fun h => .inr fun b hb => Nat.le_trans HB1.out.size (h b hb)), ((Fr.refl _ _).below HB1.out (Nat.le_refl _)).trans hf2 (fun k hk => .inl hk)⟩
  clear hk2 hv2 hn2 hf2 c4
  have c3 := hL2.out.cell 3
  simp only [List.getElem?_toArray, List.getElem?_cons_zero, List.getElem?_cons_succ] at c3
  rw [HNK.out] at c3
  go_wp2_with fail
  go_ret2
  exact HP.out
end Go.Proofs.Ytlicmhgpldmliaa.kit
