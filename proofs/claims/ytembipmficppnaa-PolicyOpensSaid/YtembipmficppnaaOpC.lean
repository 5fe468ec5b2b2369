/- The sum that runs out: the program's closure that counts it down. No condition. -/
import Derived.Test.YtembipmficppnaaOpB
namespace Go.Proofs.Ytembipmficppnaa.kit
open Go.RowKit
set_option linter.unusedVariables false

/-- All blocks but one are kept. -/
def KeptD (g : Nat) (w w' : World) : Prop := ∀ (b : Nat) (T : TypeId) (cs : Array Value), b ≠ g → Blk w b T cs → Blk w' b T cs
theorem KeptD.refl (g : Nat) (w : World) : KeptD g w w := fun _ _ _ _ h => h
theorem KeptD.trans {g : Nat} {a b c : World} (h : KeptD g a b) (k : KeptD g b c) : KeptD g a c := fun i T cs hi hb => k i T cs hi (h i T cs hi hb)
set_option maxRecDepth 100000 in
theorem clo_s (g : Nat) (x : Dr) (L : Int) (w0 w : World) (hbel : Below w0.heap.size w0 w) (hg : w0.heap.size ≤ g) (hk : Blk w g 2 #[.int .i64 L]) (hw : wrap64 (L - x.am) = L - x.am) :
    Calls Try.prog 39 #[.agg #[.int .i64 x.day, .int .i64 x.am], .pointer (some ⟨g, 0, none⟩)] w fun e w' => e = .returned (.bool (decide (L - x.am < 0))) ∧ Below w0.heap.size w0 w' ∧ Blk w' g 2 #[.int .i64 (L - x.am)] ∧ KeptD g w w' := by
  have hlt := hk.lt
  have a0 := hk.cell 0
  simp only [List.getElem?_toArray, List.getElem?_cons_zero] at a0
  have z0 := hk.frozen 0
  have HB : Hid (Below w0.heap.size w0 ((w.setCell ⟨g, 0, none⟩ (.int .i64 (L - x.am))).alloc (.cells #[.int .i64 x.day, .int .i64 x.am] 45))) := Lib.hid ((hbel.setCell hg _).alloc (hbel.setCell hg _).size _)
  have HK : Hid (Blk ((w.setCell ⟨g, 0, none⟩ (.int .i64 (L - x.am))).alloc (.cells #[.int .i64 x.day, .int .i64 x.am] 45)) g 2 #[.int .i64 (L - x.am)]) := Lib.hid ((hk.set_ 0 _).alloc _)
  have HKE : Hid (KeptD g w ((w.setCell ⟨g, 0, none⟩ (.int .i64 (L - x.am))).alloc (.cells #[.int .i64 x.day, .int .i64 x.am] 45))) := Lib.hid fun b T cs hb h => (h.far hb _).alloc _
  clear hk hbel
  go_enter Try.func39, Try.ntmps39
  go_wp2_with fail
  go_ret
  exact ⟨rfl, HB.out, HK.out, HKE.out⟩
end Go.Proofs.Ytembipmficppnaa.kit
