/- The set of those who passed a draft on, as a map; cloned, and its keys sorted. No condition. -/
import Derived.Test.YtlaclkiedjhphaaGreatDoorDfA
import Derived.Test.YtlaclkiedjhphaaGreatDoorLayg
import Derived.Test.YtlaclkiedjhphaaGreatDoorShelf
import Derived.Maps.OwnSet
import Derived.Maps.Views
import Derived.Sort.KeysCollected
namespace Go.Proofs.YtlaclkiedjhphaaGreatDoor.kit
open Go.RowKit Go.PlainAid Go.Maps Go.Sort Go.Shelf
set_option linter.unusedVariables false

/-- slices.Sort's two contracts, at the fence that asks nothing. -/
theorem sortsB (m : Nat) : AnyZ.SortsIn Tryz.prog Tryz.sortedB_ren Fence.wide m :=
  ⟨fun blk off cap ss W hH hblk hsz => callsIn_wide.2 (AnyM.slices_Sort_string Tryz.sortB blk off cap ss W hH hblk hsz),
   fun p cap W => callsIn_wide.2 (AnyM.slices_Sort_string_none Tryz.sortB p cap W)⟩
theorem keysB_any (mb : Option Nat) (W : World) : Calls Tryz.prog 42 #[.map mb] W fun e w' => e = .returned (.func (.func 65) #[] #[.pointer (some ⟨W.heap.size, 0, none⟩)]) ∧ w' = W.alloc (.cells #[.map mb] 60) :=
  callsIn_wide.1 (AnyZ.keys_in Tryz.keysB Fence.wide 5 trivial rfl mb W)
set_option maxHeartbeats 1000000 in
theorem sortedB_any {H : Type} (b nn : Nat) (D0 : DataW H) (R : Value → Option (DataW H × List MemPlace)) (w : World) (hown : w.ownsMap Tryz.prog 9 R b nn D0) (hmax : Maps.size D0 ≤ maxLen) (hbytes : Maps.size D0 * 16 ≤ 140737488355328) :
    Calls Tryz.prog 41 #[.func (.func 65) #[] #[.pointer (some ⟨w.heap.size, 0, none⟩)]] (w.alloc (.cells #[.map (some b)] 60)) fun e w' => ∃ (v : Value) (ss : List (List UInt8)), e = .returned v ∧ ss.Perm (strKeys D0) ∧
      w'.ownsRow (w.alloc (.cells #[.map (some b)] 60)).heap.size 9 1 v ss.length ((ss.mergeSort (fun x y => decide (x ≤ y))).map encStr) ∧ (v = .slice none 0 0 ↔ ss = []) ∧ Below (w.alloc (.cells #[.map (some b)] 60)).heap.size (w.alloc (.cells #[.map (some b)] 60)) w' := by
  have hbl := hown.lt
  have hseq : SeqGives Fence.wide 2 Tryz.prog 65 #[.pointer (some ⟨w.heap.size, 0, none⟩)] encStr (fun ss => ss.Perm (strKeys D0)) (Maps.size D0) (w.alloc (.cells #[.map (some b)] 60)) :=
    AnyZ.keys_gives (ρ := Tryz.keysB_ren) { Tryz.keysB with } Fence.wide _ trivial rfl (by omega) w.heap.size b nn D0 _ (by simp) (by simp) (by
      obtain ⟨es, clock, hb, Ft, hs, hD⟩ := hown
      exact ⟨es, clock, (Below.heap_alloc _ _ b hbl).trans hb, Ft, hs, hD⟩)
  exact callsIn_wide.1 (AnyZ.sorted_in Tryz.sortedB Fence.wide 5 trivial trivial trivial trivial rfl (by omega) (sortsB _) (enters_of Tryz.func64 (by kernel_rfl) rfl) 65 #[.pointer (some ⟨w.heap.size, 0, none⟩)] trivial (enters_of Tryz.func65 (by kernel_rfl) rfl) _ _ hmax hbytes _ hseq)

/-! the set -/
theorem lawS : Keyed Tryz.prog 9 := string_keyed Tryz.underlying9
def keyS (s : ByteArray) : Lit := .string s.data.toList
def passD (l : List ByteArray) : DataW Unit := setOf (.lit (.bool true)) (l.map keyS)
theorem passD_snoc (l : List ByteArray) (s : ByteArray) : passD (l ++ [s]) = (passD l).put (keyS s) (.lit (.bool true)) := by
  unfold passD
  rw [List.map_append, List.map_singleton, setOf_snoc]
theorem key_ok (s : ByteArray) : WideAt.IsKeyLit (keyS s) := by simp [WideAt.IsKeyLit, keyS]
theorem keys_ok (l : List ByteArray) : ∀ x ∈ l.map keyS, WideAt.IsKeyLit x := by
  intro x hx
  obtain ⟨s, _, rfl⟩ := List.mem_map.1 hx
  exact key_ok s
theorem keyS_inj {a b : ByteArray} : keyS a = keyS b ↔ a = b := by
  constructor
  · intro h
    unfold keyS at h
    injection h with h
    exact ba_ext h
  · rintro rfl; rfl
theorem same_key (a b : ByteArray) : (keyS a).sameKey (keyS b) = decide (a = b) := by
  by_cases h : a = b
  · subst h
    rw [decide_eq_true rfl]
    exact WideAt.sameKey_self (key_ok a)
  · rw [decide_eq_false h]
    exact sameKey_ne (fun e => h (keyS_inj.1 e))
theorem has_passD (l : List ByteArray) (s : ByteArray) : has (passD l) (keyS s) = memS l s := by
  unfold passD memS
  rw [has_setOf _ _ _ (keys_ok l), List.any_map]
  congr 1
  funext x
  exact same_key x s
theorem keyOfS {s : ByteArray} (h : s.size ≤ maxLen) : keyOf Tryz.prog 9 (.string s) = some (keyS s) := by
  simp [keyOf, Tryz.underlying9, mapKey, keyS, h]
theorem tidy_passD (l : List ByteArray) : Tidy (passD l) := tidy_setOf _ _ (keys_ok l)
end Go.Proofs.YtlaclkiedjhphaaGreatDoor.kit
