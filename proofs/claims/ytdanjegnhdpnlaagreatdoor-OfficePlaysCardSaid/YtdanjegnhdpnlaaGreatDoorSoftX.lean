/- The soft book once more: beside what each operation gives, a book X of what some of them, named by 'big', do to memory (blocks of S alone). No condition. -/
import Derived.Test.YtdanjegnhdpnlaaGreatDoorSoft
import Derived.Test.YtdanjegnhdpnlaaGreatDoorFr
namespace Go.Proofs.YtdanjegnhdpnlaaGreatDoor.kit
open Go.RowKit
set_option linter.unusedVariables false

def StabF (S : Nat → Prop) (r : Value → World → Prop) : Prop := ∀ v W W', r v W → Fr S W W' → r v W'
theorem stabf_is (S : Nat → Prop) (x : Value) : StabF S (Is x) := fun _ _ _ h _ => h
def AnyV : Value → World → Prop := fun _ _ => True
theorem stab_anyv : Stab AnyV := fun _ _ _ _ _ => trivial
theorem stabf_anyv (S : Nat → Prop) : StabF S AnyV := fun _ _ _ _ _ => trivial
def stabfs (S : Nat → Prop) : List (Value → World → Prop) → Prop
  | [] => True
  | r :: l => StabF S r ∧ stabfs S l
theorem stabfs_at {S : Nat → Prop} : ∀ {l : List (Value → World → Prop)}, stabfs S l → ∀ j, StabF S (nthR l j)
  | [], _, _ => fun _ _ _ _ _ => trivial
  | _ :: _, h, 0 => h.1
  | _ :: _, h, j + 1 => stabfs_at h.2 j
/-- A book of memory. -/
abbrev XB := (Nat → Bool) → (Nat → Value) → World → Prop
section
variable {P : Program} {all ops : List Oper} {a0 : Act} {R : List (Value → World → Prop)} {w0 : World} {Q : Exit → Act → World → Prop} {S : Nat → Prop} {X : XB}
def plainOpX (P : Program) (all : List Oper) (a0 : Act) (R : List (Value → World → Prop)) (S : Nat → Prop) (X : XB) (w0 : World) (Q : Exit → Act → World → Prop) (k : Nat) (o : Oper) : Prop :=
  ∀ (done : Nat → Bool) (vs : Nat → Value) (a : Act) (w : World), (o.after.all fun e => !Region.binds .any e || done e.on) = true → done k = false → Fr S w0 w → (∀ j, done j = true → nthR R j (vs j) w) → X done vs w →
    (∀ t, t < a0.tmps.size → a.eval (.tmp t) = evF vs done 0 all (a0.eval (.tmp t)) t) →
    o.wp P a w (fun a' w' => ∃ v, a' = a.put o.dst v ∧ Below w.heap.size w w' ∧ nthR R k v w') Q
def bigOpX (P : Program) (all : List Oper) (a0 : Act) (R : List (Value → World → Prop)) (S : Nat → Prop) (X : XB) (w0 : World) (Q : Exit → Act → World → Prop) (k : Nat) (o : Oper) : Prop :=
  ∀ (done : Nat → Bool) (vs : Nat → Value) (a : Act) (w : World), (o.after.all fun e => !Region.binds .any e || done e.on) = true → done k = false → Fr S w0 w → (∀ j, done j = true → nthR R j (vs j) w) → X done vs w →
    (∀ t, t < a0.tmps.size → a.eval (.tmp t) = evF vs done 0 all (a0.eval (.tmp t)) t) →
    o.wp P a w (fun a' w' => ∃ v, a' = a.put o.dst v ∧ Fr S w w' ∧ X (upDn done k) (upVs vs k v) w' ∧ nthR R k v w') Q
def softOpsX (P : Program) (all : List Oper) (a0 : Act) (R : List (Value → World → Prop)) (S : Nat → Prop) (X : XB) (w0 : World) (Q : Exit → Act → World → Prop) : Nat → List Bool → List Oper → Prop
  | _, _, [] => True
  | k, true :: bs, o :: l => bigOpX P all a0 R S X w0 Q k o ∧ softOpsX P all a0 R S X w0 Q (k + 1) bs l
  | k, false :: bs, o :: l => plainOpX P all a0 R S X w0 Q k o ∧ softOpsX P all a0 R S X w0 Q (k + 1) bs l
  | k, [], o :: l => plainOpX P all a0 R S X w0 Q k o ∧ softOpsX P all a0 R S X w0 Q (k + 1) [] l
def isBig (bs : List Bool) (k : Nat) : Bool := bs.getD k false
/-- What no named operation turns abides. -/
def XStab (bs : List Bool) (X : XB) : Prop := ∀ k, isBig bs k = false → ∀ (done : Nat → Bool) (vs : Nat → Value) (v : Value) (W W' : World), X done vs W → done k = false → Below W.heap.size W W' → X (upDn done k) (upVs vs k v) W'
def SoftJX (R : List (Value → World → Prop)) (S : Nat → Prop) (X : XB) (w0 : World) (done : Nat → Bool) (vs : Nat → Value) (W : World) : Prop := Fr S w0 W ∧ (∀ j, done j = true → nthR R j (vs j) W) ∧ X done vs W
theorem plain_opX {bs : List Bool} {k : Nat} {o : Oper} (hR : stabs R) (hX : XStab bs X) (hk : isBig bs k = false) (h : plainOpX P all a0 R S X w0 Q k o) : bookOp P all a0 (SoftJX R S X w0) Q k o := by
  intro done vs a w hnd hdep hJ hE hsz
  refine Oper.wp_mono (fun a' w' ⟨v, h1, h2, h3⟩ => ⟨v, h1, hJ.1.on h2, fun j hj => ?_, hX k hk done vs v w w' hJ.2.2 hnd h2⟩) (h done vs a w hdep hnd hJ.1 hJ.2.1 hJ.2.2 hE)
  unfold upDn at hj
  unfold upVs
  by_cases e : j = k
  · subst e; rw [if_pos rfl]; exact h3
  · rw [if_neg e] at hj ⊢
    exact stabs_at hR j _ _ _ (hJ.2.1 j hj) h2
theorem big_opX {k : Nat} {o : Oper} (hF : stabfs S R) (h : bigOpX P all a0 R S X w0 Q k o) : bookOp P all a0 (SoftJX R S X w0) Q k o := by
  intro done vs a w hnd hdep hJ hE hsz
  refine Oper.wp_mono (fun a' w' ⟨v, h1, h2, h3, h4⟩ => ⟨v, h1, hJ.1.trans h2 (fun k q => .inl q), fun j hj => ?_, h3⟩) (h done vs a w hdep hnd hJ.1 hJ.2.1 hJ.2.2 hE)
  unfold upDn at hj
  unfold upVs
  by_cases e : j = k
  · subst e; rw [if_pos rfl]; exact h4
  · rw [if_neg e] at hj ⊢
    exact stabfs_at hF j _ _ _ (hJ.2.1 j hj) h2
theorem soft_opsX {bs0 : List Bool} (hR : stabs R) (hF : stabfs S R) (hX : XStab bs0 X) : ∀ {l : List Oper} {bs : List Bool} {k : Nat}, (∀ i, isBig bs i = isBig bs0 (k + i)) → softOpsX P all a0 R S X w0 Q k bs l → bookOps P all a0 (SoftJX R S X w0) Q k l
  | [], _, _, _, _ => trivial
  | o :: l, true :: bs, k, hb, h => ⟨big_opX hF h.1, soft_opsX hR hF hX (fun i => by have := hb (i + 1); simp only [isBig, List.getD_cons_succ] at this ⊢; rw [this]; congr 1; omega) h.2⟩
  | o :: l, false :: bs, k, hb, h => ⟨plain_opX hR hX (by have := hb 0; simpa [isBig] using this.symm) h.1, soft_opsX hR hF hX (fun i => by have := hb (i + 1); simp only [isBig, List.getD_cons_succ] at this ⊢; rw [this]; congr 1; omega) h.2⟩
  | o :: l, [], k, hb, h => ⟨plain_opX hR hX (by have := hb 0; simpa [isBig] using this.symm) h.1, soft_opsX hR hF hX (fun i => by have := hb (i + 1); simp only [isBig, List.getD_nil] at this ⊢; rw [this]; congr 1; omega) h.2⟩
theorem wp_region_softX {id : Nat} {a : Act} {w : World} (R : List (Value → World → Prop)) (hR : stabs R) (S : Nat → Prop) (hF : stabfs S R) (bs : List Bool) (X : XB) (hX : XStab bs X) (h0 : X (fun _ => false) (fun _ => undef) w.drew) (hm : P.follows .mixedOrders = true) (hB : bookB2 ops = true)
    (hs : softOpsX P ops a R S X w Q 0 bs ops) (hend : ∀ done vs W, (∀ i, i < ops.length → done i = true) → Fr S w W → (∀ j, j < ops.length → nthR R j (vs j) W) → X done vs W → Q .normal (fillA vs (fun _ => true) 0 ops a) W) : (Code.region id ops.toArray true).wp P Q a w :=
  wp_region_book2 (SoftJX R S X w) hm hB ⟨(Fr.refl S w).drew, fun j hj => (by cases hj), h0⟩ (soft_opsX hR hF hX (fun i => by rw [Nat.zero_add]) hs)
    (fun done vs W hall hJ => hend done vs W hall hJ.1 (fun j hj => hJ.2.1 j (hall j hj)) hJ.2.2)
theorem wp_store_val {o : Oper} {a : Act} {w : World} {K : Act → World → Prop} (ty : TypeId) (x y : Operand) (ho : o.op = .store ty x y) (g k : Nat) (v old : Value) (hx : a.eval x = .pointer (some ⟨g, k, none⟩)) (hy : a.eval y = v)
    (hc : w.cell? ⟨g, k, none⟩ = some old) (hf : w.frozen? ⟨g, k, none⟩ = false) (hi : (P.info? ty).map (·.size) = some 1) (hv : v.cells = #[v]) (h1 : v.oneCell' = true)
    (h : K (a.put o.dst undef) (w.setCell ⟨g, k, none⟩ v)) : o.wp P a w K Q := by
  obtain ⟨j, hj, hjs⟩ := Option.map_eq_some_iff.1 hi
  have hs : ∀ u, (sizeOf ty).run P u = .ok 1 u := fun u => by simp [sizeOf, typeInfo, hj, hjs]
  have ha : (⟨g, k, none⟩ : Addr).add 0 = ⟨g, k, none⟩ := addr_add g k 0
  have hst := run_store P w ⟨g, k, none⟩ v .plain h1
  rw [hc] at hst
  simp only [hf, Bool.false_eq_true, if_false] at hst
  unfold Oper.wp execOp
  simp only [ho, hx, hy]
  simp [Instr.storeAt, Instr.sureAddr, storeVar, hv, hs, storeCells, ha, hst, Result.andThen, Oper.upon]
  exact h
theorem not_of {a b : Bool} (h : a = true → b = true) (hb : b = false) : a = false := by
  cases a
  · rfl
  · rw [h rfl] at hb; cases hb
theorem up_same (done : Nat → Bool) (k : Nat) : upDn done k k = true := by simp [upDn]
theorem up_ne (done : Nat → Bool) {k j : Nat} (h : j ≠ k) : upDn done k j = done j := by simp [upDn, h]
theorem upv_same (vs : Nat → Value) (k : Nat) (v : Value) : upVs vs k v k = v := by simp [upVs]
theorem upv_ne (vs : Nat → Value) {k j : Nat} (v : Value) (h : j ≠ k) : upVs vs k v j = vs j := by simp [upVs, h]
end
end Go.Proofs.YtdanjegnhdpnlaaGreatDoor.kit
