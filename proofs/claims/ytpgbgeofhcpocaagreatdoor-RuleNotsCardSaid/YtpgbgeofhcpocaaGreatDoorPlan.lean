/- A region that draws its order, walked by a plan: each operation is the only one that can come up, or yields the same in every world of S. Nothing of the program. -/
import Derived.Test.YtpgbgeofhcpocaaGreatDoorBase
import Derived.OrdersHeld
import Derived.Deep.RegionHeld3
namespace Go.Proofs.YtpgbgeofhcpocaaGreatDoor
set_option linter.unusedVariables false

section
variable {P : Program} {ops : Array Oper} {md : Region.Mode} {Q : Exit → Act → World → Prop} {S : World → Prop}

/-- May the region be walked so? true: nothing else can come up. -/
def planB (md : Region.Mode) (ops : Array Oper) : List (Nat × Bool) → Array Bool → Bool
  | [], listed => decide (Region.ready md ops listed = [])
  | (i, true) :: r, listed => decide (Region.ready md ops listed = [i]) && planB md ops r (listed.setIfInBounds i true)
  | (i, false) :: r, listed => (Region.ready md ops listed).contains i && Region.free md ops listed i && planB md ops r (listed.setIfInBounds i true)
/-- The operations in the plan's order. -/
def planL (l : List Oper) : List (Nat × Bool) → List (Oper × Bool)
  | [] => []
  | (i, b) :: r => match l[i]? with | some o => (o, b) :: planL l r | none => planL l r
/-- What is to be shown then. -/
def wpPlan (P : Program) (ops : Array Oper) (Q : Exit → Act → World → Prop) (S : World → Prop) : List (Oper × Bool) → Act → World → Prop
  | [], a, w => Q .normal a w
  | (o, true) :: r, a, w => wpList P ops (Exit.then (fun a' w' => S w' ∧ wpPlan P ops Q S r a' w') Q) [o] a w
  | (o, false) :: r, a, w => ∃ v, YieldsIf P ops S o v a ∧ wpPlan P ops Q S r (a.put o.dst v) w

theorem plan_on {o : Oper} {r : List (Oper × Bool)} {a : Act} {w : World} (v : Value) (hw : Region.wanted o (yielded ops a.tmps) = true) (hy : ∀ W, S W → (execOp a.eval o).run P W = .ok (.value v) W) (h : wpPlan P ops Q S r (a.put o.dst v) w) : wpPlan P ops Q S ((o, false) :: r) a w :=
  ⟨v, Or.inl ⟨hw, hy⟩, h⟩
theorem plan_off {o : Oper} {r : List (Oper × Bool)} {a : Act} {w : World} (hw : Region.wanted o (yielded ops a.tmps) = false) (h : wpPlan P ops Q S r (a.put o.dst undef) w) : wpPlan P ops Q S ((o, false) :: r) a w :=
  ⟨undef, Or.inr ⟨hw, rfl⟩, h⟩
theorem plan_turn {o : Oper} {r : List (Oper × Bool)} {a : Act} {w : World} (h : wpList P ops (Exit.then (fun a' w' => S w' ∧ wpPlan P ops Q S r a' w') Q) [o] a w) : wpPlan P ops Q S ((o, true) :: r) a w := h
theorem plan_done {a : Act} {w : World} (h : Q .normal a w) : wpPlan P ops (NoPanic Q) S [] a w := NoPanic.normal h

theorem plan_any {l : List Oper} (hl : ops = l.toArray) (hsel : Region.noSelect ops = true) (hQ : ∀ c (a : Act) d v w, Q (.panic c) (a.put d v) w → Q (.panic c) a w) : ∀ (pl : List (Nat × Bool)) (listed : Array Bool) (a : Act) (w : World), planB md ops pl listed = true → S w →
    wpPlan P ops Q S (planL l pl) a w → wpAnyH P md ops Q S pl.length listed a w
  | [], listed, a, w, hB, hS, h => ⟨of_decide_eq_true hB, h⟩
  | (i, true) :: r, listed, a, w, hB, hS, h => by
    simp only [planB, Bool.and_eq_true, decide_eq_true_eq] at hB
    obtain ⟨hr, hB'⟩ := hB
    have hi : i ∈ Region.ready md ops listed := by rw [hr]; simp
    obtain ⟨_, o, ho, _⟩ := mem_ready.1 hi
    have hlo : l[i]? = some o := by rw [hl] at ho; simpa using ho
    simp only [planL, hlo] at h
    refine wpAnyH_all hr (by simp) (fun j hj => ?_)
    obtain rfl : j = i := by simpa using hj
    have hw : wpOp P ops Q j (fun a' w' => S w' ∧ wpPlan P ops Q S (planL l r) a' w') a w := by
      unfold wpOp
      rw [ho]
      exact h
    exact wpOp_mono (fun a' w' h' => ⟨h'.1, plan_any hl hsel hQ r _ a' w' hB' h'.1 h'.2⟩) hw
  | (i, false) :: r, listed, a, w, hB, hS, h => by
    simp only [planB, Bool.and_eq_true] at hB
    obtain ⟨⟨hr, hf⟩, hB'⟩ := hB
    have hi : i ∈ Region.ready md ops listed := by simpa using hr
    obtain ⟨_, o, ho, _⟩ := mem_ready.1 hi
    have hlo : l[i]? = some o := by rw [hl] at ho; simpa using ho
    simp only [planL, hlo] at h
    obtain ⟨v, hy, h'⟩ := h
    exact wpAnyH_take ho hsel hf hr (fun c a w => hQ c a _ _ w) hy hS (plan_any hl hsel hQ r _ _ w hB' hS h')

/-- A REGION THAT DRAWS ITS ORDER, walked by a plan. -/
theorem wp_plan {id : Nat} {a : Act} {w : World} {l : List Oper} (S : World → Prop) (pl : List (Nat × Bool)) (hm : P.follows .mixedOrders = true)
    (hB : (Region.noSelect l.toArray && decide (pl.length = l.length) && planB .any l.toArray pl (Array.replicate l.length false)) = true)
    (hS : S w.drew) (h : wpPlan P l.toArray (NoPanic Q) S (planL l pl) a w.drew) : (Code.region id l.toArray true).wp P Q a w := by
  simp only [Bool.and_eq_true, decide_eq_true_eq] at hB
  obtain ⟨⟨h1, h2⟩, h3⟩ := hB
  refine wp_region_noPanic ?_
  refine wp_region_held (S := S) hm ?_
  have := plan_any (md := .any) rfl h1 (fun c a d v w h => h) pl _ a w.drew h3 hS h
  rw [h2] at this
  simpa using this
end

end Go.Proofs.YtpgbgeofhcpocaaGreatDoor
