/- A region that draws its order, walked by a plan that forks: each operation yields the same in every world of S, or is one of those (one, two) that alone can come up. Nothing of the program. -/
import Derived.Test.YtpgbgeofhcpocaaGreatDoorPlan
namespace Go.Proofs.YtpgbgeofhcpocaaGreatDoor
set_option linter.unusedVariables false

inductive PlT where
  | done : PlT
  | take (i : Nat) (r : PlT) : PlT
  | turn (i : Nat) (r : PlT) : PlT
  | fork (i : Nat) (r : PlT) (j : Nat) (r' : PlT) : PlT
inductive PlO where
  | done : PlO
  | take (o : Oper) (r : PlO) : PlO
  | turn (o : Oper) (r : PlO) : PlO
  | fork (o : Oper) (r : PlO) (o' : Oper) (r' : PlO) : PlO

section
variable {P : Program} {ops : Array Oper} {md : Region.Mode} {Q : Exit → Act → World → Prop} {S : World → Prop}

def planTB (md : Region.Mode) (ops : Array Oper) : Nat → PlT → Array Bool → Bool
  | 0, .done, listed => decide (Region.ready md ops listed = [])
  | n + 1, .turn i r, listed => decide (Region.ready md ops listed = [i]) && planTB md ops n r (listed.setIfInBounds i true)
  | n + 1, .take i r, listed => (Region.ready md ops listed).contains i && Region.free md ops listed i && planTB md ops n r (listed.setIfInBounds i true)
  | n + 1, .fork i r j r', listed => decide (Region.ready md ops listed = [i, j]) && planTB md ops n r (listed.setIfInBounds i true) && planTB md ops n r' (listed.setIfInBounds j true)
  | _, _, _ => false
def planTL (l : List Oper) : PlT → PlO
  | .done => .done
  | .take i r => match l[i]? with | some o => .take o (planTL l r) | none => .done
  | .turn i r => match l[i]? with | some o => .turn o (planTL l r) | none => .done
  | .fork i r j r' => match l[i]? with | some o => (match l[j]? with | some o' => .fork o (planTL l r) o' (planTL l r') | none => .done) | none => .done
def wpPlanT (P : Program) (ops : Array Oper) (Q : Exit → Act → World → Prop) (S : World → Prop) : PlO → Act → World → Prop
  | .done, a, w => Q .normal a w
  | .turn o r, a, w => wpList P ops (Exit.then (fun a' w' => S w' ∧ wpPlanT P ops Q S r a' w') Q) [o] a w
  | .take o r, a, w => ∃ v, YieldsIf P ops S o v a ∧ wpPlanT P ops Q S r (a.put o.dst v) w
  | .fork o r o' r', a, w => wpList P ops (Exit.then (fun a' w' => S w' ∧ wpPlanT P ops Q S r a' w') Q) [o] a w ∧ wpList P ops (Exit.then (fun a' w' => S w' ∧ wpPlanT P ops Q S r' a' w') Q) [o'] a w
theorem planT_on {o : Oper} {r : PlO} {a : Act} {w : World} (v : Value) (hw : Region.wanted o (yielded ops a.tmps) = true) (hy : ∀ W, S W → (execOp a.eval o).run P W = .ok (.value v) W) (h : wpPlanT P ops Q S r (a.put o.dst v) w) : wpPlanT P ops Q S (.take o r) a w :=
  ⟨v, Or.inl ⟨hw, hy⟩, h⟩
theorem planT_off {o : Oper} {r : PlO} {a : Act} {w : World} (hw : Region.wanted o (yielded ops a.tmps) = false) (h : wpPlanT P ops Q S r (a.put o.dst undef) w) : wpPlanT P ops Q S (.take o r) a w :=
  ⟨undef, Or.inr ⟨hw, rfl⟩, h⟩
theorem planT_turn {o : Oper} {r : PlO} {a : Act} {w : World} (h : wpList P ops (Exit.then (fun a' w' => S w' ∧ wpPlanT P ops Q S r a' w') Q) [o] a w) : wpPlanT P ops Q S (.turn o r) a w := h
theorem planT_fork {o o' : Oper} {r r' : PlO} {a : Act} {w : World} (h : wpList P ops (Exit.then (fun a' w' => S w' ∧ wpPlanT P ops Q S r a' w') Q) [o] a w) (h' : wpList P ops (Exit.then (fun a' w' => S w' ∧ wpPlanT P ops Q S r' a' w') Q) [o'] a w) : wpPlanT P ops Q S (.fork o r o' r') a w := ⟨h, h'⟩
theorem planT_done {a : Act} {w : World} (h : Q .normal a w) : wpPlanT P ops (NoPanic Q) S .done a w := NoPanic.normal h

theorem planT_any {l : List Oper} (hl : ops = l.toArray) (hsel : Region.noSelect ops = true) (hQ : ∀ c (a : Act) d v w, Q (.panic c) (a.put d v) w → Q (.panic c) a w) : ∀ (n : Nat) (pl : PlT) (listed : Array Bool) (a : Act) (w : World), planTB md ops n pl listed = true → S w →
    wpPlanT P ops Q S (planTL l pl) a w → wpAnyH P md ops Q S n listed a w
  | 0, .done, listed, a, w, hB, hS, h => ⟨of_decide_eq_true hB, h⟩
  | 0, .take _ _, listed, a, w, hB, hS, h => by simp [planTB] at hB
  | 0, .turn _ _, listed, a, w, hB, hS, h => by simp [planTB] at hB
  | 0, .fork _ _ _ _, listed, a, w, hB, hS, h => by simp [planTB] at hB
  | n + 1, .done, listed, a, w, hB, hS, h => by simp [planTB] at hB
  | n + 1, .turn i r, listed, a, w, hB, hS, h => by
    simp only [planTB, Bool.and_eq_true, decide_eq_true_eq] at hB
    obtain ⟨hr, hB'⟩ := hB
    have hi : i ∈ Region.ready md ops listed := by rw [hr]; simp
    obtain ⟨_, o, ho, _⟩ := mem_ready.1 hi
    have hlo : l[i]? = some o := by rw [hl] at ho; simpa using ho
    simp only [planTL, hlo] at h
    refine wpAnyH_all hr (by simp) (fun j hj => ?_)
    obtain rfl : j = i := by simpa using hj
    have hw : wpOp P ops Q j (fun a' w' => S w' ∧ wpPlanT P ops Q S (planTL l r) a' w') a w := by
      unfold wpOp
      rw [ho]
      exact h
    exact wpOp_mono (fun a' w' h' => ⟨h'.1, planT_any hl hsel hQ n r _ a' w' hB' h'.1 h'.2⟩) hw
  | n + 1, .fork i r k r', listed, a, w, hB, hS, h => by
    simp only [planTB, Bool.and_eq_true, decide_eq_true_eq] at hB
    obtain ⟨⟨hr, hB'⟩, hB2⟩ := hB
    have hi : i ∈ Region.ready md ops listed := by rw [hr]; simp
    have hk : k ∈ Region.ready md ops listed := by rw [hr]; simp
    obtain ⟨_, o, ho, _⟩ := mem_ready.1 hi
    obtain ⟨_, o', ho', _⟩ := mem_ready.1 hk
    have hlo : l[i]? = some o := by rw [hl] at ho; simpa using ho
    have hlo' : l[k]? = some o' := by rw [hl] at ho'; simpa using ho'
    simp only [planTL, hlo, hlo'] at h
    refine wpAnyH_all hr (by simp) (fun j hj => ?_)
    have hj2 : j = i ∨ j = k := by simpa using hj
    rcases hj2 with rfl | rfl
    · have hw : wpOp P ops Q j (fun a' w' => S w' ∧ wpPlanT P ops Q S (planTL l r) a' w') a w := by
        unfold wpOp
        rw [ho]
        exact h.1
      exact wpOp_mono (fun a' w' h' => ⟨h'.1, planT_any hl hsel hQ n r _ a' w' hB' h'.1 h'.2⟩) hw
    · have hw : wpOp P ops Q j (fun a' w' => S w' ∧ wpPlanT P ops Q S (planTL l r') a' w') a w := by
        unfold wpOp
        rw [ho']
        exact h.2
      exact wpOp_mono (fun a' w' h' => ⟨h'.1, planT_any hl hsel hQ n r' _ a' w' hB2 h'.1 h'.2⟩) hw
  | n + 1, .take i r, listed, a, w, hB, hS, h => by
    simp only [planTB, Bool.and_eq_true] at hB
    obtain ⟨⟨hr, hf⟩, hB'⟩ := hB
    have hi : i ∈ Region.ready md ops listed := by simpa using hr
    obtain ⟨_, o, ho, _⟩ := mem_ready.1 hi
    have hlo : l[i]? = some o := by rw [hl] at ho; simpa using ho
    simp only [planTL, hlo] at h
    obtain ⟨v, hy, h'⟩ := h
    exact wpAnyH_take ho hsel hf hr (fun c a w => hQ c a _ _ w) hy hS (planT_any hl hsel hQ n r _ _ w hB' hS h')

/-- A REGION THAT DRAWS ITS ORDER, walked by a plan that forks. -/
theorem wp_planT {id : Nat} {a : Act} {w : World} {l : List Oper} (S : World → Prop) (pl : PlT) (hm : P.follows .mixedOrders = true)
    (hB : (Region.noSelect l.toArray && planTB .any l.toArray l.length pl (Array.replicate l.length false)) = true)
    (hS : S w.drew) (h : wpPlanT P l.toArray (NoPanic Q) S (planTL l pl) a w.drew) : (Code.region id l.toArray true).wp P Q a w := by
  simp only [Bool.and_eq_true] at hB
  obtain ⟨h1, h3⟩ := hB
  refine wp_region_noPanic ?_
  refine wp_region_held (S := S) hm ?_
  have := planT_any (md := .any) rfl h1 (fun c a d v w h => h) l.length pl _ a w.drew h3 hS h
  simpa using this
end

end Go.Proofs.YtpgbgeofhcpocaaGreatDoor
