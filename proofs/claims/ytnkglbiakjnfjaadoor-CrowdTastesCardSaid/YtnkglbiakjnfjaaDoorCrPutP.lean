/- Counts put in their order, plain. -/
import Derived.Test.YtnkglbiakjnfjaaDoorCrLs
namespace Go.Proofs.YtnkglbiakjnfjaaDoor
set_option linter.unusedVariables false

def ltC (x y : Ct) : Prop := cmpCI x y < 0
theorem ltC_irr (x : Ct) : ¬ ltC x x := fun h => by unfold ltC at h; rw [(cmpC_tri.zero x x).2 rfl] at h; omega
theorem ltC_trans {x y z : Ct} (h : ltC x y) (k : ltC y z) : ltC x z := cmpC_tri.trans x y z h k
theorem ltC_of {x y : Ct} (h : ¬ ltC x y) (hne : y ≠ x) : ltC y x := by
  rcases cmpC_neg x y with hxy
  unfold ltC at *
  rw [cmpC_neg] at *
  rcases Int.lt_trichotomy x.n y.n with h1 | h1 | h1
  · exact Or.inl h1
  · refine Or.inr ⟨h1.symm, ?_⟩
    refine ltN_of (fun hk => h (Or.inr ⟨h1, hk⟩)) (fun e => hne ?_)
    cases x; cases y; simp at h1 e; subst h1 e; rfl
  · exact absurd (Or.inl h1) h
/-- So far: c was put, or comes behind all. -/
def CPut (l : List Ct) (c : Ct) (k : Nat) (dn : Bool) (out : List Ct) : Prop :=
  out.Pairwise ltC ∧ (dn = false → out = l.take k ∧ ∀ x ∈ l.take k, ltC x c) ∧ (dn = true → (∀ y, y ∈ out ↔ y ∈ l.take k ∨ y = c) ∧ ∀ (j : Nat) x, k ≤ j → l[j]? = some x → ∀ y ∈ out, ltC y x)
theorem riseC_at {l : List Ct} (h : l.Pairwise ltC) {i j : Nat} {x y : Ct} (hij : i < j) (hx : l[i]? = some x) (hy : l[j]? = some y) : ltC x y := by
  obtain ⟨hi, rfl⟩ := List.getElem?_eq_some_iff.1 hx
  obtain ⟨hj, rfl⟩ := List.getElem?_eq_some_iff.1 hy
  exact List.pairwise_iff_getElem.1 h i j hi hj hij
theorem takeC_lt {l : List Ct} (h : l.Pairwise ltC) {k j : Nat} {x y : Ct} (hkj : k ≤ j) (hx : l[j]? = some x) (hy : y ∈ l.take k) : ltC y x := by
  obtain ⟨i, hi⟩ := List.mem_iff_getElem?.1 hy
  rw [List.getElem?_take] at hi
  split at hi
  · exact riseC_at h (by omega) hi hx
  · cases hi
theorem snocC {l : List Ct} (h : l.Pairwise ltC) {x : Ct} (hx : ∀ y ∈ l, ltC y x) : (l ++ [x]).Pairwise ltC := by
  rw [List.pairwise_append]
  exact ⟨h, List.pairwise_singleton _ _, fun a ha b hb => by rw [List.mem_singleton] at hb; subst hb; exact hx a ha⟩
theorem CPut.nil (l : List Ct) (c : Ct) : CPut l c 0 false [] := ⟨List.Pairwise.nil, fun _ => ⟨rfl, fun x hx => by simp at hx⟩, fun h => by cases h⟩
theorem CPut.on {l : List Ct} {c x : Ct} {k : Nat} {out : List Ct} (h : CPut l c k true out) (hr : l.Pairwise ltC) (hx : l[k]? = some x) : CPut l c (k + 1) true (out ++ [x]) := by
  obtain ⟨h1, _, h3⟩ := h
  obtain ⟨h4, h5⟩ := h3 rfl
  refine ⟨snocC h1 (h5 k x (Nat.le_refl _) hx), fun h => (by cases h), fun _ => ⟨fun y => ?_, fun j z hj hz y hy => ?_⟩⟩
  · rw [List.mem_append, List.mem_singleton, h4, take_snoc hx, List.mem_append, List.mem_singleton]
    constructor
    · rintro ((h | h) | h)
      · exact Or.inl (Or.inl h)
      · exact Or.inr h
      · exact Or.inl (Or.inr h)
    · rintro ((h | h) | h)
      · exact Or.inl (Or.inl h)
      · exact Or.inr h
      · exact Or.inl (Or.inr h)
  · rcases List.mem_append.1 hy with hy | hy
    · exact h5 j z (by omega) hz y hy
    · rw [List.mem_singleton] at hy; subst hy; exact riseC_at hr (by omega) hx hz
theorem CPut.past {l : List Ct} {c x : Ct} {k : Nat} {out : List Ct} (h : CPut l c k false out) (hr : l.Pairwise ltC) (hx : l[k]? = some x) (hc : ¬ ltC c x) (hne : x ≠ c) : CPut l c (k + 1) false (out ++ [x]) := by
  obtain ⟨h1, h2, _⟩ := h
  obtain ⟨h4, h5⟩ := h2 rfl
  refine ⟨snocC h1 (fun y hy => takeC_lt hr (Nat.le_refl _) hx (by rw [← h4]; exact hy)), fun _ => ⟨by rw [h4, take_snoc hx], fun y hy => ?_⟩, fun h => by cases h⟩
  rw [take_snoc hx] at hy
  rcases List.mem_append.1 hy with hy | hy
  · exact h5 y hy
  · rw [List.mem_singleton] at hy; subst hy; exact ltC_of hc hne
theorem CPut.here {l : List Ct} {c x : Ct} {k : Nat} {out : List Ct} (h : CPut l c k false out) (hr : l.Pairwise ltC) (hx : l[k]? = some x) (hc : ltC c x) : CPut l c (k + 1) true ((out ++ [c]) ++ [x]) := by
  obtain ⟨h1, h2, _⟩ := h
  obtain ⟨h4, h5⟩ := h2 rfl
  refine CPut.on (k := k) (out := out ++ [c]) ⟨snocC h1 (by rw [h4]; exact h5), fun h => (by cases h), fun _ => ⟨fun y => by rw [List.mem_append, List.mem_singleton, h4], fun j z hj hz y hy => ?_⟩⟩ hr hx
  have hcz : ltC c z := by
    rcases Nat.lt_or_ge k j with hlt | hge
    · exact ltC_trans hc (riseC_at hr hlt hx hz)
    · have : j = k := by omega
      subst this
      rw [hx] at hz; cases hz; exact hc
  rcases List.mem_append.1 hy with hy | hy
  · rw [h4] at hy; exact takeC_lt hr hj hz hy
  · rw [List.mem_singleton] at hy; subst hy; exact hcz

end Go.Proofs.YtnkglbiakjnfjaaDoor
