/- Pairs of things that are bought behind one another: their order; plain. -/
import Derived.Test.YtcgangmmehbdoaaDoorTri
import Derived.Test.YtcgangmmehbdoaaDoorBkQ
namespace Go.Proofs.YtcgangmmehbdoaaDoor
open Go.Shelf Go.RowKit Go.Lib Go.Sort
set_option linter.unusedVariables false

/-- A pair of names, and its count. -/
abbrev Pr := (ByteArray × ByteArray) × Int
instance : Inhabited Pr := ⟨((⟨#[]⟩, ⟨#[]⟩), 0)⟩
def prC (p : Pr) : List Value := [.string p.1.1, .string p.1.2, .int .i64 p.2]
def prA (p : Pr) : Value := .agg #[.string p.1.1, .string p.1.2, .int .i64 p.2]
theorem prC_len (p : Pr) : (prC p).length = 3 := rfl
theorem prC_one : ∀ (l : List Pr), ∀ u ∈ l.flatMap prC, u.oneCell' = true := by
  intro l u hu
  obtain ⟨x, _, hx⟩ := List.mem_flatMap.1 hu
  simp [prC] at hx
  rcases hx with rfl | rfl | rfl <;> rfl
theorem pr_info : (Tryd.prog.info? 46).map (fun i => (i.zero, i.size, i.bytes)) = some (some (.agg #[.string ⟨#[]⟩, .string ⟨#[]⟩, .int .i64 0]), 3, 40) := by kernel_rfl
def cmpPI (x y : Pr) : Int := orL [cmpI y.2 x.2, cmpS x.1.1 y.1.1, cmpS x.1.2 y.1.2]
theorem cmpP_tri : Tri cmpPI := by
  have h := (cmpIT.pair (cmpST.pair cmpST)).at (fun x : Pr => (x.2, x.1)) (fun x y h => by
    obtain ⟨x1, x2⟩ := x
    obtain ⟨y1, y2⟩ := y
    simp only [Prod.mk.injEq] at h ⊢
    exact ⟨h.2, h.1⟩)
  refine (congrArg Tri ?_).mp h
  funext x y
  unfold cmpPI
  simp only [orL]
  by_cases h1 : cmpI y.2 x.2 = 0
  · rw [if_pos h1, if_pos h1]
    by_cases h2 : cmpS x.1.1 y.1.1 = 0
    · rw [if_pos h2, if_pos h2]
      by_cases h3 : cmpS x.1.2 y.1.2 = 0
      · rw [if_pos h3, h3]
      · rw [if_neg h3]
    · rw [if_neg h2, if_neg h2]
  · rw [if_neg h1, if_neg h1]
theorem cmpP_swo : SWO (ltOf cmpPI) := cmpP_tri.swo
def ltP (x y : Pr) : Prop := cmpPI x y < 0
theorem ltP_irr (x : Pr) : ¬ ltP x x := fun h => by have := (cmpP_tri.zero x x).2 rfl; unfold ltP at h; omega
theorem ltP_tr (x y z : Pr) (h1 : ltP x y) (h2 : ltP y z) : ltP x z := cmpP_tri.trans x y z h1 h2
theorem ltP_of {x y : Pr} (h : ¬ ltP x y) (hn : x ≠ y) : ltP y x := by
  unfold ltP at *
  have h1 : cmpPI x y ≠ 0 := fun e => hn ((cmpP_tri.zero _ _).1 e)
  exact (cmpP_tri.anti y x).2 (by omega)
theorem ltP_iff (x y : Pr) : ltP x y ↔ (x.2 ≠ y.2 ∧ y.2 < x.2) ∨ (x.2 = y.2 ∧ ((x.1.1 ≠ y.1.1 ∧ ltN x.1.1 y.1.1) ∨ (x.1.1 = y.1.1 ∧ ltN x.1.2 y.1.2))) := by
  have hI : cmpI y.2 x.2 < 0 ↔ y.2 < x.2 := by unfold cmpI; split <;> (try split) <;> omega
  have hZ : cmpI y.2 x.2 = 0 ↔ x.2 = y.2 := by unfold cmpI; split <;> (try split) <;> omega
  have hS : ∀ a b : ByteArray, cmpS a b < 0 ↔ ltN a b := fun a b => by rw [cmpS_neg, ← less_iff, bytesLess_eq, decide_eq_true_eq]
  unfold ltP cmpPI
  simp only [orL]
  by_cases h1 : cmpI y.2 x.2 = 0
  · rw [if_pos h1]
    have e1 := hZ.1 h1
    by_cases h2 : cmpS x.1.1 y.1.1 = 0
    · rw [if_pos h2]
      have e2 := (cmpS_zero _ _).1 h2
      have : (if cmpS x.1.2 y.1.2 = 0 then 0 else cmpS x.1.2 y.1.2) = cmpS x.1.2 y.1.2 := by split <;> simp_all
      first
        | rw [this, hS]
        | rw [hS]
      simp [e1, e2]
    · rw [if_neg h2, hS]
      have e2 : x.1.1 ≠ y.1.1 := fun e => h2 ((cmpS_zero _ _).2 e)
      simp [e1, e2]
  · rw [if_neg h1, hI]
    have e1 : x.2 ≠ y.2 := fun e => h1 (hZ.2 e)
    simp [e1]

/-- The pairs over a floor, in order. -/
def IsPairs (C : ByteArray → ByteArray → Nat) (fl : Int) (l : List Pr) : Prop := l.Pairwise ltP ∧ ∀ p : Pr, p ∈ l ↔ p.2 = (C p.1.1 p.1.2 : Int) ∧ 1 ≤ p.2 ∧ fl ≤ p.2
theorem IsPairs.one {C : ByteArray → ByteArray → Nat} {fl : Int} {l m : List Pr} (h1 : IsPairs C fl l) (h2 : IsPairs C fl m) : l = m :=
  one_sorted ltP_irr ltP_tr h1.1 h2.1 (fun x => by rw [h1.2, h2.2])
theorem IsPairs.congr {C C' : ByteArray → ByteArray → Nat} {fl : Int} {l : List Pr} (h : IsPairs C fl l) (e : ∀ x y, C x y = C' x y) : IsPairs C' fl l := ⟨h.1, fun p => by rw [h.2, e]⟩
theorem prod_len {α : Type} (I J : List α) : (I.flatMap fun a => J.map fun b => (a, b)).length = I.length * J.length := by
  induction I with
  | nil => simp
  | cons a I ih => rw [List.flatMap_cons, List.length_append, ih, List.length_map, List.length_cons, Nat.add_mul, Nat.one_mul, Nat.add_comm]
/-- A row without twins lies in a product. -/
theorem pr_len {I : List ByteArray} {l : List Pr} (hn : (l.map (·.1)).Nodup) (h : ∀ p ∈ l, p.1.1 ∈ I ∧ p.1.2 ∈ I) : l.length ≤ I.length * I.length := by
  have hs : (l.map (·.1)) ⊆ I.flatMap (fun a => I.map (fun b => (a, b))) := by
    intro q hq
    obtain ⟨p, hp, rfl⟩ := List.mem_map.1 hq
    obtain ⟨h1, h2⟩ := h p hp
    exact List.mem_flatMap.2 ⟨p.1.1, h1, List.mem_map.2 ⟨p.1.2, h2, rfl⟩⟩
  have hl := List.Nodup.length_le_of_subset hn hs
  rw [List.length_map, prod_len] at hl
  exact hl

/-- A pair put into a row in order: how far. -/
def PInsTo (l : List Pr) (x : Pr) (k : Nat) (done : Bool) (out : List Pr) : Prop :=
  out.Pairwise ltP ∧ (done = false → out = l.take k ∧ ∀ y ∈ l.take k, ltP y x) ∧ (done = true → (∀ y, y ∈ out ↔ y ∈ l.take k ∨ y = x) ∧ ∀ j y, k ≤ j → l[j]? = some y → ltP x y)
theorem p_rise_at {l : List Pr} (h : l.Pairwise ltP) {i j : Nat} {x y : Pr} (hij : i < j) (hx : l[i]? = some x) (hy : l[j]? = some y) : ltP x y := by
  obtain ⟨hi, rfl⟩ := List.getElem?_eq_some_iff.1 hx
  obtain ⟨hj, rfl⟩ := List.getElem?_eq_some_iff.1 hy
  exact List.pairwise_iff_getElem.1 h i j hi hj hij
theorem p_take_lt {l : List Pr} (h : l.Pairwise ltP) {k : Nat} {x y : Pr} (hx : l[k]? = some x) (hy : y ∈ l.take k) : ltP y x := by
  obtain ⟨i, hi⟩ := List.mem_iff_getElem?.1 hy
  rw [List.getElem?_take] at hi
  split at hi
  · rename_i hik; exact p_rise_at h hik hi hx
  · cases hi
theorem p_snoc {l : List Pr} (h : l.Pairwise ltP) {x : Pr} (hx : ∀ y ∈ l, ltP y x) : (l ++ [x]).Pairwise ltP := by
  rw [List.pairwise_append]
  exact ⟨h, List.pairwise_singleton _ _, fun a ha b hb => by simp at hb; subst hb; exact hx a ha⟩
section
variable {l : List Pr} {s x : Pr} {k : Nat} {out : List Pr}
theorem PInsTo.on (h : PInsTo l s k true out) (hr : l.Pairwise ltP) (hx : l[k]? = some x) : PInsTo l s (k + 1) true (out ++ [x]) := by
  obtain ⟨h1, _, h3⟩ := h
  obtain ⟨h4, h5⟩ := h3 rfl
  refine ⟨p_snoc h1 (fun y hy => ?_), fun h => (by cases h), fun _ => ⟨fun y => ?_, fun j z hj hz => h5 j z (by omega) hz⟩⟩
  · rcases (h4 y).1 hy with h6 | rfl
    · exact p_take_lt hr hx h6
    · exact h5 k x (Nat.le_refl _) hx
  · have htk : l.take (k + 1) = l.take k ++ [x] := by rw [List.take_add_one, hx]; rfl
    rw [List.mem_append, h4, htk, List.mem_append, List.mem_singleton]
    constructor
    · rintro ((h | h) | h)
      · exact Or.inl (Or.inl h)
      · exact Or.inr h
      · exact Or.inl (Or.inr h)
    · rintro ((h | h) | h)
      · exact Or.inl (Or.inl h)
      · exact Or.inr h
      · exact Or.inl (Or.inr h)
theorem PInsTo.here (h : PInsTo l s k false out) (hr : l.Pairwise ltP) (hx : l[k]? = some x) (hsx : ltP s x) : PInsTo l s (k + 1) true ((out ++ [s]) ++ [x]) := by
  obtain ⟨h1, h2, _⟩ := h
  obtain ⟨rfl, h3⟩ := h2 rfl
  refine PInsTo.on ⟨p_snoc h1 h3, fun h => (by cases h), fun _ => ⟨fun y => by rw [List.mem_append, List.mem_singleton], fun j z hj hz => ?_⟩⟩ hr hx
  by_cases e : j = k
  · subst e; rw [hx] at hz; cases hz; exact hsx
  · exact ltP_tr _ _ _ hsx (p_rise_at hr (by omega) hx hz)
theorem PInsTo.past (h : PInsTo l s k false out) (hr : l.Pairwise ltP) (hx : l[k]? = some x) (hsx : ¬ ltP s x) (hne : s ≠ x) : PInsTo l s (k + 1) false (out ++ [x]) := by
  obtain ⟨h1, h2, _⟩ := h
  obtain ⟨rfl, h3⟩ := h2 rfl
  have htk : l.take (k + 1) = l.take k ++ [x] := by rw [List.take_add_one, hx]; rfl
  refine ⟨p_snoc h1 (fun y hy => p_take_lt hr hx hy), fun _ => ⟨htk.symm, fun y hy => ?_⟩, fun h => (by cases h)⟩
  rw [htk, List.mem_append, List.mem_singleton] at hy
  rcases hy with hy | rfl
  · exact h3 y hy
  · exact ltP_of hsx hne
end

end Go.Proofs.YtcgangmmehbdoaaDoor
