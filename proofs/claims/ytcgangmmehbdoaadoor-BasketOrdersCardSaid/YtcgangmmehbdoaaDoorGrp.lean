/- Rows by name: a map from names to rows of the call's own. -/
import Derived.Test.YtcgangmmehbdoaaDoorStr
namespace Go.Proofs.YtcgangmmehbdoaaDoor
open Go.Shelf Go.RowKit Go.Maps
set_option linter.unusedVariables false

/-- Block mb is a map from names to rows (of elements of sz cells, type e, from block base on); G: the slice of each name; R: what the rows hold. -/
structure GrpIn {α : Type} (c : α → List Value) (sz : Nat) (e : TypeId) (w : World) (mb n base : Nat) (G : ByteArray → Option Value) (R : ByteArray → List α) : Prop where
  map : MapIs Tryd.prog 9 okSl w mb n (mapG G)
  none_ : ∀ p, R p = [] → G p = none
  some_ : ∀ p, R p ≠ [] → ∃ g cap, G p = some (.slice (some ⟨g, 0, none⟩) (R p).length cap) ∧ w.ownsRow base e sz (.slice (some ⟨g, 0, none⟩) (R p).length cap) (R p).length ((R p).flatMap c) ∧ g ≠ mb
  apart : ∀ p p' v v', p ≠ p' → G p = some v → G p' = some v' → v.ownBlock ≠ v'.ownBlock
section
variable {α : Type} {c : α → List Value} {sz : Nat} {e : TypeId} {w w' : World} {mb n base : Nat} {G : ByteArray → Option Value} {R R' : ByteArray → List α} {S : Nat → Prop}
theorem GrpIn.kept (h : GrpIn c sz e w mb n base G R) (k : Kept S w w') (hm : ¬ S mb) (hS : ∀ p g, ∀ v, G p = some v → v.ownBlock = some g → ¬ S g) : GrpIn c sz e w' mb n base G R := by
  refine ⟨h.map.kept k hm, h.none_, fun p hp => ?_, h.apart⟩
  obtain ⟨g, cap, h1, h2, h3⟩ := h.some_ p hp
  exact ⟨g, cap, h1, owns_kept h2 k (fun g' hg => hS p g' _ h1 hg), h3⟩
theorem GrpIn.below (h : GrpIn c sz e w mb n base G R) (k : Below w.heap.size w w') : GrpIn c sz e w' mb n base G R := h.kept (below_kept (S := fun _ => False) k (Nat.le_refl _)) (fun h => h) (fun _ _ _ _ _ h => h)
theorem GrpIn.rows (h : GrpIn c sz e w mb n base G R) (hR : ∀ p, R' p = R p) : GrpIn c sz e w mb n base G R' := by
  have : R' = R := funext hR
  subst this
  exact h
theorem GrpIn.mono {n' : Nat} (h : GrpIn c sz e w mb n base G R) (hn : n ≤ n') : GrpIn c sz e w mb n' base G R := ⟨h.map.mono hn, h.none_, h.some_, h.apart⟩
theorem GrpIn.live (h : GrpIn c sz e w mb n base G R) {p : ByteArray} {v : Value} {g : Nat} (hp : G p = some v) (hg : v.ownBlock = some g) : base ≤ g ∧ g < w.heap.size ∧ g ≠ mb := by
  by_cases hr : R p = []
  · rw [h.none_ p hr] at hp; cases hp
  · obtain ⟨g', cap', e1, e2, e3⟩ := h.some_ p hr
    rw [e1] at hp
    cases hp
    cases hg
    exact ⟨(e2.lt _ rfl).1, (e2.lt _ rfl).2, e3⟩
/-- The row of a name, nil let in. -/
theorem GrpIn.row (h : GrpIn c sz e w mb n base G R) (p : ByteArray) : ∃ A cap, (G p).getD (.slice none 0 0) = .slice A (R p).length cap ∧ w.ownsRow base e sz (.slice A (R p).length cap) (R p).length ((R p).flatMap c) ∧ (∀ g, (Value.slice A (R p).length cap).ownBlock = some g → g ≠ mb ∧ G p = some (.slice A (R p).length cap)) := by
  by_cases hp : R p = []
  · rw [h.none_ p hp, hp]
    exact ⟨none, 0, rfl, own_nil _ _ _ _, fun g hg => by cases hg⟩
  · obtain ⟨g, cap, h1, h2, h3⟩ := h.some_ p hp
    exact ⟨_, cap, by rw [h1]; rfl, h2, fun g' hg => by cases hg; exact ⟨h3, h1⟩⟩
theorem GrpIn.more {p : ByteArray} {x : α} {A A' : Option Addr} {N cap c' : Nat} (h : GrpIn c sz e w mb n base G R) (hN : (R p).length = N)
    (hold : ∀ g, (Value.slice A N cap).ownBlock = some g → g ≠ mb ∧ G p = some (.slice A N cap))
    (hm : MapIs Tryd.prog 9 okSl w' mb (n + 1) (upd (mapG G) (.string p.data.toList) (.slice A' (N + 1) c'))) (hk : Kept (fun q => q = mb ∨ (Value.slice A N cap).ownBlock = some q) w w')
    (ho : w'.ownsRow base e sz (.slice A' (N + 1) c') (N + 1) ((R p).flatMap c ++ c x)) (hv : (Value.slice A' (N + 1) c').ownBlock = (Value.slice A N cap).ownBlock ∨ ∃ g, (Value.slice A' (N + 1) c').ownBlock = some g ∧ w.heap.size ≤ g)
    (hR : R' p = R p ++ [x]) (hR2 : ∀ q, q ≠ p → R' q = R q) : GrpIn c sz e w' mb (n + 1) base (updG G p (.slice A' (N + 1) c')) R' := by
  obtain ⟨gn, cn, hform, _, hlt⟩ := ho.form (Nat.succ_pos _)
  have hgn : (Value.slice A' (N + 1) c').ownBlock = some gn := by rw [hform]; rfl
  have hmlt := h.map.lt
  have hlive : ∀ q v g, G q = some v → v.ownBlock = some g → g < w.heap.size := by
    intro q v g hq hg
    by_cases hr : R q = []
    · rw [h.none_ q hr] at hq; cases hq
    · obtain ⟨g', cap', e1, e2, _⟩ := h.some_ q hr
      rw [e1] at hq
      cases hq
      exact (e2.lt _ hg).2
  have hne : gn ≠ mb := by
    rcases hv with hv | ⟨g, hv, hg⟩
    · rw [hgn] at hv
      exact (hold gn hv.symm).1
    · rw [hgn] at hv
      cases hv
      omega
  have hoth : ∀ q v g, q ≠ p → G q = some v → v.ownBlock = some g → ¬ (g = mb ∨ (Value.slice A N cap).ownBlock = some g) ∧ g ≠ gn := by
    intro q v g hq hGq hg
    by_cases hr : R q = []
    · rw [h.none_ q hr] at hGq; cases hGq
    · obtain ⟨g', cap', e1, e2, e3⟩ := h.some_ q hr
      have e4 := e1
      rw [hGq] at e4
      cases e4
      cases hg
      refine ⟨fun hh => ?_, fun hh => ?_⟩
      · rcases hh with hh | hh
        · exact e3 hh
        · exact h.apart q p _ _ hq hGq (hold _ hh).2 (by rw [hh]; rfl)
      · rcases hv with hv | ⟨g2, hv, hg2⟩
        · rw [hgn] at hv
          exact h.apart q p _ _ hq hGq (hold _ hv.symm).2 (by rw [← hv, ← hh]; rfl)
        · rw [hgn] at hv
          cases hv
          have := (e2.lt _ rfl).2
          omega
  refine ⟨hm.congr (mapG_upd G p _), fun q hq => ?_, fun q hq => ?_, ?_⟩
  · by_cases e1 : q = p
    · subst e1; rw [hR] at hq; simp at hq
    · rw [hR2 q e1] at hq
      unfold updG
      rw [if_neg e1]
      exact h.none_ q hq
  · by_cases e1 : q = p
    · subst e1
      refine ⟨gn, cn, ?_, ?_, hne⟩
      · unfold updG
        rw [if_pos rfl, hR, List.length_append, hN, hform]
        rfl
      · rw [hR, List.length_append, hN, List.flatMap_append]
        have : [x].flatMap c = c x := by simp
        rw [this]
        rw [hform] at ho
        exact ho
    · rw [hR2 q e1] at hq ⊢
      obtain ⟨g', cap', e2, e3, e4⟩ := h.some_ q hq
      refine ⟨g', cap', by unfold updG; rw [if_neg e1]; exact e2, owns_kept e3 hk (fun g2 hg2 => by cases hg2; exact (hoth q _ g' e1 e2 rfl).1), e4⟩
  · intro q q' v v' hqq hq hq'
    unfold updG at hq hq'
    by_cases e1 : q = p
    · rw [if_pos e1] at hq
      rw [if_neg (fun e2 => hqq (e1.trans e2.symm))] at hq'
      cases hq
      rw [hgn]
      intro hh
      exact (hoth q' v' gn (fun e2 => hqq (e1.trans e2.symm)) hq' hh.symm).2 rfl
    · rw [if_neg e1] at hq
      by_cases e2 : q' = p
      · rw [if_pos e2] at hq'
        cases hq'
        rw [hgn]
        intro hh
        exact (hoth q v gn e1 hq hh).2 rfl
      · rw [if_neg e2] at hq'
        exact h.apart q q' v v' hqq hq hq'
theorem GrpIn.made (w : World) (base : Nat) : GrpIn c sz e (w.alloc (.map #[] 0)) w.heap.size 0 base (fun _ => none) (fun _ => ([] : List α)) :=
  ⟨(MapIs.made w Tryd.prog 9 okSl).congr (fun kl => by cases kl <;> rfl), fun _ _ => rfl, fun _ h => absurd rfl h, fun _ _ _ _ _ h => by cases h⟩
end

end Go.Proofs.YtcgangmmehbdoaaDoor
