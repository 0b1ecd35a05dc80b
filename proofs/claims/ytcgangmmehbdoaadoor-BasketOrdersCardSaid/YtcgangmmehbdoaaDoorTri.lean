/- Comparisons by three ways; of two texts (cmp.Compare); rows in order that have the same are one. -/
import Derived.Test.YtcgangmmehbdoaaDoorStr
import Derived.Test.YtcgangmmehbdoaaDoorText
import Derived.Shelf.SlSortCmp.NoneTotal
namespace Go.Proofs.YtcgangmmehbdoaaDoor
open Go.Shelf Go.RowKit Go.Lib Go.Sort
set_option linter.unusedVariables false

def cmpS (a b : ByteArray) : Int := if Op.bytesLess a.toList b.toList = true then -1 else if (a.toList == b.toList) = true then 0 else 1
theorem cmpS_any (a b : ByteArray) (w : World) : Calls Tryd.prog 37 #[.string a, .string b] w fun e w' => e = .returned (.int .i64 (cmpS a b)) ∧ w = w' := by
  have n1 : (a.toList != a.toList) = false := by simp
  have n2 : (b.toList != b.toList) = false := by simp
  cases h1 : Op.bytesLess a.toList b.toList
  · cases h2 : (a.toList == b.toList)
    · have hr : cmpS a b = 1 := by unfold cmpS; rw [h1, h2]; rfl
      rw [hr]
      clear hr
      go_enter Tryd.func37, Tryd.ntmps37
      go_wp2
      go_ret
      exact ⟨rfl, rfl⟩
    · have hr : cmpS a b = 0 := by unfold cmpS; rw [h1, h2]; rfl
      rw [hr]
      clear hr
      go_enter Tryd.func37, Tryd.ntmps37
      go_wp2
      go_ret
      exact ⟨rfl, rfl⟩
  · have hr : cmpS a b = -1 := by unfold cmpS; rw [h1]; rfl
    rw [hr]
    clear hr
    go_enter Tryd.func37, Tryd.ntmps37
    go_wp2
    go_ret
    exact ⟨rfl, rfl⟩
/-- A comparison by three ways: 0 at one and the same alone, and an order. -/
structure Tri {β : Type} (c : β → β → Int) : Prop where
  zero : ∀ x y, c x y = 0 ↔ x = y
  anti : ∀ x y, c x y < 0 ↔ 0 < c y x
  trans : ∀ x y z, c x y < 0 → c y z < 0 → c x z < 0

theorem Tri.pair {β γ : Type} {c : β → β → Int} {d : γ → γ → Int} (hc : Tri c) (hd : Tri d) : Tri (fun (p q : β × γ) => if c p.1 q.1 = 0 then d p.2 q.2 else c p.1 q.1) where
  zero x y := by
    obtain ⟨x1, x2⟩ := x
    obtain ⟨y1, y2⟩ := y
    simp only [Prod.mk.injEq]
    by_cases h : c x1 y1 = 0
    · rw [if_pos h, hd.zero, (hc.zero x1 y1).1 h]; simp
    · rw [if_neg h]
      exact ⟨fun e => absurd e h, fun e => absurd ((hc.zero _ _).2 e.1) h⟩
  anti x y := by
    obtain ⟨x1, x2⟩ := x
    obtain ⟨y1, y2⟩ := y
    simp only
    by_cases h : c x1 y1 = 0
    · have := (hc.zero x1 y1).1 h
      subst this
      rw [if_pos h, if_pos h]
      exact hd.anti _ _
    · have h' : c y1 x1 ≠ 0 := fun e => h ((hc.zero _ _).2 ((hc.zero _ _).1 e).symm)
      rw [if_neg h, if_neg h']
      exact hc.anti _ _
  trans x y z h1 h2 := by
    obtain ⟨x1, x2⟩ := x
    obtain ⟨y1, y2⟩ := y
    obtain ⟨z1, z2⟩ := z
    simp only at h1 h2 ⊢
    by_cases hxy : c x1 y1 = 0
    · have := (hc.zero x1 y1).1 hxy
      subst this
      rw [if_pos hxy] at h1
      by_cases hyz : c x1 z1 = 0
      · rw [if_pos hyz] at h2 ⊢
        exact hd.trans _ _ _ h1 h2
      · rw [if_neg hyz] at h2 ⊢
        exact h2
    · rw [if_neg hxy] at h1
      by_cases hyz : c y1 z1 = 0
      · have := (hc.zero y1 z1).1 hyz
        subst this
        rw [if_neg hxy]
        exact h1
      · rw [if_neg hyz] at h2
        have h3 := hc.trans _ _ _ h1 h2
        rw [if_neg (by omega)]
        exact h3

theorem Tri.at {α β : Type} {c : β → β → Int} (hc : Tri c) (f : α → β) (hf : ∀ x y, f x = f y → x = y) : Tri (fun x y => c (f x) (f y)) where
  zero x y := ⟨fun h => hf _ _ ((hc.zero _ _).1 h), fun h => (hc.zero _ _).2 (congrArg f h)⟩
  anti x y := hc.anti _ _
  trans x y z := hc.trans _ _ _

theorem Tri.swo {β : Type} {c : β → β → Int} (hc : Tri c) : SWO (ltOf c) where
  irrefl x := by unfold ltOf; rw [(hc.zero x x).2 rfl]; rfl
  trans x y z h1 h2 := by
    unfold ltOf at *
    exact decide_eq_true (hc.trans _ _ _ (of_decide_eq_true h1) (of_decide_eq_true h2))
  ntrans x y z h1 h2 := by
    unfold ltOf at *
    have h1 := of_decide_eq_false h1
    have h2 := of_decide_eq_false h2
    refine decide_eq_false fun h3 => ?_
    by_cases e1 : c x y = 0
    · rw [(hc.zero _ _).1 e1] at h3; exact h2 h3
    · have a1 : c y x < 0 := (hc.anti _ _).2 (by omega)
      exact h2 (hc.trans _ _ _ a1 h3)

theorem Tri.total {β : Type} {c : β → β → Int} (hc : Tri c) (x y : β) (h1 : ltOf c x y = false) (h2 : ltOf c y x = false) : x = y := by
  unfold ltOf at *
  have h1 := of_decide_eq_false h1
  have h2 := of_decide_eq_false h2
  by_cases e1 : c x y = 0
  · exact (hc.zero _ _).1 e1
  · exact absurd ((hc.anti y x).2 (by omega)) h2

theorem cmpIT : Tri (fun a b => cmpI b a) where
  zero x y := by unfold cmpI; split <;> (try split) <;> omega
  anti x y := by unfold cmpI; split <;> split <;> (try split) <;> (try split) <;> omega
  trans x y z := by unfold cmpI; intro h1 h2; split at h1 <;> split at h2 <;> split <;> (try split) <;> (try (split at h1)) <;> (try (split at h2)) <;> omega
theorem cmpS_neg (a b : ByteArray) : cmpS a b < 0 ↔ a.toList < b.toList := by
  unfold cmpS
  rw [bytesLess_eq]
  by_cases h : a.toList < b.toList
  · simp [h]
  · simp only [h, decide_false, Bool.false_eq_true, if_false, iff_false]
    split <;> omega
theorem cmpS_zero (a b : ByteArray) : cmpS a b = 0 ↔ a = b := by
  unfold cmpS
  rw [bytesLess_eq]
  by_cases h : a.toList < b.toList
  · simp only [h, decide_true, if_true]
    refine ⟨fun e => by omega, ?_⟩
    rintro rfl
    exact absurd h (List.lt_irrefl _)
  · simp only [h, decide_false, Bool.false_eq_true, if_false]
    rw [← beq_list]
    split
    · simp_all
    · simp_all
theorem cmpST : Tri cmpS where
  zero := cmpS_zero
  anti x y := by
    have h1 := cmpS_neg x y
    have h2 := cmpS_neg y x
    have h3 := cmpS_zero y x
    have h4 : cmpS y x < 0 ∨ cmpS y x = 0 ∨ 0 < cmpS y x := by omega
    rw [h1]
    rcases h4 with h | h | h
    · have hl := h2.1 h
      exact ⟨fun h' => absurd (List.lt_trans h' hl) (List.lt_irrefl _), fun h' => by omega⟩
    · have hl := h3.1 h
      subst hl
      exact ⟨fun h' => absurd h' (List.lt_irrefl _), fun h' => by omega⟩
    · refine ⟨fun _ => h, fun _ => ?_⟩
      have n1 : ¬ y.toList < x.toList := fun e => by have := h2.2 e; omega
      have n2 : x.toList ≠ y.toList := fun e => by
        have := h3.2 ((beq_list x y).1 (by simp [e])).symm
        omega
      exact Classical.byContradiction fun n3 => n2 (List.le_antisymm (List.not_lt.1 n1) (List.not_lt.1 n3))
  trans x y z h1 h2 := (cmpS_neg _ _).2 (List.lt_trans ((cmpS_neg _ _).1 h1) ((cmpS_neg _ _).1 h2))

theorem drew_grow (w : World) (os : Array Obj) : (grow w os).drew = grow (w.drewN 1) os := rfl
/-- Rows that are in order and have the same are one. -/
theorem one_sorted {α : Type} {lt : α → α → Prop} (irr : ∀ a, ¬ lt a a) (tr : ∀ a b c, lt a b → lt b c → lt a c) : ∀ {l m : List α}, l.Pairwise lt → m.Pairwise lt → (∀ x, x ∈ l ↔ x ∈ m) → l = m
  | [], [], _, _, _ => rfl
  | [], b :: m, _, _, h => absurd ((h b).2 (by simp)) (by simp)
  | a :: l, [], _, _, h => absurd ((h a).1 (by simp)) (by simp)
  | a :: l, b :: m, h1, h2, h => by
    obtain ⟨p1, q1⟩ := List.pairwise_cons.1 h1
    obtain ⟨p2, q2⟩ := List.pairwise_cons.1 h2
    have hab : a = b := by
      rcases List.mem_cons.1 ((h a).1 (by simp)) with e | e
      · exact e
      · rcases List.mem_cons.1 ((h b).2 (by simp)) with e' | e'
        · exact e'.symm
        · exact absurd (tr _ _ _ (p1 b e') (p2 a e)) (irr a)
    subst hab
    rw [one_sorted irr tr q1 q2 (fun x => ?_)]
    constructor
    · intro hx
      rcases List.mem_cons.1 ((h x).1 (List.mem_cons_of_mem _ hx)) with e | e
      · subst e; exact absurd (p1 x hx) (irr x)
      · exact e
    · intro hx
      rcases List.mem_cons.1 ((h x).2 (List.mem_cons_of_mem _ hx)) with e | e
      · subst e; exact absurd (p2 x hx) (irr x)
      · exact e

end Go.Proofs.YtcgangmmehbdoaaDoor
