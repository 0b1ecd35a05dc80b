/- The order of events: plain. -/
import Derived.Test.YtdcinodbgbkobaaGreatDoorGb
import Derived.Shelf.SlSortCmp.Insertion
import Derived.Sort.LotA
namespace Go.Proofs.YtdcinodbgbkobaaGreatDoor
open Go.Sort
set_option linter.unusedVariables false

theorem cb_self : ∀ a : List UInt8, Lib.compareBytes a a = 0
  | [] => rfl
  | x :: a => by
    unfold Lib.compareBytes
    simp [cb_self a]
theorem cb_cons (x y : UInt8) (a b : List UInt8) : Lib.compareBytes (x :: a) (y :: b) = if x < y then -1 else if y < x then 1 else Lib.compareBytes a b := by
  rw [Lib.compareBytes]
theorem cb_range : ∀ a b : List UInt8, Lib.compareBytes a b = -1 ∨ Lib.compareBytes a b = 0 ∨ Lib.compareBytes a b = 1
  | [], [] => Or.inr (Or.inl rfl)
  | [], _ :: _ => Or.inl rfl
  | _ :: _, [] => Or.inr (Or.inr rfl)
  | x :: a, y :: b => by
    rw [cb_cons]
    split
    · exact Or.inl rfl
    · split
      · exact Or.inr (Or.inr rfl)
      · exact cb_range a b
theorem u8_tri {x y : UInt8} (h1 : ¬ x < y) (h2 : ¬ y < x) : x = y := by
  apply UInt8.toNat_inj.1
  have h3 : ¬ x.toNat < y.toNat := h1
  have h4 : ¬ y.toNat < x.toNat := h2
  omega
theorem cb_zero : ∀ a b : List UInt8, Lib.compareBytes a b = 0 → a = b
  | [], [], _ => rfl
  | [], _ :: _, h => by cases h
  | _ :: _, [], h => by cases h
  | x :: a, y :: b, h => by
    rw [cb_cons] at h
    split at h
    · cases h
    · split at h
      · cases h
      · rename_i h1 h2
        rw [u8_tri h1 h2, cb_zero a b h]
theorem cb_flip : ∀ a b : List UInt8, Lib.compareBytes a b = - Lib.compareBytes b a
  | [], [] => rfl
  | [], _ :: _ => rfl
  | _ :: _, [] => rfl
  | x :: a, y :: b => by
    rw [cb_cons, cb_cons]
    by_cases h1 : x < y
    · have h2 : ¬ y < x := fun h => by
        have h3 : x.toNat < y.toNat := h1
        have h4 : y.toNat < x.toNat := h
        omega
      rw [if_pos h1, if_neg h2, if_pos h1]
    · by_cases h2 : y < x
      · rw [if_neg h1, if_pos h2, if_pos h2]; rfl
      · rw [if_neg h1, if_neg h2, if_neg h2, if_neg h1, cb_flip a b]
theorem cb_trans : ∀ a b c : List UInt8, Lib.compareBytes a b = -1 → Lib.compareBytes b c = -1 → Lib.compareBytes a c = -1
  | [], [], _, h, _ => by cases h
  | [], _ :: _, [], _, h => by cases h
  | [], _ :: _, _ :: _, _, _ => rfl
  | _ :: _, [], _, h, _ => by cases h
  | _ :: _, _ :: _, [], _, h => by cases h
  | x :: a, y :: b, z :: c, h1, h2 => by
    rw [cb_cons] at h1 h2 ⊢
    by_cases e1 : x < y
    · by_cases e2 : y < z
      · have : x < z := by
          have h3 : x.toNat < y.toNat := e1
          have h4 : y.toNat < z.toNat := e2
          show x.toNat < z.toNat
          omega
        rw [if_pos this]
      · rw [if_neg e2] at h2
        by_cases e3 : z < y
        · rw [if_pos e3] at h2; cases h2
        · rw [← u8_tri e2 e3, if_pos e1]
    · rw [if_neg e1] at h1
      by_cases e3 : y < x
      · rw [if_pos e3] at h1; cases h1
      · rw [if_neg e3] at h1
        obtain rfl := u8_tri e1 e3
        by_cases e2 : x < z
        · rw [if_pos e2]
        · rw [if_neg e2] at h2 ⊢
          by_cases e4 : z < x
          · rw [if_pos e4] at h2; cases h2
          · rw [if_neg e4] at h2 ⊢
            exact cb_trans a b c h1 h2
theorem cI_range (a b : Int) : cmpI a b = -1 ∨ cmpI a b = 0 ∨ cmpI a b = 1 := by
  unfold cmpI
  split
  · exact Or.inl rfl
  · split
    · exact Or.inr (Or.inr rfl)
    · exact Or.inr (Or.inl rfl)
theorem cI_zero {a b : Int} (h : cmpI a b = 0) : a = b := by
  unfold cmpI at h
  split at h
  · cases h
  · split at h
    · cases h
    · omega
theorem cI_self (a : Int) : cmpI a a = 0 := by unfold cmpI; rw [if_neg (by omega), if_neg (by omega)]
theorem cI_flip (a b : Int) : cmpI a b = - cmpI b a := by
  unfold cmpI
  by_cases h1 : a < b
  · rw [if_pos h1, if_neg (by omega), if_pos h1]
  · by_cases h2 : b < a
    · rw [if_neg h1, if_pos h2, if_pos h2]; rfl
    · rw [if_neg h1, if_neg h2, if_neg h2, if_neg h1]; rfl
theorem cI_lt {a b : Int} : cmpI a b = -1 ↔ a < b := by
  unfold cmpI
  split
  · exact ⟨fun _ => by assumption, fun _ => rfl⟩
  · split
    · exact ⟨fun h => (by cases h), fun h => (by omega)⟩
    · exact ⟨fun h => (by cases h), fun h => (by omega)⟩
theorem cmpE_def (x y : Ev) : cmpE x y = if cmpI x.tick y.tick = 0 then if cmpB x.src y.src = 0 then cmpI x.num y.num else cmpB x.src y.src else cmpI x.tick y.tick := by
  unfold cmpE
  simp only [orL]
  by_cases h1 : cmpI x.tick y.tick = 0
  · rw [if_pos h1, if_pos h1]
    by_cases h2 : cmpB x.src y.src = 0
    · rw [if_pos h2, if_pos h2]
      by_cases h3 : cmpI x.num y.num = 0
      · rw [if_pos h3, h3]
      · rw [if_neg h3]
    · rw [if_neg h2, if_neg h2]
  · rw [if_neg h1, if_neg h1]
theorem cE_range (x y : Ev) : cmpE x y = -1 ∨ cmpE x y = 0 ∨ cmpE x y = 1 := by
  rw [cmpE_def]
  split
  · split
    · exact cI_range _ _
    · exact cb_range _ _
  · exact cI_range _ _
theorem cE_flip (x y : Ev) : cmpE x y = - cmpE y x := by
  rw [cmpE_def, cmpE_def]
  have h1 := cI_flip x.tick y.tick
  have h2 : cmpB x.src y.src = - cmpB y.src x.src := cb_flip _ _
  have h3 := cI_flip x.num y.num
  by_cases e1 : cmpI y.tick x.tick = 0
  · rw [if_pos (by omega), if_pos e1]
    by_cases e2 : cmpB y.src x.src = 0
    · rw [if_pos (by omega), if_pos e2]; exact h3
    · rw [if_neg (by omega), if_neg e2]; exact h2
  · rw [if_neg (by omega), if_neg e1]; exact h1
theorem ba_eq0 {a b : ByteArray} (h : cmpB a b = 0) : a = b := by
  have := cb_zero _ _ h
  cases a; cases b
  simp only [ByteArray.mk.injEq]
  exact Array.toList_inj.1 this
theorem cE_zero {x y : Ev} (h : cmpE x y = 0) : x.tick = y.tick ∧ x.src = y.src ∧ x.num = y.num := by
  rw [cmpE_def] at h
  split at h
  · rename_i h1
    split at h
    · rename_i h2
      exact ⟨cI_zero h1, ba_eq0 h2, cI_zero h⟩
    · contradiction
  · contradiction
theorem cE_self (x : Ev) : cmpE x x = 0 := by
  have := cE_flip x x
  omega
theorem cE_lt {x y : Ev} : cmpE x y < 0 ↔ cmpE x y = -1 := by
  have := cE_range x y
  omega
theorem cE_trans {x y z : Ev} (h1 : cmpE x y = -1) (h2 : cmpE y z = -1) : cmpE x z = -1 := by
  rw [cmpE_def] at h1 h2 ⊢
  have r1 := cI_range x.tick y.tick
  have r2 := cI_range y.tick z.tick
  by_cases e1 : cmpI x.tick y.tick = 0
  · have t1 := cI_zero e1
    rw [if_pos e1] at h1
    rw [t1]
    by_cases e2 : cmpI y.tick z.tick = 0
    · rw [if_pos e2] at h2 ⊢
      by_cases e3 : cmpB x.src y.src = 0
      · have t3 := ba_eq0 e3
        rw [if_pos e3] at h1
        rw [t3]
        by_cases e4 : cmpB y.src z.src = 0
        · rw [if_pos e4] at h2 ⊢
          rw [cI_lt] at *
          omega
        · rw [if_neg e4] at h2 ⊢; exact h2
      · rw [if_neg e3] at h1
        by_cases e4 : cmpB y.src z.src = 0
        · rw [← ba_eq0 e4, if_neg e3]; exact h1
        · rw [if_neg e4] at h2
          have e5 : cmpB x.src z.src = -1 := cb_trans _ _ _ h1 h2
          rw [if_neg (by omega)]; exact e5
    · rw [if_neg e2] at h2 ⊢; exact h2
  · rw [if_neg e1] at h1
    by_cases e2 : cmpI y.tick z.tick = 0
    · rw [← cI_zero e2, if_neg e1]; exact h1
    · rw [if_neg e2] at h2
      rw [cI_lt] at h1 h2
      have : cmpI x.tick z.tick = -1 := cI_lt.2 (by omega)
      rw [if_neg (by omega)]; exact this
instance : Inhabited Ev := ⟨⟨⟨#[]⟩, 0, 0, 0, ⟨#[]⟩, ⟨#[]⟩, 0, ⟨#[]⟩⟩⟩
theorem cE_lt0 (x y : Ev) : ltOf cmpE x y = true ↔ cmpE x y = -1 := by
  unfold ltOf
  rw [decide_eq_true_eq]
  exact cE_lt
theorem cE_ge (x y : Ev) : ltOf cmpE x y = false ↔ cmpE y x = -1 ∨ cmpE x y = 0 := by
  have h1 := cE_range x y
  have h2 := cE_flip x y
  unfold ltOf
  rw [decide_eq_false_iff_not]
  omega
theorem cE_zl {x y z : Ev} (h : cmpE x y = 0) : cmpE x z = cmpE y z := by
  obtain ⟨h1, h2, h3⟩ := cE_zero h
  rw [cmpE_def, cmpE_def, h1, h2, h3]
theorem cE_zr {x y z : Ev} (h : cmpE y z = 0) : cmpE x y = cmpE x z := by
  obtain ⟨h1, h2, h3⟩ := cE_zero h
  rw [cmpE_def, cmpE_def, h1, h2, h3]
theorem cE_swo : SWO (ltOf cmpE) := by
  refine ⟨fun x => ?_, fun x y z h1 h2 => ?_, fun x y z h1 h2 => ?_⟩
  · rw [cE_ge]; exact Or.inr (cE_self x)
  · rw [cE_lt0] at *; exact cE_trans h1 h2
  · rw [cE_ge] at *
    rcases h1 with h1 | h1
    · rcases h2 with h2 | h2
      · exact Or.inl (cE_trans h2 h1)
      · exact Or.inl (by rw [← cE_zl h2]; exact h1)
    · rw [cE_zl h1]
      rcases h2 with h2 | h2
      · exact Or.inl (by rw [cE_zr h1]; exact h2)
      · exact Or.inr h2
/-- In the order, each behind the one ahead. -/
def SortedE (l : List Ev) : Prop := l.Pairwise fun a b => cmpE a b = -1
/-- One identity. -/
def sameId (a b : Ev) : Prop := a.src = b.src ∧ a.num = b.num
/-- No two of one identity. -/
def OneIds (l : List Ev) : Prop := l.Pairwise fun a b => ¬ sameId a b
theorem sorted_of {l : List Ev} (h : l.Pairwise fun a b => ltOf cmpE b a = false) (ho : OneIds l) : SortedE l := by
  unfold SortedE
  refine (h.and ho).imp ?_
  intro a b hab
  have h1 := (cE_ge b a).1 hab.1
  rcases h1 with h1 | h1
  · exact h1
  · obtain ⟨_, e2, e3⟩ := cE_zero h1
    exact absurd ⟨e2.symm, e3.symm⟩ hab.2
/-- There is one sorted list of the same events. -/
theorem sorted_one : ∀ {l l' : List Ev}, SortedE l → SortedE l' → (∀ e, e ∈ l ↔ e ∈ l') → l = l'
  | [], [], _, _, _ => rfl
  | [], b :: l', _, _, h => absurd ((h b).2 (List.mem_cons_self ..)) (by simp)
  | a :: l, [], _, _, h => absurd ((h a).1 (List.mem_cons_self ..)) (by simp)
  | a :: l, b :: l', h1, h2, h => by
    have p1 := List.pairwise_cons.1 h1
    have p2 := List.pairwise_cons.1 h2
    have hab : a = b := by
      rcases List.mem_cons.1 ((h a).1 (List.mem_cons_self ..)) with e | e
      · exact e
      · rcases List.mem_cons.1 ((h b).2 (List.mem_cons_self ..)) with e2 | e2
        · exact e2.symm
        · have q1 := p1.1 b e2
          have q2 := p2.1 a e
          have q3 := cE_flip a b
          omega
    subst hab
    rw [sorted_one p1.2 p2.2 (fun e => ?_)]
    constructor
    · intro he
      rcases List.mem_cons.1 ((h e).1 (List.mem_cons_of_mem _ he)) with e2 | e2
      · subst e2
        have := p1.1 e he
        rw [cE_self] at this
        omega
      · exact e2
    · intro he
      rcases List.mem_cons.1 ((h e).2 (List.mem_cons_of_mem _ he)) with e2 | e2
      · subst e2
        have := p2.1 e he
        rw [cE_self] at this
        omega
      · exact e2
end Go.Proofs.YtdcinodbgbkobaaGreatDoor
