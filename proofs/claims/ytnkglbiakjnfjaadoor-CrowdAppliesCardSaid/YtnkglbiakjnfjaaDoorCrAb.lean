/- above: is an event behind another one? -/
import Derived.Test.YtnkglbiakjnfjaaDoorCrL
namespace Go.Proofs.YtnkglbiakjnfjaaDoor
open Go.Shelf Go.RowKit Go.Maps
set_option linter.unusedVariables false

theorem cb_one : ∀ (x y : List UInt8), Lib.compareBytes x y = 1 ↔ y < x
  | [], [] => by simp [Lib.compareBytes]
  | [], d :: y => by simp [Lib.compareBytes]
  | c :: x, [] => by simp [Lib.compareBytes]
  | c :: x, d :: y => by
    unfold Lib.compareBytes
    rw [List.cons_lt_cons_iff]
    by_cases h1 : c < d
    · rw [if_pos h1]
      constructor
      · intro h; cases h
      · rintro (h | ⟨rfl, _⟩)
        · exact absurd h (UInt8.lt_asymm h1)
        · exact absurd h1 (UInt8.lt_irrefl _)
    · rw [if_neg h1]
      by_cases h2 : d < c
      · rw [if_pos h2]; simp [h2]
      · rw [if_neg h2, cb_one x y]
        have e : c = d := UInt8.le_antisymm (UInt8.not_lt.1 h2) (UInt8.not_lt.1 h1)
        simp [e]
theorem cb_zero : ∀ (x y : List UInt8), Lib.compareBytes x y = 0 ↔ x = y
  | [], [] => by simp [Lib.compareBytes]
  | [], d :: y => by simp [Lib.compareBytes]
  | c :: x, [] => by simp [Lib.compareBytes]
  | c :: x, d :: y => by
    unfold Lib.compareBytes
    rw [List.cons.injEq]
    by_cases h1 : c < d
    · rw [if_pos h1]
      constructor
      · intro h; cases h
      · rintro ⟨rfl, _⟩; exact absurd h1 (UInt8.lt_irrefl _)
    · rw [if_neg h1]
      by_cases h2 : d < c
      · rw [if_pos h2]
        constructor
        · intro h; cases h
        · rintro ⟨rfl, _⟩; exact absurd h2 (UInt8.lt_irrefl _)
      · rw [if_neg h2, cb_zero x y]
        have e : c = d := UInt8.le_antisymm (UInt8.not_lt.1 h2) (UInt8.not_lt.1 h1)
        simp [e]
theorem cmpB_one (a b : ByteArray) : cmpB a b = 1 ↔ ltN b a := cb_one _ _
theorem cmpB_zero (a b : ByteArray) : cmpB a b = 0 ↔ a = b := ⟨fun h => ba_eq ((cb_zero _ _).1 h), fun h => (cb_zero _ _).2 (by rw [h])⟩
theorem cmpI_one (a b : Int) : cmpI a b = 1 ↔ b < a := by
  unfold cmpI
  split
  · constructor
    · intro h; cases h
    · intro h; omega
  · split
    · simp [*]
    · constructor
      · intro h; cases h
      · intro h; omega
theorem cmpI_zero (a b : Int) : cmpI a b = 0 ↔ a = b := by
  unfold cmpI
  split
  · constructor
    · intro h; cases h
    · intro h; omega
  · split
    · constructor
      · intro h; cases h
      · intro h; omega
    · constructor
      · intro h; omega
      · intro h; rfl
theorem cmpE_one (x y : Ev) : cmpE x y = 1 ↔ y.tick < x.tick ∨ (x.tick = y.tick ∧ (ltN y.src x.src ∨ (x.src = y.src ∧ y.num < x.num))) := by
  unfold cmpE
  simp only [orL]
  by_cases h1 : x.tick = y.tick
  · rw [if_pos ((cmpI_zero _ _).2 h1)]
    by_cases h2 : x.src = y.src
    · rw [if_pos ((cmpB_zero _ _).2 h2)]
      by_cases h3 : x.num = y.num
      · rw [if_pos ((cmpI_zero _ _).2 h3)]
        constructor
        · intro h; cases h
        · rintro (h | ⟨_, h | ⟨_, h⟩⟩)
          · omega
          · rw [h2] at h; exact absurd h (ltN_irr _)
          · omega
      · rw [if_neg (fun h => h3 ((cmpI_zero _ _).1 h)), cmpI_one]
        constructor
        · intro h; exact Or.inr ⟨h1, Or.inr ⟨h2, h⟩⟩
        · rintro (h | ⟨_, h | ⟨_, h⟩⟩)
          · omega
          · rw [h2] at h; exact absurd h (ltN_irr _)
          · exact h
    · rw [if_neg (fun h => h2 ((cmpB_zero _ _).1 h)), cmpB_one]
      constructor
      · intro h; exact Or.inr ⟨h1, Or.inl h⟩
      · rintro (h | ⟨_, h | ⟨h, _⟩⟩)
        · omega
        · exact h
        · exact absurd h h2
  · rw [if_neg (fun h => h1 ((cmpI_zero _ _).1 h)), cmpI_one]
    constructor
    · exact Or.inl
    · rintro (h | ⟨h, _⟩)
      · exact h
      · exact absurd h h1
theorem cmpE_up {x y z : Ev} (h : cmpE x y = 1) (k : cmpE y z = 1) : cmpE x z = 1 := by
  rw [cmpE_one] at *
  rcases h with h | ⟨h1, h⟩
  · rcases k with k | ⟨k1, _⟩ <;> exact Or.inl (by omega)
  · rcases k with k | ⟨k1, k⟩
    · exact Or.inl (by omega)
    · refine Or.inr ⟨by omega, ?_⟩
      rcases h with h | ⟨h2, h⟩
      · rcases k with k | ⟨k2, _⟩
        · exact Or.inl (ltN_trans k h)
        · exact Or.inl (by rw [← k2]; exact h)
      · rcases k with k | ⟨k2, k⟩
        · exact Or.inl (by rw [h2]; exact k)
        · exact Or.inr ⟨h2.trans k2, by omega⟩

set_option maxHeartbeats 1000000 in
set_option maxRecDepth 100000 in
theorem above_any (x y : Ev) (w : World) : Calls Tryd.prog 38 #[evA x, evA y] w fun e w' => e = .returned (.bool (decide (cmpE x y = 1))) ∧ Below w.heap.size w w' := by
  have HC := Lib.hid (cmpE_one x y)
  obtain ⟨w1, hw1⟩ : ∃ w1, w.alloc (.cells (evArr x) 40) = w1 := ⟨_, rfl⟩
  have H1 : Hid (Blk w1 w.heap.size 40 (evArr x)) := Lib.hid (by rw [← hw1]; exact Blk.new _ _ _)
  have HB1 : Hid (Below w.heap.size w w1) := Lib.hid (by rw [← hw1]; exact (Below.refl _ _).alloc (Nat.le_refl _) _)
  obtain ⟨w2, hw2⟩ : ∃ w2, w1.alloc (.cells (evArr y) 40) = w2 := ⟨_, rfl⟩
  have H2 : Hid (Blk w2 w1.heap.size 40 (evArr y)) := Lib.hid (by rw [← hw2]; exact Blk.new _ _ _)
  have H3 : Hid (Blk w2 w.heap.size 40 (evArr x)) := Lib.hid (by rw [← hw2]; exact H1.out.alloc _)
  have HB2 : Hid (Below w.heap.size w w2) := Lib.hid (by rw [← hw2]; exact HB1.out.alloc HB1.out.size _)
  have c0 : w2.cell? ⟨w.heap.size, 0, none⟩ = some (.string x.src) := H3.out.cell 0
  have c1 : w2.cell? ⟨w.heap.size, 1, none⟩ = some (.int .i64 x.num) := H3.out.cell 1
  have c2 : w2.cell? ⟨w.heap.size, 2, none⟩ = some (.int .i64 x.tick) := H3.out.cell 2
  have d0 : w2.cell? ⟨w1.heap.size, 0, none⟩ = some (.string y.src) := H2.out.cell 0
  have d1 : w2.cell? ⟨w1.heap.size, 1, none⟩ = some (.int .i64 y.num) := H2.out.cell 1
  have d2 : w2.cell? ⟨w1.heap.size, 2, none⟩ = some (.int .i64 y.tick) := H2.out.cell 2
  unfold evArr at hw1 hw2
  unfold evA
  by_cases h1 : x.tick = y.tick
  · have e1 : (x.tick != y.tick) = false := by simp [h1]
    by_cases h2 : x.src = y.src
    · have e2 : (!decide (x.src = y.src)) = false := by simp [h2]
      have e3 : (x.src.toList == y.src.toList) = true := (beq_list _ _).2 h2
      have HF : Hid (decide (cmpE x y = 1) = decide (y.num < x.num)) := Lib.hid (by
        rw [decide_eq_decide, HC.out]
        constructor
        · rintro (h | ⟨_, h | ⟨_, h⟩⟩)
          · omega
          · rw [h2] at h; exact absurd h (ltN_irr _)
          · exact h
        · intro h; exact Or.inr ⟨h1, Or.inr ⟨h2, h⟩⟩)
      clear h1 h2
      go_enter Tryd.func38, Tryd.ntmps38
      go_wp2_with fail
      go_ret
      exact ⟨ret_bool (by rw [HF.out]), HB2.out⟩
    · have e3 : (x.src.toList == y.src.toList) = false := by
        cases h : x.src.toList == y.src.toList
        · rfl
        · exact absurd ((beq_list _ _).1 h) h2
      have HF : Hid ((!Op.bytesLess x.src.toList y.src.toList) = decide (cmpE x y = 1)) := Lib.hid (by
        have hl : (!Op.bytesLess x.src.toList y.src.toList) = true ↔ ltN y.src x.src := by
          rw [Bool.not_eq_true', ← Bool.not_eq_true, less_iff]
          exact ⟨fun h => ltN_of h h2, fun h k => ltN_irr _ (ltN_trans h k)⟩
        rw [Bool.eq_iff_iff, hl, decide_eq_true_eq, HC.out]
        constructor
        · intro h; exact Or.inr ⟨h1, Or.inl h⟩
        · rintro (h | ⟨_, h | ⟨h, _⟩⟩)
          · omega
          · exact h
          · exact absurd h h2)
      clear h1 h2
      go_enter Tryd.func38, Tryd.ntmps38
      go_wp2_with fail
      go_ret
      exact ⟨ret_bool (by rw [← HF.out]), HB2.out⟩
  · have e1 : (x.tick != y.tick) = true := by simp [h1]
    have HF : Hid (decide (cmpE x y = 1) = decide (y.tick < x.tick)) := Lib.hid (by
      rw [decide_eq_decide, HC.out]
      constructor
      · rintro (h | ⟨h, _⟩)
        · exact h
        · exact absurd h h1
      · exact Or.inl)
    clear h1
    go_enter Tryd.func38, Tryd.ntmps38
    go_wp2_with fail
    go_ret
    exact ⟨ret_bool (by rw [HF.out]), HB2.out⟩

end Go.Proofs.YtnkglbiakjnfjaaDoor
