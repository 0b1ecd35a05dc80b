/- The document's order of counts. -/
import Derived.Test.YtnkglbiakjnfjaaDoorCrRT
namespace Go.Proofs.YtnkglbiakjnfjaaDoor
open Go.Shelf Go.RowKit Go.Maps
set_option linter.unusedVariables false

theorem cmpC_neg (x y : Ct) : cmpCI x y < 0 ↔ y.n < x.n ∨ (x.n = y.n ∧ ltN x.key y.key) := by
  unfold cmpCI
  simp only [orL]
  by_cases h1 : y.n = x.n
  · rw [if_pos ((cmpI_zero _ _).2 h1)]
    have hk : cmpS x.key y.key < 0 ↔ ltN x.key y.key := by rw [cmpS_neg, ← less_iff, bytesLess_eq, decide_eq_true_eq]
    by_cases h2 : cmpS x.key y.key = 0
    · rw [if_pos h2]
      have := (cmpS_zero _ _).1 h2
      constructor
      · intro h; omega
      · rintro (h | ⟨_, h⟩)
        · omega
        · rw [this] at h; exact absurd h (ltN_irr _)
    · rw [if_neg h2, hk]
      constructor
      · intro h; exact Or.inr ⟨h1.symm, h⟩
      · rintro (h | ⟨_, h⟩)
        · omega
        · exact h
  · rw [if_neg (fun h => h1 ((cmpI_zero _ _).1 h))]
    unfold cmpI
    constructor
    · intro h
      split at h
      · exact Or.inl (by assumption)
      · split at h <;> omega
    · rintro (h | ⟨h, _⟩)
      · rw [if_pos h]; omega
      · exact absurd h.symm h1

set_option maxHeartbeats 1000000 in
set_option maxRecDepth 100000 in
theorem rless_any (x y : Ct) (w : World) : Calls Tryd.prog 63 #[.agg #[.string x.key, .int .i64 x.n], .agg #[.string y.key, .int .i64 y.n]] w fun e w' => e = .returned (.bool (decide (cmpCI x y < 0))) ∧ Below w.heap.size w w' := by
  have HC := Lib.hid (cmpC_neg x y)
  obtain ⟨w1, hw1⟩ : ∃ w1, w.alloc (.cells #[.string x.key, .int .i64 x.n] 45) = w1 := ⟨_, rfl⟩
  have H1 : Blk w1 w.heap.size 45 #[.string x.key, .int .i64 x.n] := by rw [← hw1]; exact Blk.new _ _ _
  have HB1 : Hid (Below w.heap.size w w1) := Lib.hid (by rw [← hw1]; exact (Below.refl _ _).alloc (Nat.le_refl _) _)
  obtain ⟨w2, hw2⟩ : ∃ w2, w1.alloc (.cells #[.string y.key, .int .i64 y.n] 45) = w2 := ⟨_, rfl⟩
  have H2 : Blk w2 w1.heap.size 45 #[.string y.key, .int .i64 y.n] := by rw [← hw2]; exact Blk.new _ _ _
  have H3 : Blk w2 w.heap.size 45 #[.string x.key, .int .i64 x.n] := by rw [← hw2]; exact H1.alloc _
  have HB2 : Hid (Below w.heap.size w w2) := Lib.hid (by rw [← hw2]; exact HB1.out.alloc HB1.out.size _)
  have c0 : w2.cell? ⟨w.heap.size, 0, none⟩ = some (.string x.key) := H3.cell 0
  have c1 : w2.cell? ⟨w.heap.size, 1, none⟩ = some (.int .i64 x.n) := H3.cell 1
  have d0 : w2.cell? ⟨w1.heap.size, 0, none⟩ = some (.string y.key) := H2.cell 0
  have d1 : w2.cell? ⟨w1.heap.size, 1, none⟩ = some (.int .i64 y.n) := H2.cell 1
  clear H1 H2 H3
  by_cases q1 : y.n < x.n
  · have HR : Hid (decide (cmpCI x y < 0) = true) := Lib.hid (decide_eq_true (HC.out.2 (Or.inl q1)))
    have e1 : decide (y.n < x.n) = true := decide_eq_true q1
    clear HC
    go_enter Tryd.func63, Tryd.ntmps63
    go_wp2_with fail
    go_ret
    exact ⟨ret_bool HR.out.symm, HB2.out⟩
  have e1 : decide (y.n < x.n) = false := decide_eq_false q1
  by_cases q2 : x.n = y.n
  · have HR : Hid (decide (cmpCI x y < 0) = Op.bytesLess x.key.toList y.key.toList) := Lib.hid (by
      rw [Bool.eq_iff_iff, decide_eq_true_eq, less_iff, HC.out]
      constructor
      · rintro (h | ⟨_, h⟩)
        · exact absurd h q1
        · exact h
      · intro h; exact Or.inr ⟨q2, h⟩)
    have e2 := int_t q2
    clear HC q1 q2
    go_enter Tryd.func63, Tryd.ntmps63
    go_wp2_with fail
    go_ret
    exact ⟨ret_bool (by rw [HR.out]), HB2.out⟩
  · have HR : Hid (decide (cmpCI x y < 0) = false) := Lib.hid (decide_eq_false (fun h => by
      rcases HC.out.1 h with h | h
      · exact q1 h
      · exact q2 h.1))
    have e2 := int_f q2
    clear HC q1 q2
    go_enter Tryd.func63, Tryd.ntmps63
    go_wp2_with fail
    go_ret
    exact ⟨ret_bool HR.out.symm, HB2.out⟩

end Go.Proofs.YtnkglbiakjnfjaaDoor
