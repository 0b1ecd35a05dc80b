/- The document's In, Less; told. -/
import Derived.Test.YtpnfnmpohacnoaaDoorRTags
namespace Go.Proofs.YtpnfnmpohacnoaaDoor
open Go.Shelf Go.RowKit Go.Maps
set_option linter.unusedVariables false

set_option maxHeartbeats 1000000 in
set_option maxRecDepth 100000 in
theorem in_any (n lo hi : Int) (w : World) :
    Calls Tryd.prog 68 #[.int .i64 n, .int .i64 lo, .int .i64 hi] w fun e w' => e = .returned (.bool (decide (lo ≤ n ∧ n ≤ hi))) ∧ w = w' := by
  by_cases h1 : lo ≤ n
  · by_cases h2 : n ≤ hi
    · have HD : Hid (decide (lo ≤ n ∧ n ≤ hi) = true) := Lib.hid (decide_eq_true ⟨h1, h2⟩)
      go_enter Tryd.func68, Tryd.ntmps68
      go_wp2_with fail
      go_ret
      exact ⟨ret_bool (by first | (rw [HD.out]; done) | rfl | simp_all), rfl⟩
    · have HD : Hid (decide (lo ≤ n ∧ n ≤ hi) = false) := Lib.hid (decide_eq_false (fun h => h2 h.2))
      have d2 : decide (n ≤ hi) = false := decide_eq_false h2
      go_enter Tryd.func68, Tryd.ntmps68
      go_wp2_with fail
      go_ret
      exact ⟨ret_bool (by first | (rw [HD.out]; done) | rfl | simp_all), rfl⟩
  · have HD : Hid (decide (lo ≤ n ∧ n ≤ hi) = false) := Lib.hid (decide_eq_false (fun h => h1 h.1))
    have d1 : decide (lo ≤ n) = false := decide_eq_false h1
    go_enter Tryd.func68, Tryd.ntmps68
    go_wp2_with fail
    go_ret
    exact ⟨ret_bool (by first | (rw [HD.out]; done) | rfl | simp_all), rfl⟩

set_option maxHeartbeats 2000000 in
set_option maxRecDepth 100000 in
theorem rless_any (x y : Ev) (w : World) : Calls Tryd.prog 40 #[evA x, evA y] w fun e w' => ∃ b : Bool, e = .returned (.bool b) ∧ (b = true ↔ ltE x y) ∧ Below w.heap.size w w' := by
  obtain ⟨s1, n1, t1, k1, p1, i1, v1, x1⟩ := x
  obtain ⟨s2, n2, t2, k2, p2, i2, v2, x2⟩ := y
  have HLE : Hid (ltE ⟨s1, n1, t1, k1, p1, i1, v1, x1⟩ ⟨s2, n2, t2, k2, p2, i2, v2, x2⟩ ↔ (t1 < t2 ∨ t1 = t2 ∧ (ltN s1 s2 ∨ s1 = s2 ∧ n1 < n2))) := Lib.hid Iff.rfl
  unfold evA
  dsimp only
  obtain ⟨w1, hw1⟩ : ∃ w1, w.alloc (.cells #[.string s1, .int .i64 n1, .int .i64 t1, .int .i64 k1, .string p1, .string i1, .int .i64 v1, .string x1] 36) = w1 := ⟨_, rfl⟩
  obtain ⟨w2, hw2⟩ : ∃ w2, w1.alloc (.cells #[.string s2, .int .i64 n2, .int .i64 t2, .int .i64 k2, .string p2, .string i2, .int .i64 v2, .string x2] 36) = w2 := ⟨_, rfl⟩
  have b1 : Blk w1 w.heap.size 36 #[.string s1, .int .i64 n1, .int .i64 t1, .int .i64 k1, .string p1, .string i1, .int .i64 v1, .string x1] := by rw [← hw1]; exact Blk.new _ _ _
  have b1' : Blk w2 w.heap.size 36 #[.string s1, .int .i64 n1, .int .i64 t1, .int .i64 k1, .string p1, .string i1, .int .i64 v1, .string x1] := by rw [← hw2]; exact b1.alloc _
  have b2 : Blk w2 w1.heap.size 36 #[.string s2, .int .i64 n2, .int .i64 t2, .int .i64 k2, .string p2, .string i2, .int .i64 v2, .string x2] := by rw [← hw2]; exact Blk.new _ _ _
  have HB2 : Hid (Below w.heap.size w w2) := Lib.hid (by rw [← hw2, ← hw1]; exact ((Below.refl _ _).alloc (Nat.le_refl _) _).alloc (by simp) _)
  have c0 : w2.cell? ⟨w.heap.size, 0, none⟩ = some (.string s1) := b1'.cell 0
  have c1 : w2.cell? ⟨w.heap.size, 1, none⟩ = some (.int .i64 n1) := b1'.cell 1
  have c2 : w2.cell? ⟨w.heap.size, 2, none⟩ = some (.int .i64 t1) := b1'.cell 2
  have d0 : w2.cell? ⟨w1.heap.size, 0, none⟩ = some (.string s2) := b2.cell 0
  have d1 : w2.cell? ⟨w1.heap.size, 1, none⟩ = some (.int .i64 n2) := b2.cell 1
  have d2 : w2.cell? ⟨w1.heap.size, 2, none⟩ = some (.int .i64 t2) := b2.cell 2
  clear b1 b1' b2
  go_enter Tryd.func40, Tryd.ntmps40
  by_cases ht : t1 = t2
  · have q1 : (t1 != t2) = false := by rw [ht]; simp
    by_cases hs : s1 = s2
    · have q2 : (s1.toList == s2.toList) = true := (beq_list s1 s2).2 hs
      have HF : Hid (decide (n1 < n2) = true ↔ ltE ⟨s1, n1, t1, k1, p1, i1, v1, x1⟩ ⟨s2, n2, t2, k2, p2, i2, v2, x2⟩) := Lib.hid (by
        rw [HLE.out, decide_eq_true_iff]
        constructor
        · intro h; exact Or.inr ⟨ht, Or.inr ⟨hs, h⟩⟩
        · rintro (h | ⟨_, h | ⟨_, h⟩⟩)
          · omega
          · rw [hs] at h; exact absurd h (ltN_irr _)
          · exact h)
      clear ht hs HLE
      go_wp2_with fail
      go_ret
      exact ⟨_, rfl, HF.out, HB2.out⟩
    · have q2 : (s1.toList == s2.toList) = false := Bool.eq_false_iff.2 (fun e => hs ((beq_list s1 s2).1 e))
      have HF : Hid (Op.bytesLess s1.toList s2.toList = true ↔ ltE ⟨s1, n1, t1, k1, p1, i1, v1, x1⟩ ⟨s2, n2, t2, k2, p2, i2, v2, x2⟩) := Lib.hid (by
        rw [HLE.out, less_iff]
        constructor
        · intro h; exact Or.inr ⟨ht, Or.inl h⟩
        · rintro (h | ⟨_, h | ⟨h, _⟩⟩)
          · omega
          · exact h
          · exact absurd h hs)
      clear ht hs HLE
      go_wp2_with fail
      go_ret
      exact ⟨_, rfl, HF.out, HB2.out⟩
  · have q1 : (t1 != t2) = true := bne_iff_ne.2 ht
    have HF : Hid (decide (t1 < t2) = true ↔ ltE ⟨s1, n1, t1, k1, p1, i1, v1, x1⟩ ⟨s2, n2, t2, k2, p2, i2, v2, x2⟩) := Lib.hid (by
      rw [HLE.out, decide_eq_true_iff]
      constructor
      · intro h; exact Or.inl h
      · rintro (h | ⟨h, _⟩)
        · exact h
        · exact absurd h ht)
    clear ht HLE
    go_wp2_with fail
    go_ret
    exact ⟨_, rfl, HF.out, HB2.out⟩

set_option maxHeartbeats 1000000 in
set_option maxRecDepth 100000 in
theorem told_any (x : It) (w : World) : Calls Tryd.prog 41 #[itA x] w fun e w' => e = .returned (itA x) ∧ Below w.heap.size w w' := by
  obtain ⟨nm, mk, tg, st, pr, bo, li⟩ := x
  unfold itA
  dsimp only
  obtain ⟨w1, hw1⟩ : ∃ w1, w.alloc (.cells #[.string nm, .string mk, .string tg, .int .i64 st, .int .i64 pr, .int .i64 bo, .bool li] 30) = w1 := ⟨_, rfl⟩
  have b1 : Blk w1 w.heap.size 30 #[.string nm, .string mk, .string tg, .int .i64 st, .int .i64 pr, .int .i64 bo, .bool li] := by rw [← hw1]; exact Blk.new _ _ _
  have HB1 : Hid (Below w.heap.size w w1) := Lib.hid (by rw [← hw1]; exact (Below.refl _ _).alloc (Nat.le_refl _) _)
  have c0 : w1.cell? ⟨w.heap.size, 0, none⟩ = some (.string nm) := b1.cell 0
  have c1 : w1.cell? ⟨w.heap.size, 1, none⟩ = some (.string mk) := b1.cell 1
  have c2 : w1.cell? ⟨w.heap.size, 2, none⟩ = some (.string tg) := b1.cell 2
  have c3 : w1.cell? ⟨w.heap.size, 3, none⟩ = some (.int .i64 st) := b1.cell 3
  have c4 : w1.cell? ⟨w.heap.size, 4, none⟩ = some (.int .i64 pr) := b1.cell 4
  have c5 : w1.cell? ⟨w.heap.size, 5, none⟩ = some (.int .i64 bo) := b1.cell 5
  have c6 : w1.cell? ⟨w.heap.size, 6, none⟩ = some (.bool li) := b1.cell 6
  have hl1 := b1.lt
  clear b1
  go_enter Tryd.func41, Tryd.ntmps41
  go_wp2_with fail
  obtain ⟨w2, hw2⟩ : ∃ w2, w1.alloc (.cells #[.string nm, .string mk, .string tg, .int .i64 st, .int .i64 pr, .int .i64 bo, .bool li] 64) = w2 := ⟨_, rfl⟩
  have b2 : Blk w2 w1.heap.size 64 #[.string nm, .string mk, .string tg, .int .i64 st, .int .i64 pr, .int .i64 bo, .bool li] := by rw [← hw2]; exact Blk.new _ _ _
  have HB2 : Hid (Below w.heap.size w w2) := Lib.hid (by rw [← hw2]; exact HB1.out.alloc HB1.out.size _)
  have r0 : w2.cell? ⟨w1.heap.size, 0, none⟩ = some (.string nm) := b2.cell 0
  have r1 : w2.cell? ⟨w1.heap.size, 1, none⟩ = some (.string mk) := b2.cell 1
  have r2 : w2.cell? ⟨w1.heap.size, 2, none⟩ = some (.string tg) := b2.cell 2
  have r3 : w2.cell? ⟨w1.heap.size, 3, none⟩ = some (.int .i64 st) := b2.cell 3
  have r4 : w2.cell? ⟨w1.heap.size, 4, none⟩ = some (.int .i64 pr) := b2.cell 4
  have r5 : w2.cell? ⟨w1.heap.size, 5, none⟩ = some (.int .i64 bo) := b2.cell 5
  have r6 : w2.cell? ⟨w1.heap.size, 6, none⟩ = some (.bool li) := b2.cell 6
  rw [hw2]
  refine bodyPost_ret (v := .agg #[.string nm, .string mk, .string tg, .int .i64 st, .int .i64 pr, .int .i64 bo, .bool li]) (by simp [results, Tryd.results41, go_sem, r0, r1, r2, r3, r4, r5, r6]) rfl ⟨rfl, HB2.out⟩

end Go.Proofs.YtpnfnmpohacnoaaDoor
