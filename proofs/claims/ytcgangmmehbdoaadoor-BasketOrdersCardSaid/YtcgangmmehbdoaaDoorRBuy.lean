/- The document's Buy; buys, plain. -/
import Derived.Test.YtcgangmmehbdoaaDoorBkQ
import Derived.Test.YtcgangmmehbdoaaDoorRMay
import Derived.Test.YtcgangmmehbdoaaDoorStr
namespace Go.Proofs.YtcgangmmehbdoaaDoor
open Go.Shelf Go.RowKit Go.Maps
set_option linter.unusedVariables false

theorem ownX_snoc (l : List Ev) (x : Ev) (p : ByteArray) : ownB (l ++ [x]) p = if buyB x = true ∧ x.person = p then ownB l p ++ [x] else ownB l p := by
  unfold ownB
  rw [List.filter_append]
  by_cases h : buyB x = true ∧ x.person = p
  · rw [if_pos h]; simp [h.1, h.2]
  · rw [if_neg h]
    have : (buyB x && decide (x.person = p)) = false := by
      cases hb : buyB x
      · rfl
      · have : ¬ x.person = p := fun e => h ⟨hb, e⟩
        simp [this]
    simp [this]
theorem buyX_tick {x : Ev} (h : buyB x = true) : 0 ≤ x.tick ∧ x.tick ≤ 1099511627776 := by
  unfold buyB mayB at h
  simp only [Bool.and_eq_true, decide_eq_true_eq] at h
  exact h.1.2.2.1
set_option maxHeartbeats 1000000 in
set_option maxRecDepth 100000 in
theorem rbuyX_any (x : Ev) (w : World) (hs : EvSh x) :
    Calls Tryd.prog 16 #[evA x] w fun e w' => e = .returned (.bool (buyB x)) ∧ Below w.heap.size w w' := by
  have HC : Hid (buyB x = (mayB x && decide (x.kind = 3))) := Lib.hid rfl
  have HMY : Hid (∀ W, Calls Tryd.prog 31 #[evA x] W fun e w' => e = .returned (.bool (mayB x)) ∧ Below W.heap.size W w') := Lib.hid (fun W => rmay_any x W hs)
  generalize mayB x = mx at *
  generalize buyB x = cx at *
  obtain ⟨s0, n0, t0, k0, p0, i0, v0, x0⟩ := x
  unfold evA at HMY ⊢
  dsimp only at HMY HC ⊢
  obtain ⟨w1, hw1⟩ : ∃ w1, w.alloc (.cells #[.string s0, .int .i64 n0, .int .i64 t0, .int .i64 k0, .string p0, .string i0, .int .i64 v0, .string x0] 33) = w1 := ⟨_, rfl⟩
  have bl : Blk w1 w.heap.size 33 #[.string s0, .int .i64 n0, .int .i64 t0, .int .i64 k0, .string p0, .string i0, .int .i64 v0, .string x0] := by rw [← hw1]; exact Blk.new _ _ _
  have HB1 : Hid (Below w.heap.size w w1) := Lib.hid (by rw [← hw1]; exact (Below.refl _ _).alloc (Nat.le_refl _) _)
  have c0 : w1.cell? ⟨w.heap.size, 0, none⟩ = some (.string s0) := bl.cell 0
  have c1 : w1.cell? ⟨w.heap.size, 1, none⟩ = some (.int .i64 n0) := bl.cell 1
  have c2 : w1.cell? ⟨w.heap.size, 2, none⟩ = some (.int .i64 t0) := bl.cell 2
  have c3 : w1.cell? ⟨w.heap.size, 3, none⟩ = some (.int .i64 k0) := bl.cell 3
  have c4 : w1.cell? ⟨w.heap.size, 4, none⟩ = some (.string p0) := bl.cell 4
  have c5 : w1.cell? ⟨w.heap.size, 5, none⟩ = some (.string i0) := bl.cell 5
  have c6 : w1.cell? ⟨w.heap.size, 6, none⟩ = some (.int .i64 v0) := bl.cell 6
  have c7 : w1.cell? ⟨w.heap.size, 7, none⟩ = some (.string x0) := bl.cell 7
  have hl1 := bl.lt
  have HM1 := Lib.hid (HMY.out w1)
  clear bl HMY
  go_enter Tryd.func16, Tryd.ntmps16
  go_wp2_with fail
  refine HM1.out.mono ?_
  rintro e w2 ⟨rfl, hb2⟩
  have d3 : w2.cell? ⟨w.heap.size, 3, none⟩ = some (.int .i64 k0) := (hb2.cell (p := ⟨w.heap.size, 3, none⟩) hl1).trans c3
  have HB2 : Hid (Below w.heap.size w w2) := Lib.hid (HB1.out.trans (hb2.mono HB1.out.size))
  clear c0 c1 c2 c3 c4 c5 c6 c7 hw1 HM1 hb2 hl1 HB1
  cases mx
  · have HF : Hid (cx = false) := Lib.hid (by rw [HC.out]; rfl)
    clear HC
    go_wp2_with fail
    go_ret
    exact ⟨ret_bool HF.out.symm, HB2.out⟩
  by_cases q1 : k0 = 3
  · have HF : Hid (cx = true) := Lib.hid (by rw [HC.out, q1]; rfl)
    subst q1
    clear HC
    go_wp2_with fail
    go_ret
    exact ⟨ret_bool HF.out.symm, HB2.out⟩
  have e1 : (k0 == 3) = false := by rw [Bool.eq_false_iff]; intro e; exact q1 (beq_iff_eq.1 e)
  have HF : Hid (cx = false) := Lib.hid (by rw [HC.out]; simp [q1])
  clear HC q1
  go_wp2_with fail
  go_ret
  exact ⟨ret_bool HF.out.symm, HB2.out⟩

end Go.Proofs.YtcgangmmehbdoaaDoor
