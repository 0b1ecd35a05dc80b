/- The document's May, Of. -/
import Derived.Test.YtcgangmmehbdoaaDoorRLabel
namespace Go.Proofs.YtcgangmmehbdoaaDoor
open Go.Shelf Go.RowKit Go.Maps
set_option linter.unusedVariables false

set_option maxHeartbeats 4000000 in
set_option maxRecDepth 100000 in
theorem rmay_any (x : Ev) (w : World) (hs : EvSh x) :
    Calls Tryd.prog 31 #[evA x] w fun e w' => e = .returned (.bool (mayB x)) ∧ Below w.heap.size w w' := by
  obtain ⟨s0, n0, t0, k0, p0, i0, v0, x0⟩ := x
  obtain ⟨h0, h1, h2, h3⟩ := hs
  dsimp only at h0 h1 h2 h3
  have HM : Hid (mayB ⟨s0, n0, t0, k0, p0, i0, v0, x0⟩ = (nameB s0 && (decide (1 ≤ n0 ∧ n0 ≤ 1099511627776) && (decide (0 ≤ t0 ∧ t0 ≤ 1099511627776) && kindB ⟨s0, n0, t0, k0, p0, i0, v0, x0⟩)))) := Lib.hid rfl
  unfold evA
  dsimp only
  obtain ⟨w1, hw1⟩ : ∃ w1, w.alloc (.cells #[.string s0, .int .i64 n0, .int .i64 t0, .int .i64 k0, .string p0, .string i0, .int .i64 v0, .string x0] 33) = w1 := ⟨_, rfl⟩
  have bl : Blk w1 w.heap.size 33 #[.string s0, .int .i64 n0, .int .i64 t0, .int .i64 k0, .string p0, .string i0, .int .i64 v0, .string x0] := by rw [← hw1]; exact Blk.new _ _ _
  have HB1 : Hid (Below w.heap.size w w1) := by rw [← hw1]; exact (Below.refl _ _).alloc (Nat.le_refl _) _
  have c0 : w1.cell? ⟨w.heap.size, 0, none⟩ = some (.string s0) := bl.cell 0
  have c1 : w1.cell? ⟨w.heap.size, 1, none⟩ = some (.int .i64 n0) := bl.cell 1
  have c2 : w1.cell? ⟨w.heap.size, 2, none⟩ = some (.int .i64 t0) := bl.cell 2
  have c3 : w1.cell? ⟨w.heap.size, 3, none⟩ = some (.int .i64 k0) := bl.cell 3
  have c4 : w1.cell? ⟨w.heap.size, 4, none⟩ = some (.string p0) := bl.cell 4
  have c5 : w1.cell? ⟨w.heap.size, 5, none⟩ = some (.string i0) := bl.cell 5
  have c6 : w1.cell? ⟨w.heap.size, 6, none⟩ = some (.int .i64 v0) := bl.cell 6
  have c7 : w1.cell? ⟨w.heap.size, 7, none⟩ = some (.string x0) := bl.cell 7
  have HN0 := Lib.hid (rname_any s0 w1 (by unfold maxLen; omega))
  have HI1 := Lib.hid (in_any n0 1 1099511627776 w1)
  have HI2 := Lib.hid (in_any t0 0 1099511627776 w1)
  clear bl
  go_enter Tryd.func31, Tryd.ntmps31
  go_wp2_with fail
  refine HN0.out.mono ?_
  rintro e w2 ⟨rfl, rfl⟩
  clear hw1 HN0
  cases hn0 : nameB s0
  · have HS := Lib.hid hn0
    clear hn0
    go_wp2_with fail
    go_ret
    exact ⟨ret_bool (by rw [HM.out, HS.out]; rfl), HB1.out⟩
  have HS := Lib.hid hn0
  clear hn0
  go_wp2_with fail
  refine HI1.out.mono ?_
  rintro e w2 ⟨rfl, rfl⟩
  clear HI1
  by_cases hnum : 1 ≤ n0 ∧ n0 ≤ 1099511627776
  rotate_left
  · have HD : Hid (decide (1 ≤ n0 ∧ n0 ≤ 1099511627776) = false) := Lib.hid (decide_eq_false hnum)
    rw [HD.out]
    clear hnum
    go_wp2_with fail
    go_ret
    exact ⟨ret_bool (by rw [HM.out, HS.out, HD.out]; rfl), HB1.out⟩
  have HD1 : Hid (decide (1 ≤ n0 ∧ n0 ≤ 1099511627776) = true) := Lib.hid (decide_eq_true hnum)
  rw [HD1.out]
  clear hnum
  go_wp2_with fail
  refine HI2.out.mono ?_
  rintro e w2 ⟨rfl, rfl⟩
  clear HI2
  by_cases htick : 0 ≤ t0 ∧ t0 ≤ 1099511627776
  rotate_left
  · have HD : Hid (decide (0 ≤ t0 ∧ t0 ≤ 1099511627776) = false) := Lib.hid (decide_eq_false htick)
    rw [HD.out]
    clear htick
    go_wp2_with fail
    go_ret
    exact ⟨ret_bool (by rw [HM.out, HS.out, HD1.out, HD.out]; rfl), HB1.out⟩
  have HD2 : Hid (decide (0 ≤ t0 ∧ t0 ≤ 1099511627776) = true) := Lib.hid (decide_eq_true htick)
  rw [HD2.out]
  clear htick
  have HM2 : Hid (mayB ⟨s0, n0, t0, k0, p0, i0, v0, x0⟩ = kindB ⟨s0, n0, t0, k0, p0, i0, v0, x0⟩) := Lib.hid (by rw [HM.out, HS.out, HD1.out, HD2.out]; rfl)
  clear HM HS HD1 HD2
  go_wp2_with fail
  go_quiet (fail)
  obtain ⟨w2, hw2⟩ : ∃ w2, w1.drewN nq = w2 := ⟨_, rfl⟩
  rw [hw2]
  have d3 : w2.cell? ⟨w.heap.size, 3, none⟩ = some (.int .i64 k0) := by rw [← hw2]; exact c3
  have d4 : w2.cell? ⟨w.heap.size, 4, none⟩ = some (.string p0) := by rw [← hw2]; exact c4
  have d5 : w2.cell? ⟨w.heap.size, 5, none⟩ = some (.string i0) := by rw [← hw2]; exact c5
  have d6 : w2.cell? ⟨w.heap.size, 6, none⟩ = some (.int .i64 v0) := by rw [← hw2]; exact c6
  have d7 : w2.cell? ⟨w.heap.size, 7, none⟩ = some (.string x0) := by rw [← hw2]; exact c7
  have HB2 : Hid (Below w.heap.size w w2) := Lib.hid (by rw [← hw2]; exact below_drewN HB1.out _)
  clear c0 c1 c2 c3 c4 c5 c6 c7 HB1 hw2
  have HNP := Lib.hid (rname_any p0 w2 (by unfold maxLen; omega))
  have HNI := Lib.hid (rname_any i0 w2 (by unfold maxLen; omega))
  have HNX := Lib.hid (rname_any x0 w2 (by unfold maxLen; omega))
  have HLX := Lib.hid (rlabel_any x0 w2 (by omega))
  have HV5 := Lib.hid (in_any v0 1 5 w2)
  have HVM := Lib.hid (in_any v0 0 1048576 w2)
  clear h0 h1 h2 h3
  by_cases g1 : k0 = 0 ∨ k0 = 1 ∨ k0 = 2 ∨ k0 = 3 ∨ k0 = 5 ∨ k0 = 6
  · have HK : Hid (kindB ⟨s0, n0, t0, k0, p0, i0, v0, x0⟩ = (nameB p0 && (nameB i0 && (decide (v0 = 0) && empB x0)))) := Lib.hid (by simp only [kindB]; rw [if_pos g1])
    rcases g1 with rfl | rfl | rfl | rfl | rfl | rfl
    all_goals
      go_wp2_with fail
      refine HNP.out.mono ?_
      rintro e w3 ⟨rfl, rfl⟩
      go_wp2_with fail
      refine HNI.out.mono ?_
      rintro e w3 ⟨rfl, rfl⟩
      (go_wp2_with fail) <;> (go_ret; exact ⟨ret_bool (by rw [HM2.out, HK.out]; first | (simp [empB, *]; done) | (simp [empB, *] <;> omega) | (by_cases hv : v0 = 0 <;> simp [empB, *])), HB2.out⟩)
  by_cases g2 : k0 = 4
  · have HK : Hid (kindB ⟨s0, n0, t0, k0, p0, i0, v0, x0⟩ = (nameB p0 && (nameB i0 && (decide (1 ≤ v0) && (decide (v0 ≤ 5) && empB x0))))) := Lib.hid (by simp only [kindB]; rw [if_neg g1, if_pos g2])
    clear g1
    rcases g2 with rfl
    all_goals
      go_wp2_with fail
      refine HNP.out.mono ?_
      rintro e w3 ⟨rfl, rfl⟩
      go_wp2_with fail
      refine HNI.out.mono ?_
      rintro e w3 ⟨rfl, rfl⟩
      go_wp2_with fail
      refine HV5.out.mono ?_
      rintro e w3 ⟨rfl, rfl⟩
      (go_wp2_with fail) <;> (go_ret; exact ⟨ret_bool (by rw [HM2.out, HK.out]; first | (simp [empB, *]; done) | (simp [empB, *] <;> omega) | (by_cases hv : v0 = 0 <;> simp [empB, *])), HB2.out⟩)
  by_cases g3 : k0 = 7 ∨ k0 = 8 ∨ k0 = 9 ∨ k0 = 10
  · have HK : Hid (kindB ⟨s0, n0, t0, k0, p0, i0, v0, x0⟩ = (nameB p0 && (empB i0 && (decide (v0 = 0) && nameB x0)))) := Lib.hid (by simp only [kindB]; rw [if_neg g1, if_neg g2, if_pos g3])
    clear g1 g2
    rcases g3 with rfl | rfl | rfl | rfl
    all_goals
      go_wp2_with fail
      refine HNP.out.mono ?_
      rintro e w3 ⟨rfl, rfl⟩
      go_wp2_with fail
      refine HNX.out.mono ?_
      rintro e w3 ⟨rfl, rfl⟩
      (go_wp2_with fail) <;> (go_ret; exact ⟨ret_bool (by rw [HM2.out, HK.out]; first | (simp [empB, *]; done) | (simp [empB, *] <;> omega) | (by_cases hv : v0 = 0 <;> simp [empB, *])), HB2.out⟩)
  by_cases g4 : k0 = 11
  · have HK : Hid (kindB ⟨s0, n0, t0, k0, p0, i0, v0, x0⟩ = (empB p0 && (nameB i0 && (decide (0 ≤ v0) && (decide (v0 ≤ 1048576) && listB x0))))) := Lib.hid (by simp only [kindB]; rw [if_neg g1, if_neg g2, if_neg g3, if_pos g4])
    clear g1 g2 g3
    rcases g4 with rfl
    all_goals
      go_wp2_with fail
      refine HNI.out.mono ?_
      rintro e w3 ⟨rfl, rfl⟩
      go_wp2_with fail
      refine HVM.out.mono ?_
      rintro e w3 ⟨rfl, rfl⟩
      go_wp2_with fail
      refine HLX.out.mono ?_
      rintro e w3 ⟨rfl, hb3⟩
      have HB3 : Hid (Below w.heap.size w w3) := Lib.hid (HB2.out.trans (hb3.mono HB2.out.size))
      clear hb3
      (go_wp2_with fail) <;> (go_ret; exact ⟨ret_bool (by rw [HM2.out, HK.out]; first | (simp [empB, *]; done) | (simp [empB, *] <;> omega) | (by_cases hv : v0 = 0 <;> simp [empB, *])), HB3.out⟩)
  by_cases g5 : k0 = 12
  · have HK : Hid (kindB ⟨s0, n0, t0, k0, p0, i0, v0, x0⟩ = (empB p0 && (nameB i0 && (decide (0 ≤ v0) && (decide (v0 ≤ 1048576) && empB x0))))) := Lib.hid (by simp only [kindB]; rw [if_neg g1, if_neg g2, if_neg g3, if_neg g4, if_pos g5])
    clear g1 g2 g3 g4
    rcases g5 with rfl
    all_goals
      go_wp2_with fail
      refine HNI.out.mono ?_
      rintro e w3 ⟨rfl, rfl⟩
      go_wp2_with fail
      refine HVM.out.mono ?_
      rintro e w3 ⟨rfl, rfl⟩
      (go_wp2_with fail) <;> (go_ret; exact ⟨ret_bool (by rw [HM2.out, HK.out]; first | (simp [empB, *]; done) | (simp [empB, *] <;> omega) | (by_cases hv : v0 = 0 <;> simp [empB, *])), HB2.out⟩)
  by_cases g6 : k0 = 13
  · have HK : Hid (kindB ⟨s0, n0, t0, k0, p0, i0, v0, x0⟩ = (empB p0 && (nameB i0 && (decide (v0 = 0) && empB x0)))) := Lib.hid (by simp only [kindB]; rw [if_neg g1, if_neg g2, if_neg g3, if_neg g4, if_neg g5, if_pos g6])
    clear g1 g2 g3 g4 g5
    rcases g6 with rfl
    all_goals
      go_wp2_with fail
      refine HNI.out.mono ?_
      rintro e w3 ⟨rfl, rfl⟩
      (go_wp2_with fail) <;> (go_ret; exact ⟨ret_bool (by rw [HM2.out, HK.out]; first | (simp [empB, *]; done) | (simp [empB, *] <;> omega) | (by_cases hv : v0 = 0 <;> simp [empB, *])), HB2.out⟩)
  by_cases g7 : k0 = 14
  · have HK : Hid (kindB ⟨s0, n0, t0, k0, p0, i0, v0, x0⟩ = (nameB p0 && (empB i0 && (decide (v0 = 0) && empB x0)))) := Lib.hid (by simp only [kindB]; rw [if_neg g1, if_neg g2, if_neg g3, if_neg g4, if_neg g5, if_neg g6, if_pos g7])
    clear g1 g2 g3 g4 g5 g6
    rcases g7 with rfl
    all_goals
      go_wp2_with fail
      refine HNP.out.mono ?_
      rintro e w3 ⟨rfl, rfl⟩
      (go_wp2_with fail) <;> (go_ret; exact ⟨ret_bool (by rw [HM2.out, HK.out]; first | (simp [empB, *]; done) | (simp [empB, *] <;> omega) | (by_cases hv : v0 = 0 <;> simp [empB, *])), HB2.out⟩)
  have HK : Hid (kindB ⟨s0, n0, t0, k0, p0, i0, v0, x0⟩ = false) := Lib.hid (by simp only [kindB]; rw [if_neg g1, if_neg g2, if_neg g3, if_neg g4, if_neg g5, if_neg g6, if_neg g7])
  have e0 : (k0 == 0) = false := by rw [Bool.eq_false_iff]; intro e; have := beq_iff_eq.1 e; omega
  have e1 : (k0 == 1) = false := by rw [Bool.eq_false_iff]; intro e; have := beq_iff_eq.1 e; omega
  have e2 : (k0 == 2) = false := by rw [Bool.eq_false_iff]; intro e; have := beq_iff_eq.1 e; omega
  have e3 : (k0 == 3) = false := by rw [Bool.eq_false_iff]; intro e; have := beq_iff_eq.1 e; omega
  have e4 : (k0 == 4) = false := by rw [Bool.eq_false_iff]; intro e; have := beq_iff_eq.1 e; omega
  have e5 : (k0 == 5) = false := by rw [Bool.eq_false_iff]; intro e; have := beq_iff_eq.1 e; omega
  have e6 : (k0 == 6) = false := by rw [Bool.eq_false_iff]; intro e; have := beq_iff_eq.1 e; omega
  have e7 : (k0 == 7) = false := by rw [Bool.eq_false_iff]; intro e; have := beq_iff_eq.1 e; omega
  have e8 : (k0 == 8) = false := by rw [Bool.eq_false_iff]; intro e; have := beq_iff_eq.1 e; omega
  have e9 : (k0 == 9) = false := by rw [Bool.eq_false_iff]; intro e; have := beq_iff_eq.1 e; omega
  have e10 : (k0 == 10) = false := by rw [Bool.eq_false_iff]; intro e; have := beq_iff_eq.1 e; omega
  have e11 : (k0 == 11) = false := by rw [Bool.eq_false_iff]; intro e; have := beq_iff_eq.1 e; omega
  have e12 : (k0 == 12) = false := by rw [Bool.eq_false_iff]; intro e; have := beq_iff_eq.1 e; omega
  have e13 : (k0 == 13) = false := by rw [Bool.eq_false_iff]; intro e; have := beq_iff_eq.1 e; omega
  have e14 : (k0 == 14) = false := by rw [Bool.eq_false_iff]; intro e; have := beq_iff_eq.1 e; omega
  clear g1 g2 g3 g4 g5 g6 g7
  go_wp2_with fail
  go_ret
  exact ⟨ret_bool (by rw [HM2.out, HK.out]), HB2.out⟩

end Go.Proofs.YtcgangmmehbdoaaDoor
