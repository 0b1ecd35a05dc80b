/- event.May. -/
import Derived.Test.YtikbckpphkpaiaaDoorEvList
namespace Go.Proofs.YtikbckpphkpaiaaDoor
open Go.Shelf Go.RowKit Go.Maps
set_option linter.unusedVariables false

def empB (s : ByteArray) : Bool := s.toList.isEmpty
/-- What an event of a kind must have. -/
def kindB (e : Ev) : Bool :=
  if e.kind = 0 ∨ e.kind = 1 ∨ e.kind = 2 ∨ e.kind = 3 ∨ e.kind = 5 ∨ e.kind = 6 then nameB e.person && (nameB e.item && (decide (e.value = 0) && empB e.text))
  else if e.kind = 4 then nameB e.person && (nameB e.item && (decide (1 ≤ e.value) && (decide (e.value ≤ 5) && empB e.text)))
  else if e.kind = 7 ∨ e.kind = 8 ∨ e.kind = 9 ∨ e.kind = 10 then nameB e.person && (empB e.item && (decide (e.value = 0) && nameB e.text))
  else if e.kind = 11 then empB e.person && (nameB e.item && (decide (0 ≤ e.value) && (decide (e.value ≤ 1048576) && listB e.text)))
  else if e.kind = 12 then empB e.person && (nameB e.item && (decide (0 ≤ e.value) && (decide (e.value ≤ 1048576) && empB e.text)))
  else if e.kind = 13 then empB e.person && (nameB e.item && (decide (e.value = 0) && empB e.text))
  else if e.kind = 14 then nameB e.person && (empB e.item && (decide (e.value = 0) && empB e.text))
  else false
/-- May an event be? -/
def mayB (e : Ev) : Bool := nameB e.src && (decide (1 ≤ e.num ∧ e.num ≤ 1099511627776) && (decide (0 ≤ e.tick ∧ e.tick ≤ 1099511627776) && kindB e))
/-- The texts of an event are short. -/
def EvSh (e : Ev) : Prop := e.src.size ≤ 1000000 ∧ e.person.size ≤ 1000000 ∧ e.item.size ≤ 1000000 ∧ e.text.size ≤ 1000000

set_option maxHeartbeats 4000000 in
set_option maxRecDepth 100000 in
theorem may_any (x : Ev) (w : World) (hs : EvSh x) (hg : GlobAt w) :
    Calls Tryd.prog 37 #[evA x] w fun e w' => e = .returned (.bool (mayB x)) ∧ Below w.heap.size w w' := by
  obtain ⟨s0, n0, t0, k0, p0, i0, v0, x0⟩ := x
  obtain ⟨h0, h1, h2, h3⟩ := hs
  dsimp only at h0 h1 h2 h3
  have HM : Hid (mayB ⟨s0, n0, t0, k0, p0, i0, v0, x0⟩ = (nameB s0 && (decide (1 ≤ n0 ∧ n0 ≤ 1099511627776) && (decide (0 ≤ t0 ∧ t0 ≤ 1099511627776) && kindB ⟨s0, n0, t0, k0, p0, i0, v0, x0⟩)))) := Lib.hid rfl
  unfold evA
  dsimp only
  obtain ⟨w1, hw1⟩ : ∃ w1, w.alloc (.cells #[.string s0, .int .i64 n0, .int .i64 t0, .int .i64 k0, .string p0, .string i0, .int .i64 v0, .string x0] 37) = w1 := ⟨_, rfl⟩
  have bl : Blk w1 w.heap.size 37 #[.string s0, .int .i64 n0, .int .i64 t0, .int .i64 k0, .string p0, .string i0, .int .i64 v0, .string x0] := by rw [← hw1]; exact Blk.new _ _ _
  have HB1 : Hid (Below w.heap.size w w1) := by rw [← hw1]; exact (Below.refl _ _).alloc (Nat.le_refl _) _
  have HZ : Hid (w.heap.size ≤ w1.heap.size) := HB1.out.size
  have c0 : w1.cell? ⟨w.heap.size, 0, none⟩ = some (.string s0) := bl.cell 0
  have c1 : w1.cell? ⟨w.heap.size, 1, none⟩ = some (.int .i64 n0) := bl.cell 1
  have c2 : w1.cell? ⟨w.heap.size, 2, none⟩ = some (.int .i64 t0) := bl.cell 2
  have c3 : w1.cell? ⟨w.heap.size, 3, none⟩ = some (.int .i64 k0) := bl.cell 3
  have c4 : w1.cell? ⟨w.heap.size, 4, none⟩ = some (.string p0) := bl.cell 4
  have c5 : w1.cell? ⟨w.heap.size, 5, none⟩ = some (.string i0) := bl.cell 5
  have c6 : w1.cell? ⟨w.heap.size, 6, none⟩ = some (.int .i64 v0) := bl.cell 6
  have c7 : w1.cell? ⟨w.heap.size, 7, none⟩ = some (.string x0) := bl.cell 7
  have HN0 := Lib.hid (name_any s0 w1 (by unfold maxLen; omega))
  have HG := Lib.hid (hg.keep HB1.out (Nat.le_refl _))
  clear bl hg
  go_enter Tryd.func37, Tryd.ntmps37
  go_wp2_with fail
  refine HN0.out.mono ?_
  rintro e w2 ⟨rfl, rfl⟩
  clear hw1 HN0
  cases hn0 : nameB s0
  · have HS := Lib.hid hn0
    clear hn0
    go_wp2_with fail
    go_ret
    exact ⟨ret_bool (by rw [HM.out, HS.out]; rfl), HB1.out⟩
  · have HS := Lib.hid hn0
    clear hn0
    by_cases hnum : 1 ≤ n0 ∧ n0 ≤ 1099511627776
    · by_cases htick : 0 ≤ t0 ∧ t0 ≤ 1099511627776
      · have b1 : decide (n0 < 1) = false := decide_eq_false (by omega)
        have b2 : decide (1099511627776 < n0) = false := decide_eq_false (by omega)
        have b3 : decide (t0 < 0) = false := decide_eq_false (by omega)
        have b4 : decide (1099511627776 < t0) = false := decide_eq_false (by omega)
        have HM2 : Hid (mayB ⟨s0, n0, t0, k0, p0, i0, v0, x0⟩ = kindB ⟨s0, n0, t0, k0, p0, i0, v0, x0⟩) := Lib.hid (by rw [HM.out, HS.out, decide_eq_true hnum, decide_eq_true htick]; rfl)
        clear hnum htick HM HS
        go_wp2_with fail
        refine wp_text [] (by kernel_rfl) (by kernel_rfl) ?_
        simp only [wpText]
        repeat ((with_reducible refine wpStill_step (fun K hK => ?_)); go_simp; refine hK _ ?_; clear hK K)
        with_reducible refine wpStill_step (fun K hK => ?_)
        go_simp
        refine ⟨_, still_of (name_any p0 _ (by unfold maxLen; omega)), hK _ ?_⟩
        clear hK K
        repeat ((with_reducible refine wpStill_step (fun K hK => ?_)); go_simp; refine hK _ ?_; clear hK K)
        with_reducible refine wpStill_step (fun K hK => ?_)
        go_simp
        refine ⟨_, still_of (name_any i0 _ (by unfold maxLen; omega)), hK _ ?_⟩
        clear hK K
        repeat ((with_reducible refine wpStill_step (fun K hK => ?_)); go_simp; refine hK _ ?_; clear hK K)
        with_reducible refine wpStill_nil ?_
        have HBD : Hid (Below w.heap.size w w1.drew) := Lib.hid ⟨HB1.out.os, HB1.out.tape, HB1.out.output, HB1.out.size, HB1.out.block⟩
        have HGD : Hid (GlobAt w1.drew) := Lib.hid HG.out.drew
        have HX := Lib.hid (name_any x0 w1.drew (by unfold maxLen; omega))
        have HLI := Lib.hid (listing_any x0 w1.drew (by omega) HGD.out)
        by_cases g1 : k0 = 0 ∨ k0 = 1 ∨ k0 = 2 ∨ k0 = 3 ∨ k0 = 5 ∨ k0 = 6
        · have HK : Hid (kindB ⟨s0, n0, t0, k0, p0, i0, v0, x0⟩ = (nameB p0 && (nameB i0 && (decide (v0 = 0) && empB x0)))) := Lib.hid (by simp only [kindB]; rw [if_pos g1])
          skip
          rcases g1 with rfl | rfl | rfl | rfl | rfl | rfl <;> ((go_wp2_with fail) <;> (go_ret; exact ⟨ret_bool (by rw [HM2.out, HK.out]; simp [empB, *] <;> omega), HBD.out⟩))
        by_cases g2 : k0 = 4
        · have HK : Hid (kindB ⟨s0, n0, t0, k0, p0, i0, v0, x0⟩ = (nameB p0 && (nameB i0 && (decide (1 ≤ v0) && (decide (v0 ≤ 5) && empB x0))))) := Lib.hid (by simp only [kindB]; rw [if_neg g1, if_pos g2])
          clear g1
          rcases g2 with rfl <;> ((go_wp2_with fail) <;> (go_ret; exact ⟨ret_bool (by rw [HM2.out, HK.out]; simp [empB, *] <;> omega), HBD.out⟩))
        by_cases g3 : k0 = 7 ∨ k0 = 8 ∨ k0 = 9 ∨ k0 = 10
        · have HK : Hid (kindB ⟨s0, n0, t0, k0, p0, i0, v0, x0⟩ = (nameB p0 && (empB i0 && (decide (v0 = 0) && nameB x0)))) := Lib.hid (by simp only [kindB]; rw [if_neg g1, if_neg g2, if_pos g3])
          clear g1 g2
          rcases g3 with rfl | rfl | rfl | rfl <;> ((go_wp2_with fail) <;> first | (go_ret; exact ⟨ret_bool (by rw [HM2.out, HK.out]; simp [empB, *] <;> omega), HBD.out⟩) | (refine HX.out.mono ?_; rintro e w2 ⟨rfl, rfl⟩; (go_wp2_with fail) <;> (go_ret; exact ⟨ret_bool (by rw [HM2.out, HK.out]; simp [empB, *] <;> omega), HBD.out⟩)))
        by_cases g4 : k0 = 11
        · have HK : Hid (kindB ⟨s0, n0, t0, k0, p0, i0, v0, x0⟩ = (empB p0 && (nameB i0 && (decide (0 ≤ v0) && (decide (v0 ≤ 1048576) && listB x0))))) := Lib.hid (by simp only [kindB]; rw [if_neg g1, if_neg g2, if_neg g3, if_pos g4])
          clear g1 g2 g3
          rcases g4 with rfl <;> ((go_wp2_with fail) <;> first | (go_ret; exact ⟨ret_bool (by rw [HM2.out, HK.out]; simp [empB, *] <;> omega), HBD.out⟩) | (refine HLI.out.mono ?_; rintro e w2 ⟨rfl, hb2⟩; (go_wp2_with fail) <;> (go_ret; exact ⟨ret_bool (by rw [HM2.out, HK.out]; simp [empB, *] <;> omega), HBD.out.trans (hb2.mono HBD.out.size)⟩)))
        by_cases g5 : k0 = 12
        · have HK : Hid (kindB ⟨s0, n0, t0, k0, p0, i0, v0, x0⟩ = (empB p0 && (nameB i0 && (decide (0 ≤ v0) && (decide (v0 ≤ 1048576) && empB x0))))) := Lib.hid (by simp only [kindB]; rw [if_neg g1, if_neg g2, if_neg g3, if_neg g4, if_pos g5])
          clear g1 g2 g3 g4
          rcases g5 with rfl <;> ((go_wp2_with fail) <;> (go_ret; exact ⟨ret_bool (by rw [HM2.out, HK.out]; simp [empB, *] <;> omega), HBD.out⟩))
        by_cases g6 : k0 = 13
        · have HK : Hid (kindB ⟨s0, n0, t0, k0, p0, i0, v0, x0⟩ = (empB p0 && (nameB i0 && (decide (v0 = 0) && empB x0)))) := Lib.hid (by simp only [kindB]; rw [if_neg g1, if_neg g2, if_neg g3, if_neg g4, if_neg g5, if_pos g6])
          clear g1 g2 g3 g4 g5
          rcases g6 with rfl <;> ((go_wp2_with fail) <;> (go_ret; exact ⟨ret_bool (by rw [HM2.out, HK.out]; simp [empB, *] <;> omega), HBD.out⟩))
        by_cases g7 : k0 = 14
        · have HK : Hid (kindB ⟨s0, n0, t0, k0, p0, i0, v0, x0⟩ = (nameB p0 && (empB i0 && (decide (v0 = 0) && empB x0)))) := Lib.hid (by simp only [kindB]; rw [if_neg g1, if_neg g2, if_neg g3, if_neg g4, if_neg g5, if_neg g6, if_pos g7])
          clear g1 g2 g3 g4 g5 g6
          rcases g7 with rfl <;> ((go_wp2_with fail) <;> (go_ret; exact ⟨ret_bool (by rw [HM2.out, HK.out]; simp [empB, *] <;> omega), HBD.out⟩))
        have HK : Hid (kindB ⟨s0, n0, t0, k0, p0, i0, v0, x0⟩ = false) := Lib.hid (by simp only [kindB]; rw [if_neg g1, if_neg g2, if_neg g3, if_neg g4, if_neg g5, if_neg g6, if_neg g7])
        have q : ∀ z ∈ [0, 1, 2, 3, 4, 5, 6, 7, 8, 9, 10, 11, 12, 13, 14], (k0 == z) = false := by
          intro z hz
          simp only [List.mem_cons, List.mem_nil_iff, or_false] at hz
          rcases hz with rfl | rfl | rfl | rfl | rfl | rfl | rfl | rfl | rfl | rfl | rfl | rfl | rfl | rfl | rfl <;> (rw [beq_eq_false_iff_ne]; omega)
        have q0 := q 0 (by simp)
        have q1 := q 1 (by simp)
        have q2 := q 2 (by simp)
        have q3 := q 3 (by simp)
        have q4 := q 4 (by simp)
        have q5 := q 5 (by simp)
        have q6 := q 6 (by simp)
        have q7 := q 7 (by simp)
        have q8 := q 8 (by simp)
        have q9 := q 9 (by simp)
        have q10 := q 10 (by simp)
        have q11 := q 11 (by simp)
        have q12 := q 12 (by simp)
        have q13 := q 13 (by simp)
        have q14 := q 14 (by simp)
        clear q g1 g2 g3 g4 g5 g6 g7
        go_wp2_with fail
        go_ret
        exact ⟨ret_bool (by rw [HM2.out, HK.out]), HBD.out⟩
      · have HM2 : Hid (mayB ⟨s0, n0, t0, k0, p0, i0, v0, x0⟩ = false) := Lib.hid (by rw [HM.out, decide_eq_false htick]; simp)
        have b1 : decide (n0 < 1) = false := decide_eq_false (by omega)
        have b2 : decide (1099511627776 < n0) = false := decide_eq_false (by omega)
        by_cases h4 : t0 < 0
        · clear hnum htick
          go_wp2_with fail
          go_ret
          exact ⟨ret_bool HM2.out.symm, HB1.out⟩
        · have h5 : 1099511627776 < t0 := by omega
          clear hnum htick
          go_wp2_with fail
          go_ret
          exact ⟨ret_bool HM2.out.symm, HB1.out⟩
    · have HM2 : Hid (mayB ⟨s0, n0, t0, k0, p0, i0, v0, x0⟩ = false) := Lib.hid (by rw [HM.out, decide_eq_false hnum]; simp)
      by_cases h4 : n0 < 1
      · clear hnum
        go_wp2_with fail
        go_ret
        exact ⟨ret_bool HM2.out.symm, HB1.out⟩
      · have h5 : 1099511627776 < n0 := by omega
        clear hnum
        go_wp2_with fail
        go_ret
        exact ⟨ret_bool HM2.out.symm, HB1.out⟩

end Go.Proofs.YtikbckpphkpaiaaDoor
