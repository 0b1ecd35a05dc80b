/- The comparison of two events by their ticks. -/
import Derived.Test.YtcgangmmehbdoaaDoorStr
import Derived.Shelf.SlSortCmp.NoneTotal
namespace Go.Proofs.YtcgangmmehbdoaaDoor
open Go.Shelf Go.RowKit Go.Lib Go.Sort
set_option linter.unusedVariables false

instance : Inhabited Ev := ⟨⟨⟨#[]⟩, 0, 0, 0, ⟨#[]⟩, ⟨#[]⟩, 0, ⟨#[]⟩⟩⟩
def cmpEI (x y : Ev) : Int := cmpI x.tick y.tick
theorem cmpE_lt (x y : Ev) : cmpEI x y < 0 ↔ x.tick < y.tick := by
  unfold cmpEI cmpI
  split
  · constructor <;> intro <;> omega
  · split <;> constructor <;> intro <;> omega
theorem cmpE_swo : SWO (ltOf cmpEI) := by
  refine ⟨fun x => ?_, fun x y z h1 h2 => ?_, fun x y z h1 h2 => ?_⟩ <;> unfold ltOf at * <;> simp only [cmpE_lt, decide_eq_true_eq, decide_eq_false_iff_not] at * <;> omega

set_option maxHeartbeats 1000000 in
set_option maxRecDepth 100000 in
theorem of1_any (x y : Ev) (w : World) : Calls Tryd.prog 22 #[evA x, evA y] w fun e w' => e = .returned (.int .i64 (cmpEI x y)) ∧ ∃ o1 o2, w' = (w.alloc o1).alloc o2 := by
  obtain ⟨s1, n1, t1, k1, p1, i1, v1, x1⟩ := x
  obtain ⟨s2, n2, t2, k2, p2, i2, v2, x2⟩ := y
  unfold evA
  dsimp only
  obtain ⟨w1, hw1⟩ : ∃ w1, w.alloc (.cells #[.string s1, .int .i64 n1, .int .i64 t1, .int .i64 k1, .string p1, .string i1, .int .i64 v1, .string x1] 33) = w1 := ⟨_, rfl⟩
  obtain ⟨w2, hw2⟩ : ∃ w2, w1.alloc (.cells #[.string s2, .int .i64 n2, .int .i64 t2, .int .i64 k2, .string p2, .string i2, .int .i64 v2, .string x2] 33) = w2 := ⟨_, rfl⟩
  have b1 : Blk w1 w.heap.size 33 #[.string s1, .int .i64 n1, .int .i64 t1, .int .i64 k1, .string p1, .string i1, .int .i64 v1, .string x1] := by rw [← hw1]; exact Blk.new _ _ _
  have b1' : Blk w2 w.heap.size 33 #[.string s1, .int .i64 n1, .int .i64 t1, .int .i64 k1, .string p1, .string i1, .int .i64 v1, .string x1] := by rw [← hw2]; exact b1.alloc _
  have b2 : Blk w2 w1.heap.size 33 #[.string s2, .int .i64 n2, .int .i64 t2, .int .i64 k2, .string p2, .string i2, .int .i64 v2, .string x2] := by rw [← hw2]; exact Blk.new _ _ _
  have HW : Hid (∃ o1 o2, w2 = (w.alloc o1).alloc o2) := Lib.hid ⟨_, _, by rw [← hw2, ← hw1]⟩
  have c2 : w2.cell? ⟨w.heap.size, 2, none⟩ = some (.int .i64 t1) := b1'.cell 2
  have d2 : w2.cell? ⟨w1.heap.size, 2, none⟩ = some (.int .i64 t2) := b2.cell 2
  have HC := Lib.hid (cmpI_any t1 t2 w2)
  clear b1 b1' b2
  go_enter Tryd.func22, Tryd.ntmps22
  go_wp2_with fail
  refine HC.out.mono ?_
  rintro e w3 ⟨rfl, rfl⟩
  go_wp2_with fail
  go_ret
  exact ⟨rfl, HW.out⟩
theorem cmpE_lays (blk off size : Nat) (w : World) : CmpLays Tryd.prog 22 #[] evC 8 cmpEI blk off size w :=
  fun _ _ _ _ x y => (of1_any x y _).mono fun e w' ⟨he, o1, o2, hw⟩ => ⟨he, 0, #[o1] ++ #[o2], by
    rw [hw, alloc_eq_grow, alloc_eq_grow, grow_grow]; rfl⟩

end Go.Proofs.YtcgangmmehbdoaaDoor
