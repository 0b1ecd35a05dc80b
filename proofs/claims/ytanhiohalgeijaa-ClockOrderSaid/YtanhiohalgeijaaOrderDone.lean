/- ClockOrder returns true for every input (no conditions): where nothing is idle, and none of it is late, the order in which things are heard plays no part for the sources, nor for what they tell of. -/
import Derived.Test.YtanhiohalgeijaaRows
import Derived.Test.YtanhiohalgeijaaOrderM
import Derived.Test.YtanhiohalgeijaaOpenO
import Derived.WalkKit
import Derived.ProofKit
import Derived.OpenShut
import Derived.ShutString
import Derived.ChangeOld
import Derived.Below
namespace Go.Proofs.Ytanhiohalgeijaa
open Go.ChangeShapes Go.WideShapes Go.ChangeAt Go.RowKit
open Go.ChangeMaps (open_string shut_string)
set_option linter.unusedVariables false

theorem clockOrder_own : ownKnob Try.prog.godebug = none := by kernel_rfl
theorem clockOrder_laidOut : laidOutB Try.prog = true := by kernel_rfl

theorem order_go (slack : Int) (a : Option Addr) (len cap : Nat) (l : List ActD) (turn : Int) (w : World) (hl : l.length = len) (ha : ActsAt w w.heap.size a l) (hm : cap ≤ 9223372036854775807) (hlc : len ≤ cap) (hnil : a = none → cap = 0) :
    Calls Try.prog 6 #[.int .i64 slack, .slice a len cap, .int .i64 turn] w fun e w' => e = .returned (.bool true) ∧ Below w.heap.size w w' := order_any slack turn a len cap l w hl ha hm hlc hnil

set_option maxRecDepth 100000 in
theorem clockOrder_lifted (os : Os) (started : os.Started) (H : Type) (enc : TypeId × Value → H) :
    ReturnsInHanded {} Try.checked os 6 .any (Rows.clockOrderSpec.pre6 enc Try.prog Try.f6 Rows.clockOrderRow.domain false) (Rows.clockOrderSpec.post enc Try.prog Try.f6 false true false false) := by
  refine returnsInHanded_of_change (C := Try.checked) clockOrder_own started (by kernel_rfl) Try.func6
    (ChangeSpec.witness6 (enc := enc) (C := Try.checked) false ⟨#[], #[.int .i64 0, .slice none 0 0, .int .i64 0], []⟩ 8 (by kernel_rfl) (by kernel_rfl) (by kernel_rfl) (by kernel_rfl)) ?_
  intro W base args ds gs before hval0 hW hcnd _
  have hval : ∀ (j : Nat) t v, Try.f6.params[j]? = some t → args[j]? = some v → Value.okWide Try.prog W .any base t v := hval0
  have hW' := hW
  obtain ⟨p, q, hA0, hV, rfl, hfz, hnd⟩ := hW
  have hA : DataW.TrodAll enc Try.prog W 0 (fun _ => true) true Try.f6.params.toList args.toList ds p := hA0
  rw [Try.params6] at hA hval
  obtain ⟨v0, vs0, d0, ds0, p0, q0, hargs, rfl, rfl, h0, r0⟩ := trodAll_cons hA
  obtain ⟨v1, vs1, d1, ds1, p1, q1, rfl, rfl, rfl, h1, r1⟩ := trodAll_cons r0
  obtain ⟨v2, vs2, d2, ds2, p2, q2, rfl, rfl, rfl, h2, r2⟩ := trodAll_cons r1
  obtain ⟨rfl, rfl, rfl⟩ := trodAll_nil r2
  obtain rfl : args = #[v0, v1, v2] := by cases args; simp_all
  obtain ⟨rfl, rfl⟩ := trodVars_none hV
  obtain ⟨a0, rfl, rfl, rfl, w0⟩ := open_int Try.underlying3 (hval 0 3 v0 rfl rfl) h0
  obtain ⟨a1, len1, cap1, rfl⟩ := okWide_slice Try.underlying22 (hval 1 22 v1 rfl rfl)
  have k1 := h1
  have lt1 : ∀ x ∈ p1, x.block < W.heap.size := by obtain ⟨m, hm⟩ := k1; exact DataW.trod_lt m _ _ _ hm
  obtain ⟨l1, hl1, hm1, hs1⟩ : ∃ l : List ActD, l.length = len1 ∧ len1 ≤ maxLen ∧ ActsAt W W.heap.size a1 l := by
    obtain ⟨fuel, hf⟩ := h1
    exact acts_of (by simpa [Value.cells] using hf)
  obtain ⟨hlc1, hmc1, hnc1⟩ : len1 ≤ cap1 ∧ cap1 ≤ maxLen ∧ (a1 = none → cap1 = 0) := by
    obtain ⟨fuel, hf⟩ := k1
    exact acts_cap (by simpa [Value.cells] using hf)
  obtain ⟨a2, rfl, rfl, rfl, w2⟩ := open_int Try.underlying3 (hval 2 3 v2 rfl rfl) h2
  clear hA0 hval0
  refine (order_go a0 a1 len1 cap1 l1 a2 W hl1 hs1 (by unfold maxLen at hmc1; omega) hlc1 hnc1).mono fun e W' ⟨he, bel⟩ => ?_
  subst he
  exact ⟨_, rfl, _, _, _, [], _, [], hW', trodAll_mk1 (shut_bool Try.underlying4 _), (trodAll_cons_mk (shut_int Try.underlying3 w0) (trodAll_cons_mk (Below.trod clockOrder_laidOut (by kernel_rfl) (of_decide_eq_true (by kernel_rfl)) k1 bel lt1) (trodAll_cons_mk (shut_int Try.underlying3 w2) trodAll_mk0))), rfl, bel.frame _, fun h => by cases h⟩

theorem clockOrder_over : Rows.clockOrderRow.holds Try.pinned (OpenSpec.ofChange Rows.clockOrderSpec) :=
  OpenClaim.holds_of_wide 6 Try.f6 rfl rfl rfl rfl rfl rfl rfl ⟨rfl, rfl, rfl, rfl, rfl⟩ rfl rfl rfl rfl rfl (by kernel_rfl) Try.func6 (by kernel_rfl)
    (of_decide_eq_true (by kernel_rfl)) (by unfold Func.isWrapper; first | (rw [if_pos (by decide +kernel)]; kernel_rfl) | (rw [if_neg (by decide +kernel)]; exact ⟨rfl, rfl⟩))
    (fun os started H enc _ => clockOrder_lifted os started H enc)

/-- ClockOrder returns true for every input (no conditions): where nothing is idle, and none of it is late, the order in which things are heard plays no part for the sources, nor for what they tell of. -/
theorem clockOrder_holds : Rows.ClockOrderSaid := clockOrder_over
#print axioms clockOrder_holds
end Go.Proofs.Ytanhiohalgeijaa
