/- Things compared; lists of events that are handed in. -/
import Derived.Test.YtikbckpphkpaiaaDoorLawAwake
import Derived.Test.YtikbckpphkpaiaaDoorHolds
namespace Go.Proofs.YtikbckpphkpaiaaDoor
open Go.Shelf Go.RowKit Go.Maps
set_option linter.unusedVariables false

/-- The same thing? -/
def itB (x y : It) : Bool := decide (x.name = y.name) && (decide (x.maker = y.maker) && (decide (x.tags = y.tags) && (decide (x.stock = y.stock) && (decide (x.price = y.price) && (decide (x.born = y.born) && decide (x.listed = y.listed))))))
theorem itB_iff (x y : It) : itB x y = true ↔ x = y := by
  obtain ⟨a1, a2, a3, a4, a5, a6, a7⟩ := x
  obtain ⟨b1, b2, b3, b4, b5, b6, b7⟩ := y
  simp [itB]
theorem itB_rfl (x : It) : itB x x = true := (itB_iff x x).2 rfl
@[go_sem high] theorem eq_it (a1 a2 a3 : ByteArray) (a4 a5 a6 : Int) (a7 : Bool) (b1 b2 b3 : ByteArray) (b4 b5 b6 : Int) (b7 : Bool) (w : World) :
    (Op.equalIn 10000 42 (.agg #[.string a1, .string a2, .string a3, .int .i64 a4, .int .i64 a5, .int .i64 a6, .bool a7]) (.agg #[.string b1, .string b2, .string b3, .int .i64 b4, .int .i64 b5, .int .i64 b6, .bool b7])).run Tryd.prog w = .ok (itB ⟨a1, a2, a3, a4, a5, a6, a7⟩ ⟨b1, b2, b3, b4, b5, b6, b7⟩) w := by
  by_cases h1 : a1 = b1
  rotate_left
  · simp [go_sem, str_eqB, itB, h1]
  by_cases h2 : a2 = b2
  rotate_left
  · simp [go_sem, str_eqB, itB, h1, h2]
  by_cases h3 : a3 = b3
  rotate_left
  · simp [go_sem, str_eqB, itB, h1, h2, h3]
  by_cases h4 : a4 = b4
  rotate_left
  · simp [go_sem, itB, h1, h2, h3, h4]
  by_cases h5 : a5 = b5
  rotate_left
  · simp [go_sem, itB, h1, h2, h3, h4, h5]
  by_cases h6 : a6 = b6
  rotate_left
  · simp [go_sem, itB, h1, h2, h3, h4, h5, h6]
  by_cases h7 : a7 = b7
  rotate_left
  · simp [go_sem, itB, h1, h2, h3, h4, h5, h6, h7]
  simp [go_sem, itB, h1, h2, h3, h4, h5, h6, h7]

/-- A list of events that was handed in. -/
def EvArg (w : World) (A : Option Addr) (n c : Nat) (l : List Ev) : Prop := l.length = n ∧ EvsAt w w.heap.size A l ∧ n ≤ 140737488355328 ∧ (A = none → c = 0) ∧ ∀ e ∈ l, EvBd e

end Go.Proofs.YtikbckpphkpaiaaDoor
