/- Few, Some, Big, made. -/
import Derived.Test.YtdcinodbgbkobaaGreatDoorFdDiff
import Derived.Test.YtdcinodbgbkobaaGreatDoorGe
namespace Go.Proofs.YtdcinodbgbkobaaGreatDoor
open Go.Shelf Go.RowKit Go.Maps
set_option linter.unusedVariables false

/-- A list of rows that was handed in. -/
def RoBd (r : Ro) : Prop := r.name.size ≤ 281474976710656 ∧ r.maker.size ≤ 281474976710656 ∧ r.tags.size ≤ 281474976710656
def RoArg (w : World) (A : Option Addr) (n c : Nat) (l : List Ro) : Prop := l.length = n ∧ RowIn w w.heap.size 5 A n (l.flatMap roC) ∧ n ≤ 140737488355328 ∧ (A = none → c = 0) ∧ ∀ r ∈ l, RoBd r
def RoFew (r : Ro) : Prop := r.name.size + r.maker.size + r.tags.size ≤ 600
theorem ro_at {w : World} {B : Nat} {A : Option Addr} {l : List Ro} {n : Nat} (h : RowIn w B 5 A n (l.flatMap roC)) (hn : 0 < n) : ∃ g o, A = some ⟨g, o, none⟩ ∧ g < B ∧ ∀ (k : Nat) r, l[k]? = some r → w.cell? ⟨g, o + k * 5, none⟩ = some (.string r.name) ∧ w.cell? ⟨g, o + k * 5 + 1, none⟩ = some (.string r.maker) ∧ w.cell? ⟨g, o + k * 5 + 2, none⟩ = some (.string r.tags) ∧ w.cell? ⟨g, o + k * 5 + 3, none⟩ = some (.int .i64 r.price) ∧ w.cell? ⟨g, o + k * 5 + 4, none⟩ = some (.int .i64 r.stock) := by
  obtain ⟨g, o, h1, h2, h3⟩ := h.at hn
  have q := fun (k : Nat) (r : Ro) (hx : l[k]? = some r) (j : Nat) (hj : j < 5) (u : Value) (hu : (roC r)[j]? = some u) => h3 (k * 5 + j) u ((flat_get roC 5 roC_len _ k j r hx hj).trans hu)
  refine ⟨g, o, h1, h2, fun k r hx => ⟨?_, ?_, ?_, ?_, ?_⟩⟩
  · exact q k r hx 0 (by omega) _ rfl
  · rw [Nat.add_assoc]; exact q k r hx 1 (by omega) _ rfl
  · rw [Nat.add_assoc]; exact q k r hx 2 (by omega) _ rfl
  · rw [Nat.add_assoc]; exact q k r hx 3 (by omega) _ rfl
  · rw [Nat.add_assoc]; exact q k r hx 4 (by omega) _ rfl


/-- The texts of an event are short. -/
def EvSmall (e : Ev) : Prop := e.src.size ≤ 300 ∧ e.person.size ≤ 300 ∧ e.item.size ≤ 300 ∧ e.text.size ≤ 300
theorem EvSmall.sh {e : Ev} (h : EvSmall e) : EvSh e := by obtain ⟨h1, h2, h3, h4⟩ := h; exact ⟨by omega, by omega, by omega, by omega⟩




end Go.Proofs.YtdcinodbgbkobaaGreatDoor
