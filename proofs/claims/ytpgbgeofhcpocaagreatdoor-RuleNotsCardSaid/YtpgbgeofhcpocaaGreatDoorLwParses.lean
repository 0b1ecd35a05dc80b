/- RuleParses: the walk. -/
import Derived.Test.YtpgbgeofhcpocaaGreatDoorRuAw
namespace Go.Proofs.YtpgbgeofhcpocaaGreatDoor
open Go.RowKit Go.Maps Go.Shelf
set_option linter.unusedVariables false

theorem rule_eq (r : Option Nd) : ruleB r = ruleT r := by cases r <;> rfl
/-- How long a rule's own text is. -/
theorem Says.sz {s : ByteArray} {r : Option Nd} {a : Nat} (h : Says s (some r) a) : (ruleT r).size ≤ 4000 := by
  cases h with
  | empty h h0 => exact Nat.zero_le _
  | @good ns h h0 hp =>
    have hnf := hp.nf rfl
    have h1 := (hp.len rfl (by omega)).1 (by omega)
    have h2 := nodeOf_len (k := 0) (by omega) hnf.1 hnf.2
    have h3 := ownN_mono (nodeOf 0 ns) (show 0 ≤ 0 + 1 by omega)
    have h4 : szL (tx (toks s)) ≤ s.size := by
      rw [toks_tk]
      have := tkA_sz s.data.toList []
      unfold tkS
      simpa using this
    have h5 : szL [] = 0 := rfl
    have h6 : (ruleT (some (nodeOf 0 ns))).size = (ownN (nodeOf 0 ns) 0).length := ownB_sz _ 0
    rw [h6]
    omega
theorem below_set {B : Nat} {a w : World} (h : Below B a w) {b i : Nat} (hb : B ≤ b) (u : Value) : Below B a (w.setCell ⟨b, i, none⟩ u) := h.setCell hb u

end Go.Proofs.YtpgbgeofhcpocaaGreatDoor
