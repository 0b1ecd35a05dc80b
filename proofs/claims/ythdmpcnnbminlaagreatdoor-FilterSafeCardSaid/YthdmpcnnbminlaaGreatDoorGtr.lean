/- Some more that later texts lean on. -/
import Derived.Test.YthdmpcnnbminlaaGreatDoorBt
namespace Go.Proofs.YthdmpcnnbminlaaGreatDoor
open Go.Shelf Go.RowKit Go.Maps
set_option linter.unusedVariables false
theorem cb_self : ∀ a : List UInt8, Lib.compareBytes a a = 0
 | [] => rfl
 | x :: a => by
  unfold Lib.compareBytes
  simp [cb_self a]
theorem cI_self (a : Int) : cmpI a a = 0 := by unfold cmpI; rw [if_neg (by omega), if_neg (by omega)]
theorem name_size {t : ByteArray} (h : nameB t = true) : t.size ≤ 24 := by
 unfold nameB at h
 rw [Bool.and_eq_true, decide_eq_true_eq] at h
 exact h.1.2
theorem str_t {a b : ByteArray} (h : a = b) : (a.toList == b.toList) = true := (beq_list _ _).2 h
theorem str_f {a b : ByteArray} (h : a ≠ b) : (a.toList == b.toList) = false := by
 cases e : a.toList == b.toList
 ·rfl
 ·exact absurd ((beq_list _ _).1 e) h
theorem own_low {w : World} {b b' : Nat} {e size n : Nat} {v : Value} {xs : List Value} (h : w.ownsRow b e size v n xs) (hb : b' ≤ b) : w.ownsRow b' e size v n xs := own_mono h hb
section
variable {P : Program} (w : World) {ops : Array Oper} {rest : List Oper} {o : Oper} {a : Act} {Q : Exit → Act → World → Prop}
theorem wpList_nextS {β : Type} (hg : o.guard = none) (it : Operand) (hop : o.op = Op.next it false) (k : TypeId) (hk : P.underlying k = some .string) (ok : Value → Bool) (mkV : β → Value) (invV : ∀ v, ok v = true → ∃ c, v = mkV c) (b r n : Nat) (M : Lit → Option Value) (left : Lit → Bool) (cnt : Nat)
  (hit : a.eval it = .pointer (some ⟨r, 0, none⟩)) (h : MapGoes P k ok w b r n M left cnt)
  (hDone : cnt = 0 → (∀ kl, left kl = false) → wpList P ops Q rest (a.put o.dst (.tuple #[.bool false])) w)
  (hMore : ∀ (s : ByteArray) (c : β) (w' : World) (cnt' : Nat), s.size ≤ maxLen → left (.string s.data.toList) = true → ok (mkV c) = true → M (.string s.data.toList) = some (mkV c) → MapGoes P k ok w' b r n M (fun z => left z && !z.sameKey (.string s.data.toList)) cnt' → cnt' < cnt →
   w.grownBy w' (some r) → w'.heap.size = w.heap.size → (Instr.entry (.pointer (some ⟨r, 0, none⟩))).run P w' = .ok (.tuple #[.string s, mkV c]) w' → wpList P ops Q rest (a.put o.dst (.tuple #[.bool true, .string s, mkV c])) w') :
  wpList P ops Q (o :: rest) a w := by
 refine wpList_plain hg fun K' hK' => ?_
 unfold Oper.wp
 rcases h.next (string_keyed hk) o.type with ⟨h0, hl, hrun⟩ | ⟨key, v, kl, w', cnt', hkey, hlk, hv, hat, hrun, hrg, hlt, hgr, hsz, hen⟩
 ·simp [execOp, hop, hit, hrun, Result.andThen]
  exact hK' _ _ (hDone h0 hl)
 ·obtain ⟨s, rfl, rfl, hs⟩ := WideMaps.string_of_keyOf hk hkey
  obtain ⟨c, rfl⟩ := invV v hv
  simp [execOp, hop, hit, hrun, Result.andThen]
  exact hK' _ _ (hMore s c w' cnt' hs hlk hv hat hrg hlt hgr hsz hen)
end
end Go.Proofs.YthdmpcnnbminlaaGreatDoor
