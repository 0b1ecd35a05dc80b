/- The laws on maps at the operations, for the walk. Nothing of the program. -/
import Derived.Test.YtpgbgeofhcpocaaGreatDoorBase
namespace Go.Proofs.YtpgbgeofhcpocaaGreatDoor
open Go.RowKit Go.Maps

section
variable {P : Program} (w : World) {ops : Array Oper} {rest : List Oper} {o : Oper} {a : Act} {Q : Exit → Act → World → Prop}

/-- 'm[k]'. -/
theorem wpList_lookM (hg : o.guard = none) (m x : Operand) (t : TypeId) (hop : o.op = Op.lookup t m x false)
    (k e : TypeId) (K : Keyed P k) (ht : P.underlying t = some (.map k e)) (ok : Value → Bool) (z : Value) (hz : (zeroValue e).run P w = .ok z w) (hzo : ok z = true) (b n : Nat) (M : Lit → Option Value)
    (hm : a.eval m = .map (some b)) (hM : MapIs P k ok w b n M) (key : Value) (kl : Lit) (hx : a.eval x = key) (hkey : keyOf P k key = some kl) (v : Value) (hv : (M kl).getD z = v)
    (hK : wpList P ops Q rest (a.put o.dst v) w) : wpList P ops Q (o :: rest) a w := by
  refine wpList_plain hg fun K' hK' => ?_
  have hrun := hM.look K ht hz hzo hkey
  rw [hv] at hrun
  unfold Oper.wp
  simp [execOp, hop, hm, hx, hrun, Result.andThen]
  exact hK' _ _ hK

/-- 'v, ok := m[k]'. -/
theorem wpList_look_okM (hg : o.guard = none) (m x : Operand) (t : TypeId) (hop : o.op = Op.lookup t m x true)
    (k e : TypeId) (K : Keyed P k) (ht : P.underlying t = some (.map k e)) (ok : Value → Bool) (z : Value) (hz : (zeroValue e).run P w = .ok z w) (hzo : ok z = true) (b n : Nat) (M : Lit → Option Value)
    (hm : a.eval m = .map (some b)) (hM : MapIs P k ok w b n M) (key : Value) (kl : Lit) (hx : a.eval x = key) (hkey : keyOf P k key = some kl) (v : Value) (hv : (M kl).getD z = v) (is : Bool) (hi : (M kl).isSome = is)
    (hK : wpList P ops Q rest (a.put o.dst (.tuple #[v, .bool is])) w) : wpList P ops Q (o :: rest) a w := by
  refine wpList_plain hg fun K' hK' => ?_
  have hrun := hM.look_ok K ht hz hzo hkey
  rw [hv, hi] at hrun
  unfold Oper.wp
  simp [execOp, hop, hm, hx, hrun, Result.andThen]
  exact hK' _ _ hK

/-- 'm[k] = v'. -/
theorem wpList_storeM (hg : o.guard = none) (m x v : Operand) (t : TypeId) (hop : o.op = Op.mapUpdate t m x v)
    (k e : TypeId) (K : Keyed P k) (ht : P.underlying t = some (.map k e)) (ok : Value → Bool) (b n : Nat) (M : Lit → Option Value)
    (hm : a.eval m = .map (some b)) (hM : MapIs P k ok w b n M) (hn : n < maxLen) (key val : Value) (kl : Lit) (hx : a.eval x = key) (hv : a.eval v = val) (hkey : keyOf P k key = some kl) (hval : ok val = true)
    (hK : ∀ w', MapIs P k ok w' b (n + 1) (upd M kl val) → w.grownBy w' (some b) → w'.heap.size = w.heap.size → wpList P ops Q rest (a.put o.dst undef) w') :
    wpList P ops Q (o :: rest) a w := by
  refine wpList_plain hg fun K' hK' => ?_
  obtain ⟨w', hrun, r1, r2, r3⟩ := hM.store K ht hn hkey hval
  unfold Oper.wp
  simp [execOp, hop, hm, hx, hv, hrun, Result.andThen]
  exact hK' _ _ (hK w' r1 r2 r3)

/-- 'range m'. -/
theorem wpList_rangeM (hg : o.guard = none) (m : Operand) (t : TypeId) (hop : o.op = Op.range t m) (k e : TypeId) (K : Keyed P k) (ht : P.underlying t = some (.map k e)) (ok : Value → Bool) (b n : Nat) (M : Lit → Option Value)
    (hm : a.eval m = .map (some b)) (hM : MapIs P k ok w b n M)
    (hK : ∀ w' cnt, MapGoes P k ok w' b w.heap.size n M (fun kl => (M kl).isSome) cnt → w.grownBy w' none → w'.heap.size = w.heap.size + 1 → cnt ≤ n → wpList P ops Q rest (a.put o.dst (.pointer (some ⟨w.heap.size, 0, none⟩))) w') :
    wpList P ops Q (o :: rest) a w := by
  refine wpList_plain hg fun K' hK' => ?_
  obtain ⟨w', cnt, hrun, r1, r2, r3, r4⟩ := hM.range K ht
  unfold Oper.wp
  simp [execOp, hop, hm, hrun, Result.andThen]
  exact hK' _ _ (hK w' cnt r1 r2 r3 r4)

/-- The step, keys that are strings, elements of one shape. -/
theorem wpList_nextS {β : Type} (hg : o.guard = none) (it : Operand) (hop : o.op = Op.next it false) (k : TypeId) (hk : P.underlying k = some .string) (ok : Value → Bool) (mkV : β → Value) (invV : ∀ v, ok v = true → ∃ c, v = mkV c) (b r n : Nat) (M : Lit → Option Value) (left : Lit → Bool) (cnt : Nat)
    (hit : a.eval it = .pointer (some ⟨r, 0, none⟩)) (h : MapGoes P k ok w b r n M left cnt)
    (hDone : cnt = 0 → (∀ kl, left kl = false) → wpList P ops Q rest (a.put o.dst (.tuple #[.bool false])) w)
    (hMore : ∀ (s : ByteArray) (c : β) (w' : World) (cnt' : Nat), s.size ≤ maxLen → left (.string s.data.toList) = true → ok (mkV c) = true → M (.string s.data.toList) = some (mkV c) → MapGoes P k ok w' b r n M (fun z => left z && !z.sameKey (.string s.data.toList)) cnt' → cnt' < cnt →
      w.grownBy w' (some r) → w'.heap.size = w.heap.size → (Instr.entry (.pointer (some ⟨r, 0, none⟩))).run P w' = .ok (.tuple #[.string s, mkV c]) w' → wpList P ops Q rest (a.put o.dst (.tuple #[.bool true, .string s, mkV c])) w') :
    wpList P ops Q (o :: rest) a w := by
  refine wpList_plain hg fun K' hK' => ?_
  unfold Oper.wp
  rcases h.next (string_keyed hk) o.type with ⟨h0, hl, hrun⟩ | ⟨key, v, kl, w', cnt', hkey, hlk, hv, hat, hrun, hrg, hlt, hgr, hsz, hen⟩
  · simp [execOp, hop, hit, hrun, Result.andThen]
    exact hK' _ _ (hDone h0 hl)
  · obtain ⟨s, rfl, rfl, hs⟩ := WideMaps.string_of_keyOf hk hkey
    obtain ⟨c, rfl⟩ := invV v hv
    simp [execOp, hop, hit, hrun, Result.andThen]
    exact hK' _ _ (hMore s c w' cnt' hs hlk hv hat hrg hlt hgr hsz hen)
end

end Go.Proofs.YtpgbgeofhcpocaaGreatDoor
