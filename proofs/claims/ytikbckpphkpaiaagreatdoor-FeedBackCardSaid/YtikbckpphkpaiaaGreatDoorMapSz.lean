/- Maps whose number of entries is known. Nothing of the program. -/
import Derived.Test.YtikbckpphkpaiaaGreatDoorMapOps
namespace Go.Proofs.YtikbckpphkpaiaaGreatDoor
open Go.RowKit Go.Maps
set_option linter.unusedVariables false

/-- Block b is a map of just sz entries that holds what M says. -/
def MapSz (P : Program) (k : TypeId) (ok : Value → Bool) (w : World) (b sz : Nat) (M : Lit → Option Value) : Prop :=
  ∃ D : DataW Value, w.ownsMap P k (heldElem ok) b sz D ∧ (∀ kl, view D kl = M kl) ∧ Maps.size D = sz
section
variable {P : Program} {k : TypeId} {ok : Value → Bool} {w w' : World} {b n : Nat} {M : Lit → Option Value}
theorem MapSz.toIs (h : MapSz P k ok w b n M) : MapIs P k ok w b n M := by obtain ⟨D, h1, h2, _⟩ := h; exact ⟨D, h1, h2⟩
theorem MapSz.lt (h : MapSz P k ok w b n M) : b < w.heap.size := h.toIs.lt
theorem MapSz.made (w : World) (P : Program) (k : TypeId) (ok : Value → Bool) : MapSz P k ok (w.alloc (.map #[] 0)) w.heap.size 0 (fun _ => none) :=
  ⟨_, World.ownsMap_made w P k _, fun kl => by simp [view, DataW.atKey, unheld], rfl⟩
theorem MapSz.alloc (h : MapSz P k ok w b n M) (o : Obj) : MapSz P k ok (w.alloc o) b n M := by obtain ⟨D, hD, hM, hs⟩ := h; exact ⟨D, hD.alloc o, hM, hs⟩
theorem MapSz.drewN (h : MapSz P k ok w b n M) (q : Nat) : MapSz P k ok (w.drewN q) b n M := h
theorem MapSz.kept {S : Nat → Prop} (h : MapSz P k ok w b n M) (hk : Kept S w w') (hn : ¬ S b) : MapSz P k ok w' b n M := by
  obtain ⟨D, ⟨es, clock, hb, r⟩, hM, hs⟩ := h
  exact ⟨D, ⟨es, clock, (hk.block b (Array.getElem?_eq_some_iff.1 hb).1 hn).trans hb, r⟩, hM, hs⟩
theorem MapSz.congr (h : MapSz P k ok w b n M) {M' : Lit → Option Value} (he : ∀ kl, M kl = M' kl) : MapSz P k ok w b n M' := by obtain ⟨D, hD, hM, hs⟩ := h; exact ⟨D, hD, fun kl => (hM kl).trans (he kl), hs⟩
theorem MapSz.store {t e : TypeId} (h : MapSz P k ok w b n M) (K : Keyed P k) (ht : P.underlying t = some (.map k e)) (hn : n < maxLen) {key val : Value} {kl : Lit} (hkey : keyOf P k key = some kl) (hv : ok val = true) :
    ∃ w', (Instr.mapUpdate t (.map (some b)) key val).run P w = .ok () w' ∧ MapSz P k ok w' b (if (M kl).isSome then n else n + 1) (upd M kl val) ∧ w.grownBy w' (some b) ∧ w'.heap.size = w.heap.size := by
  obtain ⟨D, hD, hM, hs⟩ := h
  obtain ⟨w', hrun, h1, h2⟩ := hD.store K ht hn hkey (heldElem_mk hv)
  have hsz : Maps.size (D.put kl (.held val)) = if (M kl).isSome then n else n + 1 := by
    rw [Maps.size_put (hD.tidy K), ← hM, view_some_has hD, hs]
  refine ⟨w', hrun, ⟨_, ?_, fun x => ?_, hsz⟩, h2.grown, ?_⟩
  · obtain ⟨es, clock, hb, F, hle, hD2⟩ := h1
    refine ⟨es, clock, hb, F, ?_, hD2⟩
    rw [← hsz, hD2]
    show es.size ≤ List.length _
    rw [Go.length_read]
    exact Nat.le_refl _
  · unfold upd view
    by_cases hx : x = kl
    · subst hx
      rw [WideAt.sameKey_self (K.key hkey), if_pos rfl, atKey_put_same hD.isMap (K.key hkey)]; rfl
    · rw [sameKey_ne hx, if_neg (by simp), atKey_put_other hx]; exact hM x
  · obtain ⟨es, c, es', c', _, rfl⟩ := h2
    simp [Go.ChangeMaps.setBlock]

/-- 'm[k] = v'. -/
theorem wpList_storeZ (w : World) {ops : Array Oper} {rest : List Oper} {o : Oper} {a : Act} {Q : Exit → Act → World → Prop} (hg : o.guard = none) (m x v : Operand) (t : TypeId) (hop : o.op = Op.mapUpdate t m x v)
    (k e : TypeId) (K : Keyed P k) (ht : P.underlying t = some (.map k e)) (ok : Value → Bool) (b n : Nat) (M : Lit → Option Value)
    (hm : a.eval m = .map (some b)) (hM : MapSz P k ok w b n M) (hn : n < maxLen) (key val : Value) (kl : Lit) (hx : a.eval x = key) (hv : a.eval v = val) (hkey : keyOf P k key = some kl) (hval : ok val = true)
    (hK : ∀ w', MapSz P k ok w' b (if (M kl).isSome then n else n + 1) (upd M kl val) → w.grownBy w' (some b) → w'.heap.size = w.heap.size → wpList P ops Q rest (a.put o.dst undef) w') :
    wpList P ops Q (o :: rest) a w := by
  refine wpList_plain hg fun K' hK' => ?_
  obtain ⟨w', hrun, r1, r2, r3⟩ := hM.store K ht hn hkey hval
  unfold Oper.wp
  simp [execOp, hop, hm, hx, hv, hrun, Result.andThen]
  exact hK' _ _ (hK w' r1 r2 r3)
/-- 'len(m)'. -/
theorem MapSz.len {t e : TypeId} (h : MapSz P k ok w b n M) (ht : P.underlying t = some (.map k e)) (ty : TypeId) : (Builtin.len_ #[t] ty #[.map (some b)]).run P w = .ok (.int .i64 n) w := by
  obtain ⟨D, hD, _, hs⟩ := h
  rw [hD.len ht ty, hs]
theorem wpList_lenZ (w : World) {ops : Array Oper} {rest : List Oper} {o : Oper} {a : Act} {Q : Exit → Act → World → Prop} (hg : o.guard = none) (m : Operand) (t : TypeId) (hop : o.op = Op.call { callee := Callee.builtin Builtin.len, args := #[m], argTypes := #[t] })
    (k e : TypeId) (ht : P.underlying t = some (.map k e)) (ok : Value → Bool) (b n : Nat) (M : Lit → Option Value) (hm : a.eval m = .map (some b)) (hM : MapSz P k ok w b n M)
    (hK : wpList P ops Q rest (a.put o.dst (.int .i64 n)) w) :
    wpList P ops Q (o :: rest) a w := by
  refine wpList_plain hg fun K' hK' => ?_
  unfold Oper.wp
  simp [execOp, hop, resolve, invoke, builtin, hm, hM.len ht o.type, Result.andThen]
  exact hK' _ _ hK
end

end Go.Proofs.YtikbckpphkpaiaaGreatDoor
