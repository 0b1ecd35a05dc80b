/- Maps whose keys are marks; 'm[k]++'. -/
import Derived.Test.YtiaklkfdgnhonaaDoorMarks
import Derived.DeepKeys4
import Derived.WideKeyEntry
namespace Go.Proofs.YtiaklkfdgnhonaaDoor
open Go.Shelf Go.RowKit Go.Lib Go.Sort Go.Maps
open Go.WideMaps (KeyLaw)
set_option linter.unusedVariables false

section
variable {P : Program} {k : TypeId} {ok : Value → Bool} {w w' : World} {b n : Nat} {M : Lit → Option Value}

theorem setBlock_twice (w : World) (b : Nat) (x y : Obj) : ChangeMaps.setBlock (ChangeMaps.setBlock w b x) b y = ChangeMaps.setBlock w b y := by
  simp [ChangeMaps.setBlock]

/-- 'm[k]++': the entry is made, or found, and then written. -/
theorem MapIs.bump {t e : TypeId} (h : MapIs P k ok w b n M) (K : KeyLaw P k) (ht : P.underlying t = some (.map k e)) {z : Value} (hz : ∀ u : World, (zeroValue e).run P u = .ok z u) (hn : n < maxLen) {key val : Value} {kl : Lit} (hkey : keyOf P k key = some kl) (hv : ok val = true) :
    ∃ v0 st w1 w2, (Instr.mapEntry t (.map (some b)) key).run P w = .ok (.tuple #[v0, goInt st]) w1 ∧ (Instr.entryStore t (.map (some b)) (goInt st) val).run P w1 = .ok () w2 ∧ MapIs P k ok w2 b (n + 1) (upd M kl val) ∧ w.grownBy w2 (some b) ∧ w2.heap.size = w.heap.size := by
  obtain ⟨w', hrun, h1, h2, h3⟩ := h.store (Keyed.of_law K) ht hn hkey hv
  obtain ⟨D, ⟨es, clock, hb, F, _⟩, _⟩ := h
  obtain ⟨v0, st, es1, clock1, r1, _, r2⟩ := Go.WideElems.entry_then_store K ht hz hb F hkey
  have hlt : b < w.heap.size := (Array.getElem?_eq_some_iff.1 hb).1
  have hw1 : (ChangeMaps.setBlock w b (.map es1 clock1)).heap[b]? = some (.map es1 clock1) := by
    simp [ChangeMaps.setBlock, hlt]
  obtain ⟨es', clock', r3, r4⟩ := r2 (ChangeMaps.setBlock w b (.map es1 clock1)) val hw1
  rw [hrun] at r4
  injection r4 with _ r4
  subst r4
  refine ⟨v0, st, _, _, r1, ?_, h1, h2, h3⟩
  rw [r3, setBlock_twice]
end

def litM (m : Mk) : Lit := .string (keyBytes [.bool m.tag, .string m.name.data.toList])

theorem bytesLE_len : ∀ n x, (bytesLE n x).length = n := by
  intro n
  induction n with
  | zero => intro x; rfl
  | succ n ih => intro x; simp [bytesLE, ih]
theorem bytesBE_len (n x : Nat) : (bytesBE n x).length = n := by simp [bytesBE, bytesLE_len]

theorem litM_inj {a b : Mk} (h : litM a = litM b) : a = b := by
  unfold litM at h
  injection h with h
  simp only [keyBytes, List.flatMap_cons, List.flatMap_nil, Lit.keyBytes, List.append_nil] at h
  have h1 := congrArg (fun l => l[0]?) h
  have h2 := congrArg (fun l => l.drop 9) h
  simp [bytesBE_len] at h1
  have e : ∀ (x : UInt8) (l : List UInt8) (s : List UInt8), l.length = 8 → (([x] ++ (l ++ s)).drop 9) = s := by
    intro x l s hl
    rw [List.drop_append, List.drop_append]
    simp [hl]
  rw [e _ _ _ (bytesBE_len _ _), e _ _ _ (bytesBE_len _ _)] at h2
  obtain ⟨at_, an⟩ := a
  obtain ⟨bt, bn⟩ := b
  have ht : at_ = bt := by
    cases at_ <;> cases bt <;> simp at h1 <;> rfl
  have hn : an = bn := by
    cases an; cases bn
    exact congrArg _ (Array.toList_inj.1 h2)
  rw [ht, hn]

theorem mkLaw : KeyLaw Tryd.prog 47 := deep_law_laid (by kernel_rfl) (m := 2) (by omega) (of_decide_eq_true (by kernel_rfl)) (by kernel_rfl) (by kernel_rfl)
theorem mkKeyed : Keyed Tryd.prog 47 := Keyed.of_law mkLaw

theorem mk_keyOf (m : Mk) (hs : m.name.size ≤ maxLen) : keyOf Tryd.prog 47 (.agg #[.bool m.tag, .string m.name]) = some (litM m) := by
  have hc : Tryd.prog.cellsOf 47 = 2 := by kernel_rfl
  have hc1 : Tryd.prog.cellsOf 4 = 1 := by kernel_rfl
  have hc2 : Tryd.prog.cellsOf 9 = 1 := by kernel_rfl
  have hk : Tryd.prog.keyType 47 = true := by kernel_rfl
  obtain ⟨d, hd⟩ : ∃ d, Tryd.prog.types.size + 1 = d + 2 := ⟨Tryd.prog.types.size - 1, by
    have : 1 ≤ Tryd.prog.types.size := of_decide_eq_true (by kernel_rfl)
    omega⟩
  unfold keyOf
  rw [Tryd.underlying47]
  simp only [hk, Value.formed, Tryd.underlying47, hc, hd]
  simp [Program.keyLits, Tryd.underlying47, Tryd.underlying4, Tryd.underlying9, hc, hc1, hc2, Value.cells, hs, litM]

def okInt : Value → Bool
  | .int .i64 _ => true
  | _ => false

/-- M counts as f does. -/
def CntIs (M : Lit → Option Value) (f : Mk → Nat) : Prop := ∀ m : Mk, M (litM m) = if f m = 0 then none else some (.int .i64 (f m))
theorem CntIs.none : CntIs (fun _ => none) (fun _ => 0) := fun b => by simp
theorem lit_same (a b : Mk) : (litM a).sameKey (litM b) = decide (a = b) := by
  by_cases h : a = b
  · subst h
    rw [WideAt.sameKey_self (by trivial)]
    simp
  · rw [sameKey_ne (fun e => h (litM_inj e))]
    simp [h]
def bumpF (f : Mk → Nat) (m : Mk) : Mk → Nat := fun x => if x = m then f m + 1 else f x
theorem CntIs.bump {M : Lit → Option Value} {f : Mk → Nat} (h : CntIs M f) (m : Mk) : CntIs (upd M (litM m) (.int .i64 ((f m + 1 : Nat) : Int))) (bumpF f m) := fun b => by
  unfold upd bumpF
  rw [lit_same]
  by_cases e : b = m
  · simp [e]
  · simp only [e, decide_false, Bool.false_eq_true, if_false]
    exact h b
theorem CntIs.get {M : Lit → Option Value} {f : Mk → Nat} (h : CntIs M f) (m : Mk) : (M (litM m)).getD (.int .i64 0) = .int .i64 (f m) := by
  rw [h]
  by_cases e : f m = 0 <;> simp [e]

end Go.Proofs.YtiaklkfdgnhonaaDoor
