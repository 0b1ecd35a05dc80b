/- 'm[k]++' and its like: the entry is made, or found, and then written. Nothing of the program. -/
import Derived.Test.YtcgangmmehbdoaaDoorBase
import Derived.WideKeyEntry
namespace Go.Proofs.YtcgangmmehbdoaaDoor
open Go.RowKit Go.Maps
open Go.WideMaps (KeyLaw)
set_option linter.unusedVariables false

section
variable {P : Program} {k : TypeId} {ok : Value → Bool} {w w' : World} {b n : Nat} {M : Lit → Option Value}

theorem setBlock_two (w : World) (b : Nat) (x y : Obj) : ChangeMaps.setBlock (ChangeMaps.setBlock w b x) b y = ChangeMaps.setBlock w b y := by
  simp [ChangeMaps.setBlock]
theorem setBlock_same (w : World) (b : Nat) (x : Obj) (h : w.heap[b]? = some x) : ChangeMaps.setBlock w b x = w := by
  have : w.heap.setIfInBounds b x = w.heap := by
    apply Array.ext_getElem?
    intro j
    rw [Array.getElem?_setIfInBounds]
    split
    · rename_i e; subst e; rw [h]; simp [(Array.getElem?_eq_some_iff.1 h).1]
    · rfl
  unfold ChangeMaps.setBlock
  rw [this]

/-- The entry at a key: made with the zero, or found; then the look-up reads it, and a store through it is a store at the key. -/
theorem MapIs.entry {t e : TypeId} (h : MapIs P k ok w b n M) (K : KeyLaw P k) (ht : P.underlying t = some (.map k e)) {z : Value} (hz : ∀ u : World, (zeroValue e).run P u = .ok z u) (hzo : ok z = true) (hn : n < maxLen) {key val : Value} {kl : Lit} (hkey : keyOf P k key = some kl) (hv : ok val = true) :
    ∃ st w1 w2, (Instr.mapEntry t (.map (some b)) key).run P w = .ok (.tuple #[(M kl).getD z, goInt st]) w1 ∧ (Instr.lookup t (.map (some b)) key false).run P w1 = .ok ((M kl).getD z) w1 ∧ (Instr.entryStore t (.map (some b)) (goInt st) val).run P w1 = .ok () w2 ∧
      MapIs P k ok w2 b (n + 1) (upd M kl val) ∧ w.grownBy w2 (some b) ∧ w2.heap.size = w.heap.size ∧ w.grownBy w1 (some b) ∧ w1.heap.size = w.heap.size := by
  obtain ⟨w', hrun, h1, h2, h3⟩ := h.store (Keyed.of_law K) ht hn hkey hv
  have hlook := h.look (Keyed.of_law K) ht (hz w) hzo hkey
  obtain ⟨wz, hrunz, z1, z2, z3⟩ := h.store (Keyed.of_law K) ht hn hkey hzo
  have hself : Lit.sameKey kl kl = true := WideAt.sameKey_self ((Keyed.of_law K).key hkey)
  obtain ⟨D, ⟨es, clock, hb, F, _⟩, _⟩ := h
  have hlt : b < w.heap.size := (Array.getElem?_eq_some_iff.1 hb).1
  obtain ⟨v0, st, es1, clock1, r1, r0, r2⟩ := Go.WideElems.entry_then_store K ht hz hb F hkey
  have hw1 : (ChangeMaps.setBlock w b (.map es1 clock1)).heap[b]? = some (.map es1 clock1) := by
    simp [ChangeMaps.setBlock, hlt]
  obtain ⟨es', clock', r3, r4⟩ := r2 (ChangeMaps.setBlock w b (.map es1 clock1)) val hw1
  rw [hrun] at r4
  injection r4 with _ r4
  rw [setBlock_two] at r3
  rcases K.find w hkey es.toList F.keys with ⟨f1, f2⟩ | ⟨j, e0, f1, f2, f3⟩
  · have hE : (Instr.mapEntry t (.map (some b)) key).run P w = .ok (.tuple #[z, goInt clock]) (ChangeMaps.setBlock w b (.map (es.push ⟨key, z, clock⟩) (clock + 1))) := by
      simp [Instr.mapEntry, run_underlying ht, MapKept.run_getObj_map hb, K.check w false hkey, f1, hz, MapKept.run_setObj_map _ hb, Result.andThen, ChangeMaps.setBlock, goInt]
    have hU : (Instr.mapUpdate t (.map (some b)) key z).run P w = .ok () (ChangeMaps.setBlock w b (.map (es.push ⟨key, z, clock⟩) (clock + 1))) := by
      simp [Instr.mapUpdate, run_underlying ht, MapKept.run_getObj_map hb, K.check w false hkey, f1, MapKept.run_setObj_map _ hb, Result.andThen, ChangeMaps.setBlock]
    have hvz : (M kl).getD z = z := by
      have hl2 : (Instr.lookup t (.map (some b)) key false).run P w = .ok z w := by
        simp [Instr.lookup, run_underlying ht, MapKept.run_getObj_map hb, K.check w _ hkey, f1, hz]
      rw [hl2] at hlook
      injection hlook with a _
      exact a.symm
    rw [hE] at r1
    injection r1 with q1 q2
    injection q1 with q1
    have q3 : goInt clock = goInt st := by
      have := congrArg (fun a : Array Value => a[1]?) q1
      simpa using this
    rw [hrunz] at hU
    injection hU with _ hU
    refine ⟨clock, wz, w', ?_, ?_, ?_, h1, h2, h3, z2, z3⟩
    · rw [hE, hvz, hU]
    · have := z1.look (Keyed.of_law K) ht (hz wz) hzo hkey
      rw [this, hvz]
      simp [upd, hself]
    · rw [hU, q2, q3, r3, r4]
  · have hj : es[j]? = some e0 := by simpa using f2
    have hsame : es.modify j (fun e => { e with key := key }) = es := by
      apply Array.ext'
      rw [Array.toList_modify, ChangeMaps.modify_eq_set _ _ _ _ f2]
      have : ({ e0 with key := key } : MapEntry) = e0 := by rw [← f3]
      rw [this]
      exact Go.WideElems.set_self _ _ _ f2
    have hE : (Instr.mapEntry t (.map (some b)) key).run P w = .ok (.tuple #[e0.val, goInt e0.born]) (ChangeMaps.setBlock w b (.map es clock)) := by
      simp [Instr.mapEntry, run_underlying ht, MapKept.run_getObj_map hb, K.check w false hkey, f1, hj, f3, K.stays w hkey, hsame, MapKept.run_setObj_map _ hb, Result.andThen, ChangeMaps.setBlock, goInt]
    have hvz : (M kl).getD z = e0.val := by
      have hl2 : (Instr.lookup t (.map (some b)) key false).run P w = .ok e0.val w := by
        simp [Instr.lookup, run_underlying ht, MapKept.run_getObj_map hb, K.check w _ hkey, f1]
      rw [hl2] at hlook
      injection hlook with a _
      exact a.symm
    rw [setBlock_same _ _ _ hb] at hE
    rw [hE] at r1
    injection r1 with q1 q2
    injection q1 with q1
    have q3 : goInt e0.born = goInt st := by
      have := congrArg (fun a : Array Value => a[1]?) q1
      simpa using this
    rw [← q2] at r3
    refine ⟨e0.born, w, w', ?_, hlook, ?_, h1, h2, h3, World.grownBy.refl w _, rfl⟩
    · rw [hE, hvz]
    · rw [q3, r3, r4]
end

end Go.Proofs.YtcgangmmehbdoaaDoor
