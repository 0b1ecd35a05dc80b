/- ClockPlays: whatever is heard, of whatever sources, with ticks between: each is told just as the document says; so the clock stands behind it. -/
import Derived.Test.YtobkgkiomapabaaGreatDoorDcL
import Derived.Test.YtobkgkiomapabaaGreatDoorActs
namespace Go.Proofs.YtobkgkiomapabaaGreatDoor
open Go.RowKit Go.Maps Go.Shelf
set_option linter.unusedVariables false

theorem Rose.one {c d e : Ck} (h : Rose c d) (k : Rose c e) : d = e := by
  obtain ⟨m, a, ht, rfl⟩ := h
  obtain ⟨m', a', ht', rfl⟩ := k
  obtain ⟨rfl, rfl⟩ := ht.unique ht'
  rfl
theorem Hears.one {c d e : Ck} {s : ByteArray} {a n : Int} {r r' : Bool} (h : Hears c s a n r d) (k : Hears c s a n r' e) : r = r' ∧ d = e := by
  obtain ⟨c1, ht, hc⟩ := h
  obtain ⟨c2, ht', hc'⟩ := k
  obtain rfl := Rose.one ht ht'
  rcases hc with ⟨rfl, rfl, h1⟩ | ⟨rfl, h1, h2⟩ <;> rcases hc' with ⟨rfl, rfl, h1'⟩ | ⟨rfl, h1', h2'⟩
  · exact ⟨rfl, rfl⟩
  · exact absurd h1' h1
  · exact absurd h1 h1'
  · exact ⟨rfl, h2.one h2'⟩
theorem ClockAt.drew {w : World} {cb mb n : Nat} {c : Ck} (h : ClockAt w cb mb n c) : ClockAt w.drew cb mb n c := ⟨h.blk, h.map, h.ok⟩
theorem ClockAt.more {w : World} {cb mb n n' : Nat} {c : Ck} (h : ClockAt w cb mb n c) (hn : n ≤ n') : ClockAt w cb mb n' c := ⟨h.blk, h.map.mono hn, h.ok⟩
theorem DocAt.drew {w : World} {D db n : Nat} {c : Ck} (h : DocAt w D db n c) : DocAt w.drew D db n c := by
  obtain ⟨A, cc, l, h1, h2⟩ := h
  exact ⟨A, cc, l, h1, h2.keep (w' := w.drew) (Nat.le_refl _) (fun _ _ _ => rfl)⟩
theorem DocAt.below {w w' : World} {D db n : Nat} {c : Ck} (h : DocAt w D db n c) (k : Below w.heap.size w w') : DocAt w' D db n c := by
  obtain ⟨A, cc, l, h1, h2⟩ := h
  exact ⟨A, cc, l, h1, h2.below k⟩
theorem DocAt.more {w : World} {D db n n' : Nat} {c : Ck} (h : DocAt w D db n c) (hn : n ≤ n') : DocAt w D db n' c := by
  obtain ⟨A, cc, l, h1, h2⟩ := h
  exact ⟨A, cc, l, by omega, h2⟩
theorem DocAt.base {w : World} {D db n : Nat} {c : Ck} (h : DocAt w D db n c) : D ≤ db ∧ db < w.heap.size := by
  obtain ⟨A, cc, l, h1, h2⟩ := h
  exact ⟨h2.base, h2.blk.lt⟩

theorem tabB_of {w : World} {s : String} (hs : tabN = s) (h : Lib.TabIs Tryz.prog w s .u64 Lib.pow10Tab) : TabB w.heap.size w := by
  subst hs
  exact Lib.tabBelow_of_tabIs h



end Go.Proofs.YtobkgkiomapabaaGreatDoor
