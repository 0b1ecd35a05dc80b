/- Sources: the names of all sources that were heard, rising. -/
import Derived.Test.YtobkgkiomapabaaGreatDoorOrderP
import Derived.Test.YtobkgkiomapabaaGreatDoorIter
import Derived.Sort.KeysCollected
namespace Go.Proofs.YtobkgkiomapabaaGreatDoor
open Go.RowKit Go.Maps Go.Lib Go.Shelf Go.Sort
set_option linter.unusedVariables false

theorem strKeys_nodup {H : Type} {P : Program} {k : TypeId} {R : Value → Option (DataW H × List MemPlace)} {w : World} {b n : Nat} {D : DataW H} (h : w.ownsMap P k R b n D) (hk : P.underlying k = some .string) :
    (strKeys D).Nodup ∧ ∀ x, x ∈ strKeys D ↔ Maps.has D (.string x) = true := by
  obtain ⟨es, rfl, hp, _⟩ := h.entries (string_keyed hk)
  obtain ⟨es', he, hks⟩ := h.keysOf
  injection he with he
  subst he
  have hstr : ∀ p ∈ es, ∃ x, p.1 = .string x := by
    intro p hp'
    obtain ⟨v, hv⟩ := hks p hp'
    obtain ⟨x, _, hx, _⟩ := Maps.keyOf_str hk hv
    exact ⟨x, hx⟩
  refine ⟨?_, fun x => ?_⟩
  · show (es.map fun p => strOf p.1).Nodup
    rw [List.nodup_iff_pairwise_ne, List.pairwise_map]
    refine hp.imp_of_mem ?_
    intro p q hpm hqm hne he
    obtain ⟨x, hx⟩ := hstr p hpm
    obtain ⟨y, hy⟩ := hstr q hqm
    rw [hx, hy] at he hne
    exact hne (by simpa [strOf] using he)
  · show x ∈ (es.map fun p => strOf p.1) ↔ es.any (fun p => p.1.sameKey (.string x)) = true
    rw [List.mem_map, List.any_eq_true]
    refine ⟨?_, ?_⟩
    · rintro ⟨p, hpm, rfl⟩
      obtain ⟨y, hy⟩ := hstr p hpm
      refine ⟨p, hpm, ?_⟩
      rw [hy]
      exact WideAt.sameKey_self (by trivial)
    · rintro ⟨p, hpm, he⟩
      refine ⟨p, hpm, ?_⟩
      rw [WideAt.sameKey_eq he]
      rfl

/-- ks: the keys of f, rising. -/
def KeysOf' (f : List UInt8 → Bool) (ks : List (List UInt8)) : Prop := ∃ ss : List (List UInt8), ks = ss.mergeSort (fun x y => decide (x ≤ y)) ∧ ss.Nodup ∧ ∀ s, s ∈ ss ↔ f s = true

theorem KeysOf'.unique {f g : List UInt8 → Bool} {ks ks' : List (List UInt8)} (h : KeysOf' f ks) (h' : KeysOf' g ks') (he : ∀ s, f s = g s) : ks = ks' := by
  obtain ⟨ss, rfl, hn, hm⟩ := h
  obtain ⟨ss', rfl, hn', hm'⟩ := h'
  exact mergeSort_of_perm ((List.perm_ext_iff_of_nodup hn hn').2 (fun s => by rw [hm, hm', he]))

theorem KeysOf'.mem {f : List UInt8 → Bool} {ks : List (List UInt8)} (h : KeysOf' f ks) (s : List UInt8) : s ∈ ks ↔ f s = true := by
  obtain ⟨ss, rfl, _, hm⟩ := h
  rw [← hm, List.mem_mergeSort]

set_option maxHeartbeats 1000000 in
set_option maxRecDepth 100000 in
theorem sources_any (cb mb n : Nat) (c : Ck) (w : World) (h : ClockAt w cb mb n c) (hn : n < 1000000) :
    Calls Tryz.prog 22 #[.pointer (some ⟨cb, 0, none⟩)] w fun e w' => ∃ v ks, e = .returned v ∧ KeysOf' (fun s => (c.src s).isSome) ks ∧ w'.ownsRow w.heap.size 9 1 v ks.length (ks.map encStr) ∧ Below w.heap.size w w' ∧ (∀ s ∈ ks, s.length ≤ maxLen) ∧ ks.length ≤ n := by
  have k4 : w.cell? ⟨cb, 4, none⟩ = some (.map (some mb)) := h.blk.cell 4
  have hml := h.map.lt
  obtain ⟨D, hD, hview⟩ := h.map
  have hsz : Maps.size D ≤ n := hD.size_le
  have hnd := strKeys_nodup hD Tryz.underlying9
  have hle := strKeys_le hD Tryz.underlying9
  have hkl : Hid ((strKeys D).length ≤ n) := Lib.hid (by
    obtain ⟨es, rfl, _, _⟩ := hD.entries (string_keyed Tryz.underlying9)
    have := hsz
    simpa [strKeys, Maps.size] using this)
  have hkeys : ∀ s, Maps.has D (.string s) = (c.src s).isSome := by
    intro s
    rw [← view_some_has hD, hview]
    exact src_is c.src s
  have hK := callsIn_wide.1 (Tryz.maps_Keys_42 (some mb) w)
  have hS := callsIn_wide.1 (Tryz.slices_Sorted_keys_41_42 mb n D (heldElem okSrc) w hD (by unfold maxLen; omega) (by omega))
  have HK := Lib.hid hK
  have HS := Lib.hid hS
  have HH := Lib.hid hkeys
  have HL := Lib.hid hle
  clear hK hS hkeys hle
  go_enter Tryz.func22, Tryz.ntmps22
  go_wp2_with fail
  refine HK.out.mono ?_
  rintro e w1 ⟨rfl, rfl⟩
  go_wp2_with fail
  refine HS.out.mono ?_
  rintro e w2 ⟨v, ss, rfl, hp, hrow, _, hb⟩
  have HP := Lib.hid hp
  clear hp
  go_wp2_with fail
  go_ret
  refine ⟨v, ss.mergeSort (fun x y => decide (x ≤ y)), rfl, ⟨ss, rfl, (HP.out.nodup_iff).2 hnd.1, fun s => ?_⟩, ?_, ((Below.refl _ _).alloc (Nat.le_refl _) _).trans (hb.mono (by simp)), fun s hs => ?_, by rw [List.length_mergeSort, HP.out.length_eq]; exact hkl.out⟩
  · rw [HP.out.mem_iff, hnd.2, HH.out]
  · rw [List.length_mergeSort]
    exact ⟨hrow.1, hrow.2.elim Or.inl (fun ⟨g, cap, cur, e1, e2, e3⟩ => Or.inr ⟨g, cap, cur, e1, by simp at e2; omega, e3⟩)⟩
  · rw [List.mem_mergeSort] at hs
    exact HL.out s (HP.out.mem_iff.1 hs)

end Go.Proofs.YtobkgkiomapabaaGreatDoor
