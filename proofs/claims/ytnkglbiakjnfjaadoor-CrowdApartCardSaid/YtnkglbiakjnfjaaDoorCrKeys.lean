/- The keys of a map of names, rising: slices.Sorted(maps.Keys(m)). People, the makers. -/
import Derived.Test.YtnkglbiakjnfjaaDoorCrTells
import Derived.Test.YtnkglbiakjnfjaaDoorIter
import Derived.Sort.KeysCollected
namespace Go.Proofs.YtnkglbiakjnfjaaDoor
open Go.Shelf Go.RowKit Go.Maps Go.Lib Go.Sort
set_option linter.unusedVariables false

theorem strKeys_nodup {H : Type} {P : Program} {k : TypeId} {R : Value → Option (DataW H × List MemPlace)} {w : World} {b n : Nat} {D : DataW H} (h : w.ownsMap P k R b n D) (hk : P.underlying k = some .string) :
    (strKeys D).Nodup ∧ ∀ x, x ∈ strKeys D ↔ Maps.has D (.string x) = true := by
  obtain ⟨es, rfl, hp, _⟩ := h.entries (string_keyed hk)
  obtain ⟨es', he, hks⟩ := h.keysOf
  injection he with he
  subst he
  have hstr : ∀ p ∈ es, ∃ x, p.1 = .string x := by
    intro p hp'
    obtain ⟨v, hv⟩ := hks p hp'
    obtain ⟨x, _, hx, _⟩ := Maps.keyOf_str hk hv
    exact ⟨x, hx⟩
  refine ⟨?_, fun x => ?_⟩
  · show (es.map fun p => strOf p.1).Nodup
    rw [List.nodup_iff_pairwise_ne, List.pairwise_map]
    refine hp.imp_of_mem ?_
    intro p q hpm hqm hne he
    obtain ⟨x, hx⟩ := hstr p hpm
    obtain ⟨y, hy⟩ := hstr q hqm
    rw [hx, hy] at he hne
    exact hne (by simpa [strOf] using he)
  · show x ∈ (es.map fun p => strOf p.1) ↔ es.any (fun p => p.1.sameKey (.string x)) = true
    rw [List.mem_map, List.any_eq_true]
    refine ⟨?_, ?_⟩
    · rintro ⟨p, hpm, rfl⟩
      obtain ⟨y, hy⟩ := hstr p hpm
      refine ⟨p, hpm, ?_⟩
      rw [hy]
      exact WideAt.sameKey_self (by trivial)
    · rintro ⟨p, hpm, he⟩
      refine ⟨p, hpm, ?_⟩
      rw [WideAt.sameKey_eq he]
      rfl
def toB (x : List UInt8) : ByteArray := ⟨x.toArray⟩
theorem toB_data (x : List UInt8) : (toB x).data.toList = x := by simp [toB]
theorem ris_of {f : ByteArray → Bool} {ss : List (List UInt8)} (hn : ss.Nodup) (hm : ∀ x, x ∈ ss ↔ f (toB x) = true) : IsNames f ((ss.mergeSort (fun x y => decide (x ≤ y))).map toB) := by
  have hs : (ss.mergeSort (fun x y => decide (x ≤ y))).Pairwise (fun x y => decide (x ≤ y) = true) :=
    List.pairwise_mergeSort (fun a b c h1 h2 => by simp only [decide_eq_true_eq] at *; exact List.le_trans h1 h2) (fun a b => by simp only [Bool.or_eq_true, decide_eq_true_eq]; exact List.le_total a b) _
  have hnd : (ss.mergeSort (fun x y => decide (x ≤ y))).Nodup := by
    rw [(List.mergeSort_perm _ _).nodup_iff]
    exact hn
  refine ⟨?_, fun y => ?_⟩
  · rw [List.pairwise_map]
    refine (hs.and (List.nodup_iff_pairwise_ne.1 hnd)).imp (fun {a b} hab => ?_)
    unfold ltN
    rw [toB_data, toB_data]
    exact Std.lt_of_le_of_ne (of_decide_eq_true hab.1) hab.2
  · rw [List.mem_map]
    constructor
    · rintro ⟨x, hx, rfl⟩
      rw [List.mem_mergeSort] at hx
      exact (hm x).1 hx
    · intro hy
      refine ⟨y.data.toList, ?_, ba_eq (toB_data _)⟩
      rw [List.mem_mergeSort, hm]
      rw [show toB y.data.toList = y from ba_eq (toB_data _)]
      exact hy
theorem enc_toB (l : List (List UInt8)) : l.map encStr = (l.map toB).map .string := by rw [List.map_map]; rfl
theorem own_low {w : World} {b b' : Nat} {e size n : Nat} {v : Value} {xs : List Value} (h : w.ownsRow b e size v n xs) (hb : b' ≤ b) : w.ownsRow b' e size v n xs := own_mono h hb

set_option maxHeartbeats 1000000 in
set_option maxRecDepth 100000 in
theorem people_any (cb : Nat) (half : Int) (U : Nat → Prop) (rs : List Rw) (w : World) (h : CrAt w cb half U rs) (hb : rs.length ≤ 1000) :
    Calls Tryd.prog 30 #[.pointer (some ⟨cb, 0, none⟩)] w fun e w' => ∃ (A : Option Addr) (c : Nat) (ks : List ByteArray), e = .returned (.slice A ks.length c) ∧ IsNames (fun y => rs.any fun r => decide (r.e.person = y)) ks ∧ w'.ownsRow w.heap.size 9 1 (.slice A ks.length c) ks.length (ks.map .string) ∧ ks.length ≤ 1000 ∧ Below w.heap.size w w' := by
  obtain ⟨b, last, G, R, h⟩ := h
  have c10 : w.cell? ⟨cb, 10, none⟩ = some (.map (some b.pb)) := h.blk.cell 10
  have hsm : ∀ y, (G y).isSome = rs.any fun r => decide (r.e.person = y) := fun y => by
    have hl := (h.rel y).1
    rw [Bool.eq_iff_iff, List.any_eq_true]
    by_cases hy : R y = []
    · rw [h.ppl.none_ y hy]
      constructor
      · intro h; cases h
      · rintro ⟨r, hr, he⟩
        have : r ∈ ownC rs y := ownC_mem.2 ⟨hr, of_decide_eq_true he⟩
        rw [hy] at hl
        have := List.length_pos_of_mem this
        simp at hl
        omega
    · obtain ⟨g, cap, h1, _⟩ := h.ppl.some_ y hy
      rw [h1]
      refine ⟨fun _ => ?_, fun _ => rfl⟩
      have : 0 < (ownC rs y).length := by rw [← hl]; exact List.length_pos_iff.2 hy
      obtain ⟨r, hr⟩ := List.exists_mem_of_length_pos this
      exact ⟨r, (ownC_mem.1 hr).1, decide_eq_true (ownC_mem.1 hr).2⟩
  obtain ⟨D, hD, hview⟩ := h.ppl.map
  have hsz : Maps.size D ≤ rs.length := hD.size_le
  have hnd := strKeys_nodup hD Tryd.underlying9
  have hkeys : ∀ s, Maps.has D (.string s) = rs.any fun r => decide (r.e.person = toB s) := fun s => by
    rw [← view_some_has hD, hview, ← hsm]
    rfl
  have hK := callsIn_wide.1 (Tryd.maps_Keys_56 (some b.pb) w)
  have hS := callsIn_wide.1 (Tryd.slices_Sorted_keys_55_56 b.pb rs.length D (heldElem okSl) w hD (by unfold maxLen; omega) (by omega))
  have hkl : (strKeys D).length ≤ 1000 := by
    have : (strKeys D).length = Maps.size D := by
      obtain ⟨es, rfl, _⟩ := hD.entries (string_keyed Tryd.underlying9)
      simp [strKeys, Maps.size]
    omega
  have HK := Lib.hid hK
  have HS := Lib.hid hS
  have HH := Lib.hid hkeys
  have HN := Lib.hid hnd
  have HKL := Lib.hid hkl
  clear hK hS hkeys h hnd hkl hD hsm hsz
  go_enter Tryd.func30, Tryd.ntmps30
  go_wp2_with fail
  refine HK.out.mono ?_
  rintro e w1 ⟨rfl, rfl⟩
  go_wp2_with fail
  refine HS.out.mono ?_
  rintro e w2 ⟨v, ss, rfl, hp, hrow, _, hb⟩
  have HP := Lib.hid hp
  obtain ⟨A2, c2, rfl⟩ := own_shape hrow
  have HR := Lib.hid hrow
  have HB := Lib.hid hb
  clear hp hrow hb
  go_wp2_with fail
  go_ret
  have hks := ris_of (f := fun y => rs.any fun r => decide (r.e.person = y)) ((HP.out.nodup_iff).2 HN.out.1) (fun x => by rw [HP.out.mem_iff, HN.out.2, HH.out])
  refine ⟨A2, c2, (ss.mergeSort (fun x y => decide (x ≤ y))).map toB, by simp [List.length_mergeSort], hks, ?_, by simp [List.length_mergeSort]; rw [HP.out.length_eq]; exact HKL.out, ((Below.refl _ _).alloc (Nat.le_refl _) _).trans (HB.out.mono (by simp))⟩
  rw [List.length_map, List.length_mergeSort, ← enc_toB]
  exact own_mono HR.out (by simp)

end Go.Proofs.YtnkglbiakjnfjaaDoor
