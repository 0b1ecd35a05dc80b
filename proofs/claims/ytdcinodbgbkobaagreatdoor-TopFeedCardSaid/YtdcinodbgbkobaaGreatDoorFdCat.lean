/- slices.Concat, slices.Sort and slices.Compact of names, one behind the other; the keys of a map of things. -/
import Derived.Test.YtdcinodbgbkobaaGreatDoorGd
import Derived.Test.YtdcinodbgbkobaaGreatDoorLay4
import Derived.Shelf.Slices.CompactS
import Derived.Sort.KeysCollected
namespace Go.Proofs.YtdcinodbgbkobaaGreatDoor
open Go.Shelf Go.RowKit Go.Maps Go.Lib
set_option linter.unusedVariables false

/-- A row of names of the call's own that may be written. -/
def OwnC (w : World) (base : Nat) (A : Option Addr) (n c : Nat) (l : List ByteArray) : Prop :=
  (n = 0 ∧ l = []) ∨ ∃ g, A = some ⟨g, 0, none⟩ ∧ base ≤ g ∧ g < w.heap.size ∧ 0 < n ∧ n ≤ c ∧ l.length = n ∧ Sort.Holds encStr w g 0 (l.map fun x => x.data.toList).toArray
theorem OwnC.row {w : World} {base : Nat} {A : Option Addr} {n c : Nat} {l : List ByteArray} (h : OwnC w base A n c l) : RowIn w w.heap.size 1 A n (l.map .string) ∧ l.length = n := by
  rcases h with ⟨rfl, rfl⟩ | ⟨g, rfl, _, hlt, _, _, hl, hH⟩
  · exact ⟨RowIn.nil _ _ _ _, rfl⟩
  · refine ⟨⟨by simp [hl], Or.inr ⟨g, 0, rfl, hlt, fun j u hu => ?_⟩⟩, hl⟩
    obtain ⟨hj, rfl⟩ := List.getElem?_eq_some_iff.1 hu
    have hj' : j < l.length := by simpa using hj
    have := (hH j (by simpa using hj')).1
    rw [this]
    simp [hj', encStr]
theorem OwnC.of_own {w : World} {base : Nat} {A : Option Addr} {n c : Nat} {l : List ByteArray} (hn : l.length = n) (hl : w.ownsRow base 9 1 (.slice A n c) n (l.map .string)) : OwnC w base A n c l := by
  rcases Nat.eq_zero_or_pos n with h0 | h0
  · subst h0; exact Or.inl ⟨rfl, List.eq_nil_of_length_eq_zero hn⟩
  · obtain ⟨g, cap, hv, hg, hlt⟩ := hl.form h0
    injection hv with hA _ hc
    subst hA
    subst hc
    have hcells := hl.cells (g := g) rfl
    have hcap : n ≤ c := by
      rcases hl.2 with ⟨h, _⟩ | ⟨g', cap', cur, h, h2, h3, h4⟩
      · cases h
      · injection h with _ _ h
        subst h
        exact h4.1
    refine Or.inr ⟨g, rfl, hg, hlt, h0, hcap, hn, fun j hj => ?_⟩
    have hj' : j < l.length := by simpa using hj
    have hgj : (l.map fun x => x.data.toList).toArray[j]! = l[j].data.toList := by simp [hj']
    refine ⟨?_, frozen_own hl _⟩
    rw [hgj]
    have := hcells j (.string l[j]) (by simp [hj'])
    rwa [at_add] at this

theorem sortc_any (w : World) (base : Nat) (A : Option Addr) (l : List ByteArray) (n c : Nat) (h : OwnC w base A n c l) (hb : n ≤ 1000000) :
    Calls Tryz.prog 28 #[.slice A n c] w fun e w' => e = .returned (.tuple #[]) ∧ OwnC w' base A n c (sortN l) ∧ Below base w w' := by
  rcases h with ⟨rfl, rfl⟩ | ⟨g, rfl, hg, hlt, h0, hnc, hn, hH⟩
  · refine (Any.slices_Sort_string_none Tryz.laysSortS A c w).mono ?_
    rintro e w' ⟨rfl, rfl⟩
    have hs : sortN [] = [] := by simp [sortN]
    rw [hs]
    exact ⟨rfl, Or.inl ⟨rfl, rfl⟩, Below.refl _ _⟩
  · have hcon := Any.slices_Sort_string Tryz.laysSortS g 0 c (l.map fun x => x.data.toList) w hH hlt (by simp; omega)
    rw [List.length_map, hn] at hcon
    refine hcon.mono ?_
    rintro e w' ⟨rfl, q, os, rfl⟩
    have hds : (((l.map fun x => x.data.toList).mergeSort fun x y => decide (x ≤ y)).toArray).size = (l.map fun x => x.data.toList).toArray.size := by simp [List.length_mergeSort]
    have hH2 := Sort.holds_grow encStr _ os g 0 _ (by rw [Sort.size_putRow]; exact hlt) (Sort.holds_putRow encStr (Sort.ahead w q) g 0 _ _ (Sort.holds_ahead encStr w q g 0 _ hH) hds)
    have hsz : w.heap.size ≤ (Sort.grow (Sort.putRow encStr (Sort.ahead w q) g 0 ((l.map fun x => x.data.toList).mergeSort fun x y => decide (x ≤ y)).toArray) os).heap.size := by
      show w.heap.size ≤ ((Sort.putRow encStr (Sort.ahead w q) g 0 _).heap ++ os).size
      rw [Array.size_append, Sort.size_putRow]
      exact Nat.le_add_right _ _
    refine ⟨rfl, Or.inr ⟨g, rfl, hg, Nat.lt_of_lt_of_le hlt hsz, h0, hnc, by rw [sortN_len]; exact hn, ?_⟩, ?_⟩
    · have he : ((sortN l).map fun x => x.data.toList) = (l.map fun x => x.data.toList).mergeSort fun x y => decide (x ≤ y) := by
        unfold sortN
        rw [List.map_map]
        conv => rhs; rw [← List.map_id (List.mergeSort _ _)]
        refine List.map_congr_left (fun x _ => ?_)
        simp
      rw [he]
      exact hH2
    · refine ⟨rfl, rfl, rfl, hsz, fun i hi => ?_⟩
      show ((Sort.putRow encStr (Sort.ahead w q) g 0 _).heap ++ os)[i]? = _
      rw [Array.getElem?_append_left (by rw [Sort.size_putRow]; show i < w.heap.size; omega)]
      simp only [Sort.putRow, Sort.mapBlock, Array.getElem?_modify]
      rw [if_neg (by omega)]
      rfl

/-! ### Compact of a row in order -/
theorem compact_rise (zs : List (List UInt8)) (hs : zs.Pairwise fun x y => decide (x ≤ y) = true) : ∀ m, m ≤ zs.length → (compactUpTo zs.toArray m).Pairwise (· < ·) ∧ ∀ x, x ∈ compactUpTo zs.toArray m ↔ x ∈ zs.take m := by
  intro m
  induction m with
  | zero => intro _; exact ⟨by simp [compactUpTo], fun x => by simp [compactUpTo]⟩
  | succ m ih =>
    intro hm
    obtain ⟨h1, h2⟩ := ih (by omega)
    have hd : zs.toArray[m]! = zs[m] := by simp [show m < zs.length from by omega]
    have htk : zs.take (m + 1) = zs.take m ++ [zs[m]] := by rw [List.take_succ_eq_append_getElem (by omega)]
    rw [compactUpTo_succ]
    by_cases hk : keeps zs.toArray m = true
    · rw [if_pos hk, hd]
      refine ⟨?_, fun x => by rw [List.mem_append, h2, htk, List.mem_append]⟩
      rw [List.pairwise_append]
      refine ⟨h1, List.pairwise_singleton _ _, fun a ha b hb => ?_⟩
      obtain rfl : b = zs[m] := by simpa using hb
      have ha' := (h2 a).1 ha
      obtain ⟨j, hj⟩ := List.mem_iff_getElem?.1 ha'
      rw [List.getElem?_take] at hj
      split at hj
      · rename_i hjm
        obtain ⟨hjl, rfl⟩ := List.getElem?_eq_some_iff.1 hj
        have hpm : 0 < m := by omega
        have hne : zs[m] ≠ zs[m - 1] := by
          unfold keeps at hk
          have := of_decide_eq_true hk
          rcases this with h | h
          · omega
          · rw [hd] at h
            have hd2 : zs.toArray[m - 1]! = zs[m - 1] := by simp [show m - 1 < zs.length from by omega]
            rw [hd2] at h
            exact h
        have le : ∀ i j (hi : i < zs.length) (hj : j < zs.length), i < j → zs[i] ≤ zs[j] := fun i j hi hj hij => of_decide_eq_true (List.pairwise_iff_getElem.1 hs i j hi hj hij)
        have hlt : zs[m - 1] < zs[m] := Std.lt_of_le_of_ne (le (m - 1) m (by omega) (by omega) (by omega)) (fun e => hne e.symm)
        by_cases e : j = m - 1
        · subst e; exact hlt
        · exact Std.lt_of_le_of_lt (le j (m - 1) hjl (by omega) (by omega)) hlt
      · cases hj
    · rw [if_neg hk, List.append_nil]
      refine ⟨h1, fun x => ?_⟩
      rw [h2, htk, List.mem_append]
      constructor
      · exact Or.inl
      · rintro (h | h)
        · exact h
        · obtain rfl : x = zs[m] := by simpa using h
          have hk2 : ¬ (m = 0 ∨ zs.toArray[m]! ≠ zs.toArray[m - 1]!) := fun h => hk (by unfold keeps; exact decide_eq_true h)
          have hm0 : m ≠ 0 := fun e => hk2 (Or.inl e)
          have he : zs.toArray[m]! = zs.toArray[m - 1]! := Classical.byContradiction fun e => hk2 (Or.inr e)
          rw [hd] at he
          have hd2 : zs.toArray[m - 1]! = zs[m - 1] := by simp [show m - 1 < zs.length from by omega]
          rw [hd2] at he
          rw [he]
          exact List.mem_iff_getElem?.2 ⟨m - 1, by rw [List.getElem?_take, if_pos (by omega)]; exact List.getElem?_eq_getElem _⟩
theorem comp_len (zs : List (List UInt8)) : (compact zs).length ≤ zs.length := by
  unfold compact compactUpTo
  rw [List.length_map]
  refine Nat.le_trans (List.length_filter_le _ _) ?_
  simp
/-- Without twins. -/
def compN (l : List ByteArray) : List ByteArray := (compact (l.map fun x => x.data.toList)).map fun x => ⟨x.toArray⟩
theorem compN_is (l : List ByteArray) (f : ByteArray → Bool) (h : ∀ y, y ∈ l ↔ f y = true) : IsNames f (compN (sortN l)) := by
  have hs : ((sortN l).map fun x => x.data.toList).Pairwise fun x y => decide (x ≤ y) = true := by
    have he : ((sortN l).map fun x => x.data.toList) = (l.map fun x => x.data.toList).mergeSort fun x y => decide (x ≤ y) := by
      unfold sortN
      rw [List.map_map]
      conv => rhs; rw [← List.map_id (List.mergeSort _ _)]
      refine List.map_congr_left (fun x _ => ?_)
      simp
    rw [he]
    exact List.pairwise_mergeSort (fun a b c h1 h2 => by simp only [decide_eq_true_eq] at *; exact List.le_trans h1 h2) (fun a b => by simp only [Bool.or_eq_true, decide_eq_true_eq]; exact List.le_total a b) _
  obtain ⟨h1, h2⟩ := compact_rise _ hs _ (Nat.le_refl _)
  rw [List.take_length] at h2
  refine ⟨?_, fun y => ?_⟩
  · unfold compN
    rw [List.pairwise_map]
    refine h1.imp (fun {a b} hab => ?_)
    unfold ltN
    simpa using hab
  · unfold compN
    rw [List.mem_map, ← h, ← sortN_mem]
    constructor
    · rintro ⟨x, hx, rfl⟩
      obtain ⟨z, hz, rfl⟩ := List.mem_map.1 ((h2 x).1 hx)
      have : (⟨z.data.toList.toArray⟩ : ByteArray) = z := ba_eq (by simp)
      rw [this]; exact hz
    · intro hy
      exact ⟨y.data.toList, (h2 _).2 (List.mem_map.2 ⟨y, hy, rfl⟩), ba_eq (by simp)⟩
theorem compN_len (l : List ByteArray) : (compN l).length ≤ l.length := by
  unfold compN
  rw [List.length_map]
  refine Nat.le_trans (comp_len _) ?_
  simp

theorem compactc_any (w : World) (base : Nat) (A : Option Addr) (l : List ByteArray) (n c : Nat) (h : OwnC w base A n c l) (hb : n ≤ 1000000) :
    Calls Tryz.prog 29 #[.slice A n c] w fun e w' => e = .returned (.slice A (compN l).length c) ∧ RowIn w' w'.heap.size 1 A (compN l).length ((compN l).map .string) ∧ Below base w w' := by
  rcases h with ⟨rfl, rfl⟩ | ⟨g, rfl, hg, hlt, h0, hnc, hn, hH⟩
  · refine (Any.slices_Compact_string_empty Tryz.laysCompactS A c w).mono ?_
    rintro e w' ⟨rfl, rfl⟩
    have hs : compN [] = [] := by simp [compN, compact, compactUpTo]
    rw [hs]
    exact ⟨rfl, RowIn.nil _ _ _ _, Below.refl _ _⟩
  · have hcon := Any.slices_Compact_string Tryz.laysCompactS g 0 c (l.map fun x => x.data.toList) w hH (by simp; omega) (by simp; omega)
    rw [List.length_map, hn] at hcon
    refine hcon.mono ?_
    rintro e w' ⟨rfl, q, rfl⟩
    have hle : (compact (l.map fun x => x.data.toList)).length ≤ n := by
      have := comp_len (l.map fun x => x.data.toList)
      rw [List.length_map, hn] at this; exact this
    have hln : (compN l).length = (compact (l.map fun x => x.data.toList)).length := by unfold compN; rw [List.length_map]
    have hds : (compact (l.map fun x : ByteArray => x.data.toList) ++ List.replicate (n - (compact (l.map fun x : ByteArray => x.data.toList)).length) []).toArray.size = (l.map fun x : ByteArray => x.data.toList).toArray.size := by
      simp [hn]; omega
    have hH2 := Sort.holds_putRow encStr (Sort.ahead w q) g 0 _ _ (Sort.holds_ahead encStr w q g 0 _ hH) hds
    refine ⟨by rw [hln], ?_, ?_⟩
    · refine ⟨by simp, Or.inr ⟨g, 0, rfl, ?_, fun j u hu => ?_⟩⟩
      · rw [Sort.size_putRow]; exact hlt
      · obtain ⟨hj, rfl⟩ := List.getElem?_eq_some_iff.1 hu
        rw [List.length_map] at hj
        have h1 := (hH2 j (by rw [hds]; simp [hn]; omega)).1
        rw [h1]
        rw [hln] at hj
        simp [compN, encStr, hj, List.getElem?_append_left]
    · refine ⟨rfl, rfl, rfl, ?_, fun i hi => ?_⟩
      · show w.heap.size ≤ (Sort.putRow encStr (Sort.ahead w q) g 0 _).heap.size
        rw [Sort.size_putRow]; exact Nat.le_refl _
      · simp only [Sort.putRow, Sort.mapBlock, Array.getElem?_modify]
        rw [if_neg (by omega)]
        rfl

end Go.Proofs.YtdcinodbgbkobaaGreatDoor
