/- Rising names; slices.Sort of names. -/
import Derived.Test.YtikbckpphkpaiaaDoorCatChg
import Derived.Sort.Walk0
import Derived.Shelf.Sort.Plain
import Derived.Shelf.Slices.In.SortNone
namespace Go.Proofs.YtikbckpphkpaiaaDoor
open Go.Shelf Go.RowKit Go.Maps
set_option linter.unusedVariables false

def ltN (a b : ByteArray) : Prop := a.data.toList < b.data.toList
theorem ltN_irr (a : ByteArray) : ¬ ltN a a := List.lt_irrefl _
theorem ltN_trans {a b c : ByteArray} (h : ltN a b) (k : ltN b c) : ltN a c := List.lt_trans h k
theorem ba_eq {a b : ByteArray} (h : a.data.toList = b.data.toList) : a = b := by
  cases a; cases b
  exact congrArg _ (Array.toList_inj.1 h)
theorem ltN_of {a b : ByteArray} (h : ¬ ltN a b) (hne : a ≠ b) : ltN b a := by
  rcases List.le_total b.data.toList a.data.toList with h1 | h1
  · exact Std.lt_of_le_of_ne h1 (fun e => hne (ba_eq e.symm))
  · exact absurd (Std.lt_of_le_of_ne h1 (fun e => hne (ba_eq e))) h
theorem less_iff (a b : ByteArray) : Op.bytesLess a.toList b.toList = true ↔ ltN a b := by
  rw [bytesLess_eq, decide_eq_true_iff, Lib.toList_data, Lib.toList_data]
  exact Iff.rfl

/-- ks: just those of which f holds, rising. -/
def IsNames (f : ByteArray → Bool) (ks : List ByteArray) : Prop := ks.Pairwise ltN ∧ ∀ n, n ∈ ks ↔ f n = true
theorem IsNames.nodup {f : ByteArray → Bool} {ks : List ByteArray} (h : IsNames f ks) : ks.Nodup := by
  rw [List.nodup_iff_pairwise_ne]
  exact h.1.imp (fun hab e => by subst e; exact ltN_irr _ hab)
theorem IsNames.one {f g : ByteArray → Bool} {ks ks' : List ByteArray} (h : IsNames f ks) (h' : IsNames g ks') (he : ∀ n, f n = g n) : ks = ks' :=
  List.Perm.eq_of_pairwise (le := ltN) (fun a b _ _ h1 h2 => absurd (ltN_trans h1 h2) (ltN_irr _)) h.1 h'.1 ((List.perm_ext_iff_of_nodup h.nodup h'.nodup).2 (fun n => by rw [h.2, h'.2, he]))

/-- Sorted. -/
def sortN (l : List ByteArray) : List ByteArray := ((l.map fun x => x.data.toList).mergeSort fun x y => decide (x ≤ y)).map fun x => ⟨x.toArray⟩
theorem sortN_len (l : List ByteArray) : (sortN l).length = l.length := by simp [sortN, List.length_mergeSort]
theorem sortN_mem (l : List ByteArray) (n : ByteArray) : n ∈ sortN l ↔ n ∈ l := by
  unfold sortN
  rw [List.mem_map]
  constructor
  · rintro ⟨x, hx, rfl⟩
    rw [List.mem_mergeSort, List.mem_map] at hx
    obtain ⟨y, hy, rfl⟩ := hx
    exact hy
  · intro h
    exact ⟨n.data.toList, by rw [List.mem_mergeSort, List.mem_map]; exact ⟨n, h, rfl⟩, rfl⟩
theorem sortN_is {f : ByteArray → Bool} {l : List ByteArray} (hn : l.Nodup) (hm : ∀ n, n ∈ l ↔ f n = true) : IsNames f (sortN l) := by
  refine ⟨?_, fun n => by rw [sortN_mem]; exact hm n⟩
  unfold sortN
  rw [List.pairwise_map]
  have hs : ((l.map fun x => x.data.toList).mergeSort fun x y => decide (x ≤ y)).Pairwise (fun x y => decide (x ≤ y) = true) :=
    List.pairwise_mergeSort (fun a b c h1 h2 => by simp only [decide_eq_true_eq] at *; exact List.le_trans h1 h2) (fun a b => by simp only [Bool.or_eq_true, decide_eq_true_eq]; exact List.le_total a b) _
  have hnd : ((l.map fun x => x.data.toList).mergeSort fun x y => decide (x ≤ y)).Nodup := by
    rw [(List.mergeSort_perm _ _).nodup_iff]
    rw [List.nodup_iff_pairwise_ne, List.pairwise_map]
    exact (List.nodup_iff_pairwise_ne.1 hn).imp (fun hab e => hab (ba_eq e))
  refine (hs.and (List.nodup_iff_pairwise_ne.1 hnd)).imp ?_
  rintro a b ⟨h1, h2⟩
  show (⟨a.toArray⟩ : ByteArray).data.toList < (⟨b.toArray⟩ : ByteArray).data.toList
  exact Std.lt_of_le_of_ne (of_decide_eq_true h1) h2

theorem sort_any (w : World) (base : Nat) (A : Option Addr) (l : List ByteArray) (n c : Nat) (hn : l.length = n) (hl : w.ownsRow base 9 1 (.slice A n c) n (l.map .string)) (hb : n ≤ 1000000) :
    Calls Tryd.prog 29 #[.slice A n c] w fun e w' => e = .returned (.tuple #[]) ∧ RowIn w' w'.heap.size 1 A n ((sortN l).map .string) ∧ Below base w w' := by
  rcases Nat.eq_zero_or_pos n with h0 | h0
  · subst h0
    obtain rfl : l = [] := List.eq_nil_of_length_eq_zero hn
    refine (Any.slices_Sort_string_none Tryd.laysSortS A c w).mono ?_
    rintro e w' ⟨rfl, rfl⟩
    have hs : sortN [] = [] := by simp [sortN]
    rw [hs]
    exact ⟨rfl, RowIn.nil _ _ _ _, Below.refl _ _⟩
  · obtain ⟨g, cap, hv, hg, hlt⟩ := hl.form h0
    injection hv with hA _ hc
    subst hA
    subst hc
    have hcells := hl.cells (g := g) rfl
    have hH : Sort.Holds encStr w g 0 (l.map fun x => x.data.toList).toArray := by
      intro j hj
      have hj' : j < l.length := by simpa using hj
      have hgj : (l.map fun x => x.data.toList).toArray[j]! = l[j].data.toList := by simp [hj']
      refine ⟨?_, frozen_own hl _⟩
      rw [hgj]
      have := hcells j (.string l[j]) (by simp [hj'])
      rwa [at_add] at this
    have hcon := Any.slices_Sort_string Tryd.laysSortS g 0 c (l.map fun x => x.data.toList) w hH hlt (by simp; omega)
    rw [List.length_map, hn] at hcon
    refine hcon.mono ?_
    rintro e w' ⟨rfl, q, os, rfl⟩
    have hds : (((l.map fun x => x.data.toList).mergeSort fun x y => decide (x ≤ y)).toArray).size = (l.map fun x => x.data.toList).toArray.size := by simp [List.length_mergeSort]
    have hH2 := Sort.holds_grow encStr _ os g 0 _ (by rw [Sort.size_putRow]; exact hlt) (Sort.holds_putRow encStr (Sort.ahead w q) g 0 _ _ (Sort.holds_ahead encStr w q g 0 _ hH) hds)
    have hsz : w.heap.size ≤ (Sort.grow (Sort.putRow encStr (Sort.ahead w q) g 0 ((l.map fun x => x.data.toList).mergeSort fun x y => decide (x ≤ y)).toArray) os).heap.size := by
      show w.heap.size ≤ ((Sort.putRow encStr (Sort.ahead w q) g 0 _).heap ++ os).size
      rw [Array.size_append, Sort.size_putRow]
      exact Nat.le_add_right _ _
    refine ⟨rfl, ?_, ?_⟩
    · refine ⟨by simp [sortN_len, hn], Or.inr ⟨g, 0, rfl, Nat.lt_of_lt_of_le hlt hsz, fun j u hu => ?_⟩⟩
      obtain ⟨hj, rfl⟩ := List.getElem?_eq_some_iff.1 hu
      rw [List.length_map, sortN_len] at hj
      have h1 := (hH2 j (by rw [hds]; simpa using hj)).1
      rw [h1]
      simp [sortN, List.length_mergeSort, hj]
    · refine ⟨rfl, rfl, rfl, hsz, fun i hi => ?_⟩
      show ((Sort.putRow encStr (Sort.ahead w q) g 0 _).heap ++ os)[i]? = _
      rw [Array.getElem?_append_left (by rw [Sort.size_putRow]; show i < w.heap.size; omega)]
      simp only [Sort.putRow, Sort.mapBlock, Array.getElem?_modify]
      rw [if_neg (by omega)]
      rfl

end Go.Proofs.YtikbckpphkpaiaaDoor
