/- slices.SortFunc of choices by ahead. -/
import Derived.Test.YtiaklkfdgnhonaaDoorSame
import Derived.Shelf.SlSortCmp.NoneTotal
import Derived.Test.YtiaklkfdgnhonaaDoorLay
namespace Go.Proofs.YtiaklkfdgnhonaaDoor
open Go.Shelf Go.RowKit Go.Lib Go.Sort
set_option linter.unusedVariables false

instance : Inhabited Ch := ⟨⟨⟨#[]⟩, ⟨#[]⟩, ⟨#[]⟩, 0⟩⟩

theorem drew_grow (w : World) (os : Array Obj) : (grow w os).drew = grow (w.drewN 1) os := rfl

theorem cmpLays_ahead (blk off size : Nat) (w : World) : CmpLays Tryd.prog 25 #[] chC 4 aheadI blk off size w :=
  fun _ _ _ _ x y => (ahead_any x y _).mono fun e w' ⟨he, o1, o2, o3, hw⟩ => ⟨he, 1, #[o1] ++ (#[o2] ++ #[o3]), by
    rw [hw, alloc_eq_grow, alloc_eq_grow, alloc_eq_grow, grow_grow, grow_grow, drew_grow]⟩

theorem flatK_get (l : List Ch) (t : Nat) (ht : t < l.length * 4) : (flatK chC 4 l.toArray)[t]! = ((l.flatMap chC)[t]?).getD default := by
  rw [get_flatK _ _ _ _ (by simpa using ht)]
  have hi : t / 4 < l.length := by omega
  have h := flat_get chC 4 chC_len l (t / 4) (t % 4) (l[t / 4]'hi) (List.getElem?_eq_getElem hi) (by omega)
  rw [show t / 4 * 4 + t % 4 = t from by omega] at h
  rw [h]
  have : l.toArray[t / 4]! = l[t / 4]'hi := by simp [hi]
  rw [this]
  have hl := chC_len (l[t / 4]'hi)
  rw [getElem!_pos _ _ (by rw [hl]; omega), List.getElem?_eq_getElem (by rw [hl]; omega)]
  rfl

/-- Cells of a block that is nowhere frozen are held, as the sort's contract asks for. -/
theorem holdsK_of {w : World} {g : Nat} {l : List Ch} (hc : ∀ j u, (l.flatMap chC)[j]? = some u → w.cell? ⟨g, 0 + j, none⟩ = some u) (hf : ∀ j, w.frozen? ⟨g, j, none⟩ = false) : HoldsK chC 4 w g 0 l.toArray := by
  intro j hj
  have hj4 : j < l.length * 4 := by simpa using hj
  refine ⟨?_, hf _⟩
  rw [flatK_get l j hj4]
  have hlt : j < (l.flatMap chC).length := by rw [flat_len chC 4 chC_len]; exact hj4
  rw [hc j _ (List.getElem?_eq_getElem hlt), List.getElem?_eq_getElem hlt]
  rfl
theorem cells_of_holdsK {w : World} {g : Nat} {l : List Ch} (h : HoldsK chC 4 w g 0 l.toArray) : ∀ j u, (l.flatMap chC)[j]? = some u → w.cell? ⟨g, 0 + j, none⟩ = some u := by
  intro j u hu
  have hlt : j < (l.flatMap chC).length := (List.getElem?_eq_some_iff.1 hu).1
  have hj4 : j < l.length * 4 := by rw [← flat_len chC 4 chC_len]; exact hlt
  have := (h j (by simpa using hj4)).1
  rw [flatK_get l j hj4, hu] at this
  exact this

theorem sort_any (w : World) (base : Nat) (A : Option Addr) (l : List Ch) (n c : Nat) (hn : l.length = n) (hl : w.ownsRow base 32 4 (.slice A n c) n (l.flatMap chC)) (hb : n ≤ 1000000) (hbase : base ≤ w.heap.size) :
    Calls Tryd.prog 24 #[.slice A n c, .func (.func 25) #[] #[]] w fun e w' => e = .returned (.tuple #[]) ∧ ChsAt w' w.heap.size A (sortC l) ∧ Below base w w' := by
  rcases Nat.eq_zero_or_pos n with h0 | h0
  · subst h0
    obtain rfl : l = [] := List.eq_nil_of_length_eq_zero hn
    refine (AnyF.slices_SortFunc_none Tryd.sortCh A c _ w).mono ?_
    rintro e w' ⟨rfl, rfl⟩
    have hs : sortC [] = [] := by simp [sortC]
    rw [hs]
    exact ⟨rfl, RowIn.nil _ _ _ _, Below.refl _ _⟩
  · obtain ⟨g, cap, hv, hg, hlt⟩ := hl.form h0
    injection hv with hA _ hc
    subst hA
    subst hc
    have hcells := hl.cells (g := g) rfl
    have hfro : ∀ j, w.frozen? ⟨g, j, none⟩ = false := by
      intro j
      rcases hl.2 with ⟨h, _⟩ | ⟨g', cap', cur, h, _, hh, _⟩
      · cases h
      · injection h with h
        injection h with h
        injection h with h
        subst h
        simp [World.frozen?, hh]
    have hH : HoldsK chC 4 w g 0 l.toArray := holdsK_of (fun j u hu => by have := hcells j u hu; rwa [at_add] at this) hfro
    have hcon := AnyQ.slices_SortFunc_total Tryd.sortCh 4 Tryd.isAgg32 Tryd.sizeOf32 chC chC_len (fun x v hv => chC_one [x] v (by simpa using hv)) aheadI ahead_tri.swo 25 #[] g 0 c l.toArray w (enters_of Tryd.func25 (by kernel_rfl) rfl) (cmpLays_ahead g 0 _ w) hH hlt (by simp; omega) ahead_tri.total
    rw [show l.toArray.size = n from by simpa using hn] at hcon
    refine hcon.mono ?_
    rintro e w' ⟨rfl, m, os, rfl⟩
    have hs : (l.mergeSort fun x y => !(ltOf aheadI) y x) = sortC l := rfl
    rw [show l.toArray.toList = l from rfl, hs]
    have hsz : (sortC l).toArray.size = l.toArray.size := by simp [sortC_len]
    have hH2 : HoldsK chC 4 (sortWorldK chC 4 w g 0 m (sortC l).toArray os) g 0 (sortC l).toArray := by
      unfold sortWorldK
      refine holdsK_grow _ _ _ _ _ _ _ (by rw [size_putRowK]; exact hlt) ?_
      exact holdsK_putRowK chC 4 (Sort.ahead w m) g 0 l.toArray _ hH hsz
    refine ⟨rfl, ⟨by rw [flat_len chC 4 chC_len], Or.inr ⟨g, 0, rfl, hlt, cells_of_holdsK hH2⟩⟩, ?_⟩
    refine ⟨rfl, rfl, rfl, ?_, fun i hi => ?_⟩
    · show w.heap.size ≤ ((putRowK chC 4 (Sort.ahead w m) g 0 (sortC l).toArray).heap ++ os).size
      rw [Array.size_append, size_putRowK]
      exact Nat.le_add_right _ _
    · show ((putRowK chC 4 (Sort.ahead w m) g 0 (sortC l).toArray).heap ++ os)[i]? = _
      rw [Array.getElem?_append_left (by rw [size_putRowK]; show i < w.heap.size; omega)]
      simp only [putRowK, putRow, mapBlock, Array.getElem?_modify]
      rw [if_neg (by omega)]
      rfl

end Go.Proofs.YtiaklkfdgnhonaaDoor
