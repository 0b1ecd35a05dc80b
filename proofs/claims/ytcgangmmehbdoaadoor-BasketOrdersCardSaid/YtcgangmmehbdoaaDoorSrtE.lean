/- slices.SortFunc: rows of Ev. -/
import Derived.Test.YtcgangmmehbdoaaDoorCmpE
import Derived.Shelf.SlSortCmp.NoneTotal
import Derived.Test.YtcgangmmehbdoaaDoorLay3
namespace Go.Proofs.YtcgangmmehbdoaaDoor
open Go.Shelf Go.RowKit Go.Lib Go.Sort
set_option linter.unusedVariables false

theorem flatK_getE (l : List Ev) (t : Nat) (ht : t < l.length * 8) : (flatK evC 8 l.toArray)[t]! = ((l.flatMap evC)[t]?).getD default := by
  rw [get_flatK _ _ _ _ (by simpa using ht)]
  have hi : t / 8 < l.length := by omega
  have h := flat_get evC 8 evC_len l (t / 8) (t % 8) (l[t / 8]'hi) (List.getElem?_eq_getElem hi) (by omega)
  rw [show t / 8 * 8 + t % 8 = t from by omega] at h
  rw [h]
  have : l.toArray[t / 8]! = l[t / 8]'hi := by simp [hi]
  rw [this]
  have hl := evC_len (l[t / 8]'hi)
  rw [getElem!_pos _ _ (by rw [hl]; omega), List.getElem?_eq_getElem (by rw [hl]; omega)]
  rfl
theorem holdsK_ofE {w : World} {g : Nat} {l : List Ev} (hc : ∀ j u, (l.flatMap evC)[j]? = some u → w.cell? ⟨g, 0 + j, none⟩ = some u) (hf : ∀ j, w.frozen? ⟨g, j, none⟩ = false) : HoldsK evC 8 w g 0 l.toArray := by
  intro j hj
  have hj4 : j < l.length * 8 := by simpa using hj
  refine ⟨?_, hf _⟩
  rw [flatK_getE l j hj4]
  have hlt : j < (l.flatMap evC).length := by rw [flat_len evC 8 evC_len]; exact hj4
  rw [hc j _ (List.getElem?_eq_getElem hlt), List.getElem?_eq_getElem hlt]
  rfl
theorem cells_of_holdsKE {w : World} {g : Nat} {l : List Ev} (h : HoldsK evC 8 w g 0 l.toArray) : ∀ j u, (l.flatMap evC)[j]? = some u → w.cell? ⟨g, 0 + j, none⟩ = some u := by
  intro j u hu
  have hlt : j < (l.flatMap evC).length := (List.getElem?_eq_some_iff.1 hu).1
  have hj4 : j < l.length * 8 := by rw [← flat_len evC 8 evC_len]; exact hlt
  have := (h j (by simpa using hj4)).1
  rw [flatK_getE l j hj4, hu] at this
  exact this

/-- A row is sorted in place: what it holds then is the same in another order, and never falls. -/
theorem srtE_any (w : World) (base : Nat) (A : Option Addr) (l : List Ev) (n c : Nat) (hn : l.length = n) (hl : w.ownsRow base 33 8 (.slice A n c) n (l.flatMap evC)) (hb : n ≤ 1000000) :
    Calls Tryd.prog 21 #[.slice A n c, .func (.func 22) #[] #[]] w fun e w' => e = .returned (.tuple #[]) ∧ ∃ l' : List Ev, l'.Perm l ∧ (l'.Pairwise fun x y => ¬ cmpEI y x < 0) ∧ RowIn w' w.heap.size 8 A n (l'.flatMap evC) ∧ Kept (fun q => (Value.slice A n c).ownBlock = some q) w w' := by
  rcases Nat.eq_zero_or_pos n with h0 | h0
  · subst h0
    obtain rfl : l = [] := List.eq_nil_of_length_eq_zero hn
    refine (AnyF.slices_SortFunc_none Tryd.sortEv A c _ w).mono ?_
    rintro e w' ⟨rfl, rfl⟩
    exact ⟨rfl, [], List.Perm.refl _, List.Pairwise.nil, RowIn.nil _ _ _ _, Kept.refl _ _⟩
  · obtain ⟨g, cap, hv, hg, hlt⟩ := hl.form h0
    injection hv with hA _ hc
    subst hA
    subst hc
    have hcells := hl.cells (g := g) rfl
    have hH : HoldsK evC 8 w g 0 l.toArray := holdsK_ofE (fun j u hu => by have := hcells j u hu; rwa [at_add] at this) (frozen_own hl)
    have hcon := AnyQ.slices_SortFunc Tryd.sortEv 8 Tryd.isAgg33 Tryd.sizeOf33 evC evC_len (fun x v hv => evC_one [x] v (by simpa using hv)) cmpEI cmpE_swo 22 #[] g 0 c l.toArray w (enters_of Tryd.func22 (by kernel_rfl) rfl) (cmpE_lays g 0 _ w) hH hlt (by simp; omega)
    rw [show l.toArray.size = n from by simpa using hn] at hcon
    refine hcon.mono ?_
    rintro e w' ⟨rfl, d', m, os, hp, hs, rfl⟩
    obtain ⟨hsz, _, hperm⟩ := hp
    have hsz' : d'.size = n := by rw [hsz]; simpa using hn
    have e1 : d'.extract 0 n = d' := by rw [← hsz']; exact Array.extract_size
    have e2 : l.toArray.extract 0 n = l.toArray := by
      have : l.toArray.size = n := by simpa using hn
      rw [← this]; exact Array.extract_size
    rw [e1, e2] at hperm
    have hH2 : HoldsK evC 8 (sortWorldK evC 8 w g 0 m d'.toList.toArray os) g 0 d'.toList.toArray := by
      unfold sortWorldK
      refine holdsK_grow _ _ _ _ _ _ _ (by rw [size_putRowK]; exact hlt) ?_
      exact holdsK_putRowK evC 8 (Sort.ahead w m) g 0 l.toArray _ hH (by simpa using hsz)
    refine ⟨rfl, d'.toList, by simpa using hperm, ?_, ?_, ?_⟩
    · rw [List.pairwise_iff_getElem]
      intro i j hi hj hij
      have hi' : i < d'.size := by simpa using hi
      have hj' : j < d'.size := by simpa using hj
      have := hs i j (Nat.zero_le _) hij (by rw [← hsz']; exact hj')
      unfold ltOf at this
      rw [getElem!_pos d' i hi', getElem!_pos d' j hj'] at this
      simpa using this
    · exact ⟨by rw [flat_len evC 8 evC_len]; simp [hsz'], Or.inr ⟨g, 0, rfl, hlt, cells_of_holdsKE hH2⟩⟩
    · refine ⟨rfl, rfl, rfl, ?_, fun i hi hni => ?_⟩
      · show w.heap.size ≤ ((putRowK evC 8 (Sort.ahead w m) g 0 d').heap ++ os).size
        rw [Array.size_append, size_putRowK]
        exact Nat.le_add_right _ _
      · show ((putRowK evC 8 (Sort.ahead w m) g 0 d').heap ++ os)[i]? = _
        rw [Array.getElem?_append_left (by rw [size_putRowK]; show i < w.heap.size; omega)]
        simp only [putRowK, putRow, mapBlock, Array.getElem?_modify]
        rw [if_neg (fun e => hni (by rw [← e]; rfl))]
        rfl

end Go.Proofs.YtcgangmmehbdoaaDoor
