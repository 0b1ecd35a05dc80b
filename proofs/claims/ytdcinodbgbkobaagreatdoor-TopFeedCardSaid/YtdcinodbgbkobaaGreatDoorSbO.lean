/- event.Sort. -/
import Derived.Test.YtdcinodbgbkobaaGreatDoorSbE
namespace Go.Proofs.YtdcinodbgbkobaaGreatDoor
open Go.Shelf Go.RowKit Go.Lib Go.Sort
set_option linter.unusedVariables false

theorem frozen_own {w : World} {base e size n c : Nat} {g : Nat} {xs : List Value} (h : w.ownsRow base e size (.slice (some ⟨g, 0, none⟩) n c) n xs) : ∀ j, w.frozen? ⟨g, j, none⟩ = false := by
  intro j
  rcases h.2 with ⟨h, _⟩ | ⟨g', cap', cur, h, _, hh, _⟩
  · cases h
  · injection h with h
    injection h with h
    injection h with h
    subst h
    simp [World.frozen?, hh]
theorem flatK_getE (l : List Ev) (t : Nat) (ht : t < l.length * 8) : (flatK evC 8 l.toArray)[t]! = ((l.flatMap evC)[t]?).getD default := by
  rw [get_flatK _ _ _ _ (by simpa using ht)]
  have hi : t / 8 < l.length := by omega
  have h := flat_get evC 8 evC_len l (t / 8) (t % 8) (l[t / 8]'hi) (List.getElem?_eq_getElem hi) (by omega)
  rw [show t / 8 * 8 + t % 8 = t from by omega] at h
  rw [h]
  have : l.toArray[t / 8]! = l[t / 8]'hi := by simp [hi]
  rw [this]
  have hl := evC_len (l[t / 8]'hi)
  rw [getElem!_pos _ _ (by rw [hl]; omega), List.getElem?_eq_getElem (by rw [hl]; omega)]
  rfl
theorem holdsK_ofE {w : World} {g : Nat} {l : List Ev} (hc : ∀ j u, (l.flatMap evC)[j]? = some u → w.cell? ⟨g, 0 + j, none⟩ = some u) (hf : ∀ j, w.frozen? ⟨g, j, none⟩ = false) : HoldsK evC 8 w g 0 l.toArray := by
  intro j hj
  have hj4 : j < l.length * 8 := by simpa using hj
  refine ⟨?_, hf _⟩
  rw [flatK_getE l j hj4]
  have hlt : j < (l.flatMap evC).length := by rw [flat_len evC 8 evC_len]; exact hj4
  rw [hc j _ (List.getElem?_eq_getElem hlt), List.getElem?_eq_getElem hlt]
  rfl
theorem cells_of_holdsKE {w : World} {g : Nat} {l : List Ev} (h : HoldsK evC 8 w g 0 l.toArray) : ∀ j u, (l.flatMap evC)[j]? = some u → w.cell? ⟨g, 0 + j, none⟩ = some u := by
  intro j u hu
  have hlt : j < (l.flatMap evC).length := (List.getElem?_eq_some_iff.1 hu).1
  have hj4 : j < l.length * 8 := by rw [← flat_len evC 8 evC_len]; exact hlt
  have := (h j (by simpa using hj4)).1
  rw [flatK_getE l j hj4, hu] at this
  exact this
abbrev SortedS (l : List Ev) : Prop := l.Pairwise fun a b => ltOf cmpE b a = false
/-- A row is sorted in place: what it holds then is the same in another order, and never falls. -/
theorem srtE_any (w : World) (base : Nat) (A : Option Addr) (l : List Ev) (n c : Nat) (hn : l.length = n) (hl : w.ownsRow base 41 8 (.slice A n c) n (l.flatMap evC)) (hb : n ≤ 1000000) :
    Calls Tryz.prog 17 #[.slice A n c, .func (.func 18) #[] #[]] w fun e w' => e = .returned (.tuple #[]) ∧ ∃ l' : List Ev, l'.Perm l ∧ SortedS l' ∧ RowIn w' w.heap.size 8 A n (l'.flatMap evC) ∧ Kept (fun q => (Value.slice A n c).ownBlock = some q) w w' := by
  rcases hl.2 with ⟨h1, h2⟩ | ⟨g, cap, cur, h1, h2, h3, h4, _⟩
  · injection h1 with hA hn0 hc0
    subst hA; subst hn0; subst hc0
    obtain rfl : l = [] := List.eq_nil_of_length_eq_zero hn
    refine (sortStable_nil w _).mono ?_
    rintro e w' ⟨rfl, rfl⟩
    exact ⟨rfl, [], List.Perm.refl _, List.Pairwise.nil, RowIn.nil _ _ _ _, Kept.refl _ _⟩
  · injection h1 with hA _ hc
    subst hA
    subst hc
    have hlt : g < w.heap.size := (Array.getElem?_eq_some_iff.1 h3).1
    have hcells := hl.cells (g := g) rfl
    have hH : HoldsK evC 8 w g 0 l.toArray := holdsK_ofE (fun j u hu => by have := hcells j u hu; rwa [at_add] at this) (frozen_own hl)
    have hsz0 : l.toArray.size = n := by simpa using hn
    have R : SbRow w g 0 n l.toArray := ⟨hH, hlt, hsz0, hb⟩
    refine (sortStable_any w g 0 n l.toArray R c l.toArray w ⟨SWK.start hH, hsz0⟩).mono ?_
    rintro e w' ⟨rfl, d', ⟨hp, hs⟩, hw'⟩
    have hH2 := hw'.holds R
    obtain ⟨m, os, rfl⟩ := hw'.sw
    obtain ⟨hsz, _, hperm⟩ := hp
    have hsz' : d'.size = n := by rw [hsz]; exact hsz0
    have e1 : d'.extract 0 n = d' := by rw [← hsz']; exact Array.extract_size
    have e2 : l.toArray.extract 0 n = l.toArray := by rw [← hsz0]; exact Array.extract_size
    rw [e1, e2] at hperm
    refine ⟨rfl, d'.toList, by simpa using hperm, ?_, ?_, ?_⟩
    · show List.Pairwise _ _
      rw [List.pairwise_iff_getElem]
      intro i j hi hj hij
      have hi' : i < d'.size := by simpa using hi
      have hj' : j < d'.size := by simpa using hj
      have := hs i j (Nat.zero_le _) hij (by rw [← hsz']; exact hj')
      rw [getElem!_pos d' i hi', getElem!_pos d' j hj'] at this
      simpa using this
    · exact ⟨by rw [flat_len evC 8 evC_len]; simp [hsz'], Or.inr ⟨g, 0, rfl, hlt, cells_of_holdsKE (l := d'.toList) (by simpa using hH2)⟩⟩
    · refine ⟨rfl, rfl, rfl, ?_, fun i hi hni => ?_⟩
      · show w.heap.size ≤ ((putRowK evC 8 (Sort.ahead w m) g 0 d').heap ++ os).size
        rw [Array.size_append, size_putRowK]
        exact Nat.le_add_right _ _
      · show ((putRowK evC 8 (Sort.ahead w m) g 0 d').heap ++ os)[i]? = _
        rw [Array.getElem?_append_left (by rw [size_putRowK]; show i < w.heap.size; omega)]
        simp only [putRowK, putRow, mapBlock, Array.getElem?_modify]
        rw [if_neg (fun e => hni (by rw [← e]; rfl))]
        rfl

theorem own_full {w : World} {base e size n c : Nat} {A : Option Addr} {xs : List Value} (h : w.ownsRow base e size (.slice A n c) n xs) : n ≤ c ∧ ∀ g, (Value.slice A n c).ownBlock = some g → base ≤ g := by
  rcases h.2 with ⟨h1, rfl⟩ | ⟨g, cap, cur, h1, h2, h3, h4, _⟩
  · injection h1 with hA _ hc
    subst hA; subst hc
    exact ⟨Nat.le_refl _, fun g hg => by cases hg⟩
  · injection h1 with hA _ hc
    subst hA; subst hc
    exact ⟨h4, fun g' hg => by cases hg; exact h2⟩
theorem eown_shape {w : World} {base n : Nat} {e : TypeId} {size : Nat} {v : Value} {xs : List Value} (h : w.ownsRow base e size v n xs) : ∃ A c, v = .slice A n c := by
  rcases h.2 with ⟨rfl, rfl⟩ | ⟨g, cap, cur, rfl, _⟩
  · exact ⟨_, _, rfl⟩
  · exact ⟨_, _, rfl⟩
set_option maxHeartbeats 1000000 in
set_option maxRecDepth 100000 in
/-- event.Sort: the same events, sorted, in a row of the call's own. -/
theorem evSort_any (w : World) (B : Nat) (A : Option Addr) (l : List Ev) (n c : Nat) (hn : l.length = n) (hl : EvsAt w B A l) (hB : B ≤ w.heap.size) (hnil : A = none → c = 0) (hb : n ≤ 1000000) :
    Calls Tryz.prog 7 #[.slice A n c] w fun e w' => ∃ A' l', e = .returned (.slice A' n n) ∧ l'.Perm l ∧ SortedS l' ∧ EvsAt w' w'.heap.size A' l' ∧ (∀ g, (Value.slice A' n n).ownBlock = some g → w.heap.size ≤ g) ∧ (A' = none → n = 0) ∧ Below w.heap.size w w' := by
  have HC := Lib.hid (eclone_any w B A l n c hn hl hB hnil hb)
  have HN := Lib.hid hn
  clear hl hnil hn
  go_enter Tryz.func7, Tryz.ntmps7
  go_wp2_with fail
  refine HC.out.mono ?_
  rintro e w1 ⟨v, rfl, ho, hk1⟩
  obtain ⟨A', c', rfl⟩ := eown_shape ho
  have HO := Lib.hid ho
  have HK1 := Lib.hid hk1
  have HS := Lib.hid (srtE_any w1 w.heap.size A' l n c' HN.out ho hb)
  have hcc := (own_full ho).1
  have HP := Lib.hid (own_full ho).2
  clear HC ho hk1
  go_wp2_with fail
  refine HS.out.mono ?_
  rintro e w2 ⟨rfl, l', hp, hs, hr, hk2⟩
  have H1 := Lib.hid hp
  have H2 := Lib.hid hs
  have H3 := Lib.hid hr
  have H4 := Lib.hid hk2
  have HCL := Lib.hid (clip_any w2 A' n c' hcc hb)
  clear HS hp hs hr hk2
  go_wp2_with fail
  refine HCL.out.mono ?_
  rintro e w3 ⟨rfl, rfl⟩
  go_wp2_with fail
  go_ret
  have hlen : l'.length = n := by rw [H1.out.length_eq]; exact HN.out
  refine ⟨A', l', rfl, H1.out, H2.out, ?_, ?_, ?_, ?_⟩
  · show RowIn _ _ _ _ _ _
    rw [hlen]
    exact H3.out.more H4.out.size
  · intro g hg
    exact HP.out g (by cases A' <;> exact hg)
  · rintro rfl
    rcases HO.out.2 with ⟨_, h⟩ | ⟨g, cap, cur, h, _⟩
    · exact h
    · cases h
  · have h5 : Kept (fun i => w.heap.size ≤ i) w1 w3 := H4.out.mono (fun i _ hi => HP.out i (by cases A' <;> exact hi))
    exact HK1.out.trans (h5.toBelow (fun i hi => hi) HK1.out.size)
end Go.Proofs.YtdcinodbgbkobaaGreatDoor
