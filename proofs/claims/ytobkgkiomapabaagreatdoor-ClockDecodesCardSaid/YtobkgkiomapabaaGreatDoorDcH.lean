/- The document's Hear. -/
import Derived.Test.YtobkgkiomapabaaGreatDoorDcE
namespace Go.Proofs.YtobkgkiomapabaaGreatDoor
open Go.RowKit Go.Maps Go.Shelf
set_option linter.unusedVariables false

theorem sc_info : (Tryz.prog.info? 61).map (fun i => (i.zero, i.size, i.bytes)) = some (some (.agg #[.string ⟨#[]⟩, .int .i64 0, .int .i64 0]), 3, 32) := by kernel_rfl
theorem own_empty (w : World) (e : TypeId) (size : Nat) : (w.alloc (.cells #[] e)).ownsRow w.heap.size e size (.slice (some ⟨w.heap.size, 0, none⟩) 0 0) 0 [] :=
  ⟨by simp, Or.inr ⟨w.heap.size, 0, #[], rfl, Nat.le_refl _, heap_alloc_new w _, Nat.le_refl _, Nat.zero_le _, by simp, by simp⟩⟩
theorem own_mono {w : World} {base base' e size n : Nat} {v : Value} {xs : List Value} (h : w.ownsRow base e size v n xs) (hb : base' ≤ base) : w.ownsRow base' e size v n xs := by
  refine ⟨h.1, h.2.elim Or.inl fun ⟨g, cap, cur, h1, h2, h3⟩ => Or.inr ⟨g, cap, cur, h1, by omega, h3⟩⟩
theorem bel1 {w7 wa w1 : World} {r1 : Option Nat} (ha : Below w7.heap.size w7 wa) (hg1 : wa.grownBy w1 r1) (h1 : ∀ j, r1 = some j → w7.heap.size ≤ j) : Below w7.heap.size w7 w1 :=
  ((⟨ha.os, ha.tape, ha.output, ha.size, fun i hi _ => ha.block i hi⟩ : Kept (fun q => w7.heap.size ≤ q) w7 wa).grown hg1 (fun j hj => Or.inl (h1 j hj))).toBelow (fun i hi => hi) (Nat.le_refl _)
theorem row_grown {w w' : World} {B size n b : Nat} {xs : List Value} {row : Option Nat} (h : RowIn w B size (some ⟨b, 0, none⟩) n xs) (hb : b < w.heap.size) (hne : some b ≠ row) (hg : w.grownBy w' row) : RowIn w' B size (some ⟨b, 0, none⟩) n xs := by
  refine ⟨h.1, h.2.elim Or.inl fun hx => Or.inr ?_⟩
  obtain ⟨b', off, e, hb', hc⟩ := hx
  injection e with e
  injection e with e1 e2
  subst e1 e2
  exact ⟨b, 0, rfl, hb', fun j u hu => (World.cell?_of_block (hg.block b hb hne)).trans (hc j u hu)⟩
theorem one_sc (w : World) (x : Sc) (t : TypeId) : RowIn (w.alloc (.cells #[.string x.1, .int .i64 x.2.1, .int .i64 x.2.2] t)) (w.heap.size + 1) 3 (some ⟨w.heap.size, 0, none⟩) 1 (scC x) := by
  refine ⟨rfl, Or.inr ⟨w.heap.size, 0, rfl, by omega, fun j u hu => ?_⟩⟩
  rw [(Blk.new w t _).cell]
  rw [← hu, Nat.zero_add]
  simp [scC]
theorem own_caps {w : World} {base e size n c : Nat} {A : Option Addr} {xs : List Value} (h : w.ownsRow base e size (.slice A n c) n xs) : n ≤ c ∧ (A = none → c = 0) ∧ ∀ g o, A = some ⟨g, o, none⟩ → base ≤ g ∧ o = 0 := by
  rcases h.2 with ⟨h, h0⟩ | ⟨g9, cap9, cur9, h, hb, _, h4, _⟩
  · injection h with h1 h2 h3
    exact ⟨by omega, fun _ => h3, fun g o e => by rw [h1] at e; cases e⟩
  · injection h with h1 _ h3
    refine ⟨by rw [h3]; exact h4, fun h => ?_, fun g o e => ?_⟩
    · rw [h] at h1
      cases h1
    · rw [h1] at e
      injection e with e
      injection e with e1 e2
      exact ⟨by omega, e2.symm⟩
theorem doc_store {w : World} {D db cc cc' n' base : Nat} {A A' : Option Addr} {l l' : List Sc} {c c' : Ck} (h : DocIn w D db A cc l c) (ho : w.ownsRow base 61 3 (.slice A' n' cc') n' (l'.flatMap scC)) (hb : db < base) (hn : l'.length = n') (hr : Rows' c'.src l') (h1 : c'.slack = c.slack) (h2 : c'.idle = c.idle) (h3 : c'.now = c.now) (h4 : c'.mark = c.mark) :
    DocIn (w.setCell ⟨db, 4, none⟩ (.slice A' n' cc')) D db A' cc' l' c' := by
  obtain ⟨e1, e2, e3⟩ := own_caps ho
  subst hn
  obtain ⟨s0, s1, i0, i1, n0, n1, m0, m1⟩ := h.ok
  refine ⟨?_, ⟨ho.1, ?_⟩, fun g o e => ⟨by have := (e3 g o e).1; omega, by have := (e3 g o e).1; have := h.base; omega⟩, e2, e1, h.base, ⟨by omega, by omega, by omega, by omega, by omega, by omega, by omega, by omega⟩, hr⟩
  · rw [h1, h2, h3, h4]
    exact h.blk.set_ 4 _
  · rcases (RowIn.of_own ho).2 with h0 | ⟨b, off, e, hbl, hcc⟩
    · exact Or.inl h0
    · refine Or.inr ⟨b, off, e, by simpa [World.setCell] using hbl, fun j u' hu => ?_⟩
      exact (World.cell?_of_block (Below.heap_setCell w ⟨db, 4, none⟩ _ b (by have := (e3 b off e).1; show b ≠ db; omega))).trans (hcc j u' hu)
theorem flat_set (x : Sc) : ∀ (l : List Sc) (k : Nat), k < l.length → (((l.flatMap scC).set (k * 3) (.string x.1)).set (k * 3 + 1) (.int .i64 x.2.1)).set (k * 3 + 2) (.int .i64 x.2.2) = (l.set k x).flatMap scC
  | [], k, h => by simp at h
  | y :: l, 0, h => by simp [scC]
  | y :: l, k + 1, h => by
    have ih := flat_set x l k (by simpa using h)
    rw [List.set_cons_succ, List.flatMap_cons, List.flatMap_cons, ← ih]
    have e : (k + 1) * 3 = (k * 3 + 1 + 1) + 1 := by omega
    rw [e]
    simp [scC]
theorem own_set3 {w : World} {base e g cap n k : Nat} {l : List Sc} (h : w.ownsRow base e 3 (.slice (some ⟨g, 0, none⟩) n cap) n (l.flatMap scC)) (hk : k < l.length) (x : Sc) :
    (w.setCells g (k * 3) (scC x)).ownsRow base e 3 (.slice (some ⟨g, 0, none⟩) n cap) n ((l.set k x).flatMap scC) ∧ w.grownBy (w.setCells g (k * 3) (scC x)) (some g) := by
  have h1 := h.stored (k * 3) (.string x.1)
  have h2 := h1.1.stored (k * 3 + 1) (.int .i64 x.2.1)
  have h3 := h2.1.stored (k * 3 + 2) (.int .i64 x.2.2)
  rw [flat_set x l k hk] at h3
  exact ⟨h3.1, (h1.2.trans h2.2).trans h3.2⟩

/-! ### plain -/
theorem put_same (f : List UInt8 → Option (Int × Int)) (s : ByteArray) (x : Int × Int) (t : ByteArray) : put f s.data.toList x t.data.toList = if t = s then some x else f t.data.toList := by
  unfold put
  by_cases h : t = s
  · subst h; simp
  · rw [if_neg (fun e => h (ba_eq e)), if_neg h]
theorem rows_set {f : List UInt8 → Option (Int × Int)} {l : List Sc} {s : ByteArray} {k : Nat} {x y : Int × Int} (hr : Rows' f l) (hk : l[k]? = some (s, y)) (hx : 0 ≤ x.1 ∧ x.1 ≤ 1099511627776 ∧ 0 ≤ x.2 ∧ x.2 ≤ 1099511627776) : Rows' (put f s.data.toList x) (l.set k (s, x)) := by
  have hkl := (List.getElem?_eq_some_iff.1 hk).1
  have hmap : (l.set k (s, x)).map (·.1) = l.map (·.1) := by
    apply List.ext_getElem?
    intro j
    rw [List.getElem?_map, List.getElem?_map, List.getElem?_set]
    by_cases e : k = j
    · subst e
      rw [if_pos rfl, if_pos hkl, hk]
      rfl
    · rw [if_neg e]
  have hasc : (l.map (·.1)).Pairwise ltN := List.pairwise_map.2 hr.asc
  refine ⟨List.pairwise_map.1 (by rw [hmap]; exact hasc), fun t z => ?_, fun z hz => ?_⟩
  · rw [put_same]
    have hmem : (t, z) ∈ l.set k (s, x) ↔ ∃ j : Nat, (l.set k (s, x))[j]? = some (t, z) := List.mem_iff_getElem?
    rw [hmem]
    by_cases e : t = s
    · subst e
      rw [if_pos rfl]
      constructor
      · intro h
        cases h
        exact ⟨k, by rw [List.getElem?_set, if_pos rfl, if_pos hkl]⟩
      · rintro ⟨j, hj⟩
        rw [List.getElem?_set] at hj
        by_cases ej : k = j
        · rw [if_pos ej, if_pos hkl] at hj
          cases hj
          rfl
        · rw [if_neg ej] at hj
          have h1 := (hr.mem t z).2 (List.mem_of_getElem? hj)
          have h2 := (hr.mem t y).2 (List.mem_of_getElem? hk)
          rw [h2] at h1
          cases h1
          exfalso
          have hjl := (List.getElem?_eq_some_iff.1 hj).1
          rcases Nat.lt_or_gt_of_ne ej with h | h
          · have := List.pairwise_iff_getElem.1 hr.asc k j hkl hjl h
            rw [(List.getElem?_eq_some_iff.1 hk).2, (List.getElem?_eq_some_iff.1 hj).2] at this
            exact ltN_irr _ this
          · have := List.pairwise_iff_getElem.1 hr.asc j k hjl hkl h
            rw [(List.getElem?_eq_some_iff.1 hk).2, (List.getElem?_eq_some_iff.1 hj).2] at this
            exact ltN_irr _ this
    · rw [if_neg e, hr.mem t z, List.mem_iff_getElem?]
      constructor
      · rintro ⟨j, hj⟩
        refine ⟨j, ?_⟩
        rw [List.getElem?_set]
        by_cases ej : k = j
        · subst ej
          rw [hk] at hj
          cases hj
          exact absurd rfl e
        · rw [if_neg ej]; exact hj
      · rintro ⟨j, hj⟩
        refine ⟨j, ?_⟩
        rw [List.getElem?_set] at hj
        by_cases ej : k = j
        · rw [if_pos ej, if_pos hkl] at hj
          cases hj
          exact absurd rfl e
        · rw [if_neg ej] at hj; exact hj
  · rcases List.mem_or_eq_of_mem_set hz with h | rfl
    · exact hr.ok z h
    · have := hr.ok _ (List.mem_of_getElem? hk)
      exact ⟨hx.1, hx.2.1, hx.2.2.1, hx.2.2.2, this.2.2.2.2⟩
theorem rows_ins {f : List UInt8 → Option (Int × Int)} {l : List Sc} {s : ByteArray} {k : Nat} {x : Int × Int} (hr : Rows' f l) (hp : PlaceD l s k false) (hx : 0 ≤ x.1 ∧ x.1 ≤ 1099511627776 ∧ 0 ≤ x.2 ∧ x.2 ≤ 1099511627776) (hs : s.size ≤ 24) : Rows' (put f s.data.toList x) (l.take k ++ (s, x) :: l.drop k) := by
  have hno := (place_src hr hp).2 rfl
  obtain ⟨h1, h2, h3, h4⟩ := hp
  have hlt : ∀ y ∈ l.take k, ltN y.1 s := fun y hy => by
    obtain ⟨j, hj⟩ := List.mem_iff_getElem?.1 hy
    rw [List.getElem?_take] at hj
    split at hj
    · rename_i h
      exact h2 j y h hj
    · cases hj
  have hne : ∀ y ∈ l, y.1 ≠ s := fun y hy e => by
    have := (hr.mem y.1 y.2).2 hy
    rw [e, hno] at this
    cases this
  have hgt : ∀ y ∈ l.drop k, ltN s y.1 := fun y hy => by
    obtain ⟨j, hj⟩ := List.mem_iff_getElem?.1 hy
    rw [List.getElem?_drop] at hj
    have hjl := (List.getElem?_eq_some_iff.1 hj).1
    have hkl : k < l.length := by omega
    have h5 := ltN_of (h3 _ (List.getElem?_eq_getElem hkl)) (hne _ (List.getElem_mem hkl))
    rcases Nat.eq_zero_or_pos j with h0 | h0
    · subst h0
      rw [Nat.add_zero, List.getElem?_eq_getElem hkl] at hj
      cases hj
      exact h5
    · have := List.pairwise_iff_getElem.1 hr.asc k (k + j) hkl hjl (by omega)
      rw [(List.getElem?_eq_some_iff.1 hj).2] at this
      exact ltN_trans h5 this
  have hd : l.take k ++ l.drop k = l := List.take_append_drop k l
  have hasc := hr.asc
  rw [← hd, List.pairwise_append] at hasc
  refine ⟨List.pairwise_append.2 ⟨hasc.1, List.pairwise_cons.2 ⟨fun y hy => hgt y hy, hasc.2.1⟩, fun a ha b hb => ?_⟩, fun t z => ?_, fun z hz => ?_⟩
  · rcases List.mem_cons.1 hb with rfl | hb
    · exact hlt a ha
    · exact hasc.2.2 a ha b hb
  · rw [put_same, List.mem_append, List.mem_cons]
    by_cases e : t = s
    · subst e
      rw [if_pos rfl]
      constructor
      · intro h
        cases h
        exact Or.inr (Or.inl rfl)
      · rintro (h | h | h)
        · exact absurd rfl (hne _ (List.mem_of_mem_take h))
        · cases h; rfl
        · exact absurd rfl (hne _ (List.mem_of_mem_drop h))
    · rw [if_neg e, hr.mem t z]
      constructor
      · intro h
        rw [← hd, List.mem_append] at h
        rcases h with h | h
        · exact Or.inl h
        · exact Or.inr (Or.inr h)
      · rintro (h | h | h)
        · exact List.mem_of_mem_take h
        · cases h; exact absurd rfl e
        · exact List.mem_of_mem_drop h
  · rcases List.mem_append.1 hz with h | h
    · exact hr.ok z (List.mem_of_mem_take h)
    · rcases List.mem_cons.1 h with rfl | h
      · exact ⟨hx.1, hx.2.1, hx.2.2.1, hx.2.2.2, hs⟩
      · exact hr.ok z (List.mem_of_mem_drop h)
theorem name_24 {s : ByteArray} (h : nameB s = true) : s.size ≤ 24 := by
  unfold nameB at h
  simp at h
  exact h.1.2

/-! ### the walk -/
def HearsV (c : Ck) (s : ByteArray) (at_ now : Int) (v : Value) (c' : Ck) : Prop := ∃ res, v = .bool res ∧ Hears c s at_ now res c'

end Go.Proofs.YtobkgkiomapabaaGreatDoor
