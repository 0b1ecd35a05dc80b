/- The ranking, plain: what it is, and that there is one. -/
import Derived.Test.YtiaklkfdgnhonaaDoorOrd
namespace Go.Proofs.YtiaklkfdgnhonaaDoor
open Go.RowKit Go.Sort
set_option linter.unusedVariables false

instance decBA : DecidableEq ByteArray := fun a b => decidable_of_iff (a.data = b.data) ⟨fun h => by cases a; cases b; exact congrArg _ h, fun h => by rw [h]⟩
instance lawBA : LawfulBEq ByteArray where
  eq_of_beq {a b} h := by
    cases a; cases b
    have h : (_ == _) = true := h
    exact congrArg _ (eq_of_beq h)
  rfl {a} := by
    cases a
    exact beq_self_eq_true (α := Array UInt8) _

theorem ah_irr (x : Ch) : ¬ aheadI x x < 0 := by rw [(ahead_tri.zero x x).2 rfl]; omega
theorem ah_trans {x y z : Ch} (h1 : aheadI x y < 0) (h2 : aheadI y z < 0) : aheadI x z < 0 := ahead_tri.trans _ _ _ h1 h2
theorem ah_asym {x y : Ch} (h1 : aheadI x y < 0) : ¬ aheadI y x < 0 := fun h => ah_irr _ (ah_trans h1 h)
theorem ah_tot {x y : Ch} (h1 : ¬ aheadI x y < 0) (h2 : x ≠ y) : aheadI y x < 0 := by
  refine (ahead_tri.anti y x).2 ?_
  have : aheadI x y ≠ 0 := fun e => h2 ((ahead_tri.zero _ _).1 e)
  omega

/-- Rising rows with the same members are one. -/
theorem eq_of_mem : ∀ (l m : List Ch), l.Pairwise (fun x y => aheadI x y < 0) → m.Pairwise (fun x y => aheadI x y < 0) → (∀ x, x ∈ l ↔ x ∈ m) → l = m
  | [], [], _, _, _ => rfl
  | [], y :: m, _, _, h => by simpa using (h y).2 (by simp)
  | x :: l, [], _, _, h => by simpa using (h x).1 (by simp)
  | x :: l, y :: m, hl, hm, h => by
    rw [List.pairwise_cons] at hl hm
    have e : x = y := by
      refine Classical.byContradiction fun ne => ?_
      have h1 := (h x).1 (by simp)
      have h2 := (h y).2 (by simp)
      rw [List.mem_cons] at h1 h2
      have h1 : x ∈ m := h1.resolve_left ne
      have h2 : y ∈ l := h2.resolve_left fun e => ne e.symm
      exact ah_asym (hl.1 y h2) (hm.1 x h1)
    subst e
    congr 1
    refine eq_of_mem l m hl.2 hm.2 fun z => ?_
    have hz := h z
    rw [List.mem_cons, List.mem_cons] at hz
    constructor
    · intro hzl
      rcases hz.1 (Or.inr hzl) with rfl | h
      · exact absurd (hl.1 _ hzl) (ah_irr _)
      · exact h
    · intro hzm
      rcases hz.2 (Or.inr hzm) with rfl | h
      · exact absurd (hm.1 _ hzm) (ah_irr _)
      · exact h

/-- r is the ranking of l. -/
structure IsRank (l r : List Ch) : Prop where
  up : r.Pairwise (fun x y => aheadI x y < 0)
  mem : ∀ x, x ∈ r ↔ x ∈ l ∧ ∀ y ∈ l, y.item = x.item → ¬ aheadI y x < 0

theorem IsRank.one {l l' r r' : List Ch} (h : IsRank l r) (h' : IsRank l' r') (hm : ∀ x, x ∈ l ↔ x ∈ l') : r = r' := by
  refine eq_of_mem _ _ h.up h'.up fun x => ?_
  rw [h.mem, h'.mem, hm]
  exact and_congr Iff.rfl ⟨fun g y hy => g y ((hm y).2 hy), fun g y hy => g y ((hm y).1 hy)⟩

/-- Items of a ranking are unlike. -/
theorem IsRank.item {l r : List Ch} (h : IsRank l r) {x y : Ch} (hx : x ∈ r) (hy : y ∈ r) (e : x.item = y.item) : x = y := by
  refine Classical.byContradiction fun ne => ?_
  exact ((h.mem x).1 hx).2 y ((h.mem y).1 hy).1 e.symm (ah_tot (((h.mem y).1 hy).2 x ((h.mem x).1 hx).1 e) ne)

/-! ### the program's -/
def sortC (l : List Ch) : List Ch := l.mergeSort fun x y => !(ltOf aheadI) y x
theorem sortC_mem (l : List Ch) (x : Ch) : x ∈ sortC l ↔ x ∈ l := by unfold sortC; rw [List.mem_mergeSort]
theorem sortC_len (l : List Ch) : (sortC l).length = l.length := by unfold sortC; rw [List.length_mergeSort]
theorem sortC_up (l : List Ch) : (sortC l).Pairwise (fun x y => ¬ aheadI y x < 0) := by
  have h := List.pairwise_mergeSort (le := fun x y => !(ltOf aheadI) y x) (fun x y z h1 h2 => by
    simp only [Bool.not_eq_true'] at *
    exact ahead_tri.swo.ntrans _ _ _ h2 h1) (fun x y => by
    simp only [ltOf, Bool.or_eq_true, Bool.not_eq_true', decide_eq_false_iff_not]
    by_cases h : aheadI y x < 0
    · exact Or.inr (ah_asym h)
    · exact Or.inl h) l
  refine h.imp fun {x y} h => ?_
  simpa [ltOf] using h

/-- Each item once: the first. -/
def firsts : List ByteArray → List Ch → List Ch
  | _, [] => []
  | sn, x :: l => if x.item ∈ sn then firsts sn l else x :: firsts (x.item :: sn) l

theorem firsts_mem : ∀ (s : List Ch) (sn : List ByteArray), s.Pairwise (fun x y => ¬ aheadI y x < 0) → ∀ x, x ∈ firsts sn s ↔ x ∈ s ∧ x.item ∉ sn ∧ ∀ y ∈ s, y.item = x.item → ¬ aheadI y x < 0
  | [], _, _, x => by simp [firsts]
  | h :: t, sn, hs, x => by
    rw [List.pairwise_cons] at hs
    unfold firsts
    by_cases hi : h.item ∈ sn
    · rw [if_pos hi, firsts_mem t sn hs.2 x]
      constructor
      · rintro ⟨h1, h2, h3⟩
        refine ⟨List.mem_cons_of_mem _ h1, h2, fun y hy e => ?_⟩
        rcases List.mem_cons.1 hy with rfl | hy
        · exact absurd (e ▸ hi) h2
        · exact h3 y hy e
      · rintro ⟨h1, h2, h3⟩
        rcases List.mem_cons.1 h1 with rfl | h1
        · exact absurd hi h2
        · exact ⟨h1, h2, fun y hy => h3 y (List.mem_cons_of_mem _ hy)⟩
    · rw [if_neg hi, List.mem_cons, firsts_mem t _ hs.2 x]
      constructor
      · rintro (rfl | ⟨h1, h2, h3⟩)
        · refine ⟨by simp, hi, fun y hy e => ?_⟩
          rcases List.mem_cons.1 hy with rfl | hy
          · exact ah_irr _
          · exact hs.1 y hy
        · rw [List.mem_cons, not_or] at h2
          refine ⟨List.mem_cons_of_mem _ h1, h2.2, fun y hy e => ?_⟩
          rcases List.mem_cons.1 hy with rfl | hy
          · exact absurd e.symm h2.1
          · exact h3 y hy e
      · rintro ⟨h1, h2, h3⟩
        rcases List.mem_cons.1 h1 with rfl | h1
        · exact Or.inl rfl
        · by_cases e : x.item = h.item
          · refine Or.inl (Classical.byContradiction fun ne => ?_)
            exact h3 h (by simp) e.symm (ah_tot (hs.1 x h1) ne)
          · exact Or.inr ⟨h1, by rw [List.mem_cons, not_or]; exact ⟨e, h2⟩, fun y hy => h3 y (List.mem_cons_of_mem _ hy)⟩

theorem firsts_up : ∀ (s : List Ch) (sn : List ByteArray), s.Pairwise (fun x y => ¬ aheadI y x < 0) → (firsts sn s).Pairwise (fun x y => aheadI x y < 0)
  | [], _, _ => by simp [firsts]
  | h :: t, sn, hs => by
    have hs' := hs
    rw [List.pairwise_cons] at hs
    unfold firsts
    by_cases hi : h.item ∈ sn
    · rw [if_pos hi]; exact firsts_up t sn hs.2
    · rw [if_neg hi, List.pairwise_cons]
      refine ⟨fun x hx => ?_, firsts_up t _ hs.2⟩
      obtain ⟨h1, h2, _⟩ := (firsts_mem t _ hs.2 x).1 hx
      refine ah_tot (hs.1 x h1) ?_
      rintro rfl
      exact h2 (by simp)

def rankP (l : List Ch) : List Ch := firsts [] (sortC l)
theorem rankP_is (l : List Ch) : IsRank l (rankP l) where
  up := firsts_up _ _ (sortC_up l)
  mem x := by
    unfold rankP
    rw [firsts_mem _ _ (sortC_up l), sortC_mem]
    simp only [List.not_mem_nil, not_false_eq_true, true_and, sortC_mem]

theorem firsts_len : ∀ (s : List Ch) (sn : List ByteArray), (firsts sn s).length ≤ s.length
  | [], _ => by simp [firsts]
  | h :: t, sn => by
    unfold firsts
    by_cases hi : h.item ∈ sn
    · rw [if_pos hi]; have := firsts_len t sn; simp; omega
    · rw [if_neg hi]; have := firsts_len t (h.item :: sn); simp; omega
theorem rankP_len (l : List Ch) : (rankP l).length ≤ l.length := by
  have := firsts_len (sortC l) []
  rw [sortC_len] at this
  exact this

/-! ### the document's -/
/-- Put in ahead of the first that it is ahead of. -/
def putIn (x : Ch) : List Ch → List Ch
  | [] => [x]
  | y :: o => if aheadI x y < 0 then x :: y :: o else y :: putIn x o

theorem putIn_mem (x : Ch) : ∀ (o : List Ch) (z : Ch), z ∈ putIn x o ↔ z = x ∨ z ∈ o
  | [], z => by simp [putIn]
  | y :: o, z => by
    unfold putIn
    split
    · simp
    · rw [List.mem_cons, putIn_mem x o z, List.mem_cons]
      constructor
      · rintro (h | h | h) <;> simp [h]
      · rintro (h | h | h) <;> simp [h]
theorem putIn_len (x : Ch) : ∀ (o : List Ch), (putIn x o).length = o.length + 1
  | [] => rfl
  | y :: o => by
    unfold putIn
    split
    · rfl
    · simp [putIn_len x o]
theorem putIn_up (x : Ch) : ∀ (o : List Ch), o.Pairwise (fun x y => aheadI x y < 0) → x ∉ o → (putIn x o).Pairwise (fun x y => aheadI x y < 0)
  | [], _, _ => by simp [putIn]
  | y :: o, h, hx => by
    have h0 := h
    rw [List.pairwise_cons] at h
    unfold putIn
    by_cases hlt : aheadI x y < 0
    · rw [if_pos hlt, List.pairwise_cons]
      refine ⟨fun z hz => ?_, h0⟩
      rcases List.mem_cons.1 hz with rfl | hz
      · exact hlt
      · exact ah_trans hlt (h.1 z hz)
    · rw [if_neg hlt, List.pairwise_cons]
      rw [List.mem_cons, not_or] at hx
      refine ⟨fun z hz => ?_, putIn_up x o h.2 hx.2⟩
      rcases (putIn_mem x o z).1 hz with rfl | hz
      · exact ah_tot hlt hx.1
      · exact h.1 z hz
theorem putIn_none (x : Ch) : ∀ (o : List Ch), (∀ z ∈ o, ¬ aheadI x z < 0) → putIn x o = o ++ [x]
  | [], _ => rfl
  | y :: o, h => by
    unfold putIn
    rw [if_neg (h y (by simp)), putIn_none x o fun z hz => h z (by simp [hz])]
    rfl
theorem putIn_app (x : Ch) : ∀ (o p : List Ch), (∃ z ∈ o, aheadI x z < 0) → putIn x (o ++ p) = putIn x o ++ p
  | [], _, h => by simp at h
  | y :: o, p, h => by
    simp only [List.cons_append]
    unfold putIn
    by_cases hlt : aheadI x y < 0
    · rw [if_pos hlt, if_pos hlt]; rfl
    · rw [if_neg hlt, if_neg hlt, putIn_app x o p]
      · rfl
      · obtain ⟨z, hz, hl⟩ := h
        rcases List.mem_cons.1 hz with rfl | hz
        · exact absurd hl hlt
        · exact ⟨z, hz, hl⟩
theorem putIn_here (x y : Ch) : ∀ (o : List Ch), (∀ z ∈ o, ¬ aheadI x z < 0) → aheadI x y < 0 → putIn x (o ++ [y]) = o ++ [x, y]
  | [], _, h => by simp [putIn, h]
  | z :: o, hn, h => by
    simp only [List.cons_append]
    unfold putIn
    rw [if_neg (hn z (by simp)), putIn_here x y o (fun z hz => hn z (by simp [hz])) h]

/-- Is the k-th better than the i-th? -/
def badB (l : List Ch) (i k : Nat) : Prop := ∃ x y, l[i]? = some x ∧ l[k]? = some y ∧ y.item = x.item ∧ (aheadI y x < 0 ∨ y = x ∧ k < i)

/-- out is what the first n make. -/
structure RefTo (l : List Ch) (n : Nat) (out : List Ch) : Prop where
  up : out.Pairwise (fun x y => aheadI x y < 0)
  mem : ∀ x, x ∈ out ↔ ∃ i, i < n ∧ l[i]? = some x ∧ ∀ k, ¬ badB l i k

theorem RefTo.zero (l : List Ch) : RefTo l 0 [] := ⟨by simp, fun x => by simp⟩
theorem RefTo.skip {l : List Ch} {n : Nat} {out : List Ch} (h : RefTo l n out) (k : Nat) (hb : badB l n k) : RefTo l (n + 1) out where
  up := h.up
  mem x := by
    rw [h.mem]
    constructor
    · rintro ⟨i, hi, h1⟩
      exact ⟨i, by omega, h1⟩
    · rintro ⟨i, hi, h1, h2⟩
      refine ⟨i, ?_, h1, h2⟩
      by_cases e : i = n
      · subst e; exact absurd hb (h2 k)
      · omega
theorem RefTo.put {l : List Ch} {n : Nat} {out : List Ch} (h : RefTo l n out) {x : Ch} (hx : l[n]? = some x) (hb : ∀ k, ¬ badB l n k) : RefTo l (n + 1) (putIn x out) where
  up := putIn_up x out h.up fun hm => by
    obtain ⟨i, hi, h1, h2⟩ := (h.mem x).1 hm
    exact hb i ⟨x, x, hx, h1, rfl, Or.inr ⟨rfl, hi⟩⟩
  mem y := by
    rw [putIn_mem, h.mem]
    constructor
    · rintro (rfl | ⟨i, hi, h1⟩)
      · exact ⟨n, by omega, hx, hb⟩
      · exact ⟨i, by omega, h1⟩
    · rintro ⟨i, hi, h1, h2⟩
      by_cases e : i = n
      · subst e
        rw [hx] at h1
        exact Or.inl (Option.some.inj h1).symm
      · exact Or.inr ⟨i, by omega, h1, h2⟩
theorem first_at (l : List Ch) (x : Ch) : ∀ (n : Nat), l[n]? = some x → ∃ i : Nat, l[i]? = some x ∧ ∀ k : Nat, k < i → l[k]? ≠ some x := by
  intro n
  induction n using Nat.strongRecOn with
  | ind n ih =>
    intro h
    by_cases e : ∃ k, k < n ∧ l[k]? = some x
    · obtain ⟨k, hk, hx⟩ := e
      exact ih k hk hx
    · exact ⟨n, h, fun k hk hx => e ⟨k, hk, hx⟩⟩
theorem RefTo.all {l : List Ch} {out : List Ch} (h : RefTo l l.length out) : IsRank l out where
  up := h.up
  mem x := by
    rw [h.mem]
    constructor
    · rintro ⟨i, hi, h1, h2⟩
      refine ⟨List.mem_of_getElem? h1, fun y hy e hl => ?_⟩
      obtain ⟨k, hk⟩ := List.mem_iff_getElem?.1 hy
      exact h2 k ⟨x, y, h1, hk, e, Or.inl hl⟩
    · rintro ⟨h1, h2⟩
      obtain ⟨n, hn⟩ := List.mem_iff_getElem?.1 h1
      obtain ⟨i, hi, hf⟩ := first_at l x n hn
      refine ⟨i, (List.getElem?_eq_some_iff.1 hi).1, hi, ?_⟩
      rintro k ⟨x', y, hx', hy, e, hb⟩
      rw [hi] at hx'
      cases hx'
      rcases hb with hb | ⟨rfl, hk⟩
      · exact h2 y (List.mem_of_getElem? hy) e hb
      · exact hf k hk hy
theorem RefTo.rank {l : List Ch} {out : List Ch} (h : RefTo l l.length out) : out = rankP l := h.all.one (rankP_is l) fun _ => Iff.rfl

end Go.Proofs.YtiaklkfdgnhonaaDoor
