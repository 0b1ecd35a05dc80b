/- Crowds, plain: rows, what they tell. -/
import Derived.Test.YtnkglbiakjnfjaaDoorStr
namespace Go.Proofs.YtnkglbiakjnfjaaDoor
set_option linter.unusedVariables false

/-- A row: an event, and its tags. -/
structure Rw where
  e : Ev
  ts : List ByteArray

/-- One more tag. -/
def tagStep (acc : List ByteArray) (t : ByteArray) : List ByteArray := if nameB t && !memB t acc then acc ++ [t] else acc
def tagsP (l : List ByteArray) : List ByteArray := l.foldl tagStep []
theorem tagsP_snoc (l : List ByteArray) (t : ByteArray) : tagsP (l ++ [t]) = tagStep (tagsP l) t := by unfold tagsP; rw [List.foldl_append]; rfl
theorem snocInd' {α : Type} {p : List α → Prop} (l : List α) (nil : p []) (snoc : ∀ l a, p l → p (l ++ [a])) : p l := by
  have : ∀ n (l : List α), l.length = n → p l := by
    intro n
    induction n with
    | zero => intro l h; rw [List.eq_nil_of_length_eq_zero h]; exact nil
    | succ n ih =>
      intro l h
      have hne : l ≠ [] := by intro e; rw [e] at h; cases h
      have := List.dropLast_concat_getLast hne
      rw [← this]
      exact snoc _ _ (ih _ (by rw [List.length_dropLast, h]; rfl))
  exact this _ l rfl
theorem tagsP_is (l : List ByteArray) : (tagsP l).Nodup ∧ ∀ t, t ∈ tagsP l ↔ t ∈ l ∧ nameB t = true := by
  refine snocInd' (p := fun l => (tagsP l).Nodup ∧ ∀ t, t ∈ tagsP l ↔ t ∈ l ∧ nameB t = true) l ⟨List.nodup_nil, fun t => by simp [tagsP]⟩ (fun l a ih => ?_)
  rw [tagsP_snoc]
  unfold tagStep
  cases hn : nameB a
  · refine ⟨ih.1, fun t => ?_⟩
    show t ∈ tagsP l ↔ _
    rw [ih.2, List.mem_append, List.mem_singleton]
    constructor
    · rintro ⟨h1, h2⟩; exact ⟨Or.inl h1, h2⟩
    · rintro ⟨h1 | h1, h2⟩
      · exact ⟨h1, h2⟩
      · subst h1; rw [hn] at h2; cases h2
  · cases hm : memB a (tagsP l)
    · have hna : a ∉ tagsP l := fun h => by rw [(memB_iff _ _).2 h] at hm; cases hm
      refine ⟨?_, fun t => ?_⟩
      · show (tagsP l ++ [a]).Nodup
        rw [List.nodup_append]
        exact ⟨ih.1, by simp, fun x hx y hy e => by simp at hy; subst hy; subst e; exact hna hx⟩
      · show t ∈ tagsP l ++ [a] ↔ _
        rw [List.mem_append, List.mem_singleton, ih.2, List.mem_append, List.mem_singleton]
        constructor
        · rintro (⟨h1, h2⟩ | rfl)
          · exact ⟨Or.inl h1, h2⟩
          · exact ⟨Or.inr rfl, hn⟩
        · rintro ⟨h1 | h1, h2⟩
          · exact Or.inl ⟨h1, h2⟩
          · exact Or.inr h1
    · have hma := (memB_iff _ _).1 hm
      refine ⟨ih.1, fun t => ?_⟩
      show t ∈ tagsP l ↔ _
      rw [ih.2, List.mem_append, List.mem_singleton]
      constructor
      · rintro ⟨h1, h2⟩; exact ⟨Or.inl h1, h2⟩
      · rintro ⟨h1 | h1, h2⟩
        · exact ⟨h1, h2⟩
        · subst h1; exact (ih.2 t).1 hma
theorem tagsP_len (l : List ByteArray) : (tagsP l).length ≤ l.length := by
  refine snocInd' (p := fun l => (tagsP l).length ≤ l.length) l (Nat.le_refl _) (fun l a ih => ?_)
  rw [tagsP_snoc, List.length_append]
  unfold tagStep
  split
  · simp; omega
  · simp; omega
theorem name_size {t : ByteArray} (h : nameB t = true) : t.size ≤ 24 := by
  unfold nameB at h
  rw [Bool.and_eq_true, decide_eq_true_eq] at h
  exact h.1.2

/-- May a crowd have the event? -/
def crB (e : Ev) : Bool := mayB e && decide (e.kind < 11)
def lastE (rs : List Rw) : Option Ev := rs.getLast?.map (·.e)
def takesC (rs : List Rw) (e : Ev) : Bool := crB e && (match lastE rs with | none => true | some l => decide (cmpE e l = 1))
def aftC (rs : List Rw) (r : Rw) : List Rw := if takesC rs r.e then rs ++ [⟨r.e, tagsP r.ts⟩] else rs
/-- A person's. -/
def ownC (rs : List Rw) (p : ByteArray) : List Rw := rs.filter fun r => decide (r.e.person = p)
theorem ownC_snoc (rs : List Rw) (r : Rw) (p : ByteArray) : ownC (rs ++ [r]) p = if r.e.person = p then ownC rs p ++ [r] else ownC rs p := by
  unfold ownC
  rw [List.filter_append]
  by_cases h : r.e.person = p <;> simp [h]
theorem ownC_len (rs : List Rw) (p : ByteArray) : (ownC rs p).length ≤ rs.length := List.length_filter_le _ _
theorem ownC_mem {rs : List Rw} {p : ByteArray} {r : Rw} : r ∈ ownC rs p ↔ r ∈ rs ∧ r.e.person = p := by
  unfold ownC
  rw [List.mem_filter, decide_eq_true_eq]

/-- Is it the row of a person, with a thing, of a kind? -/
def isR (p i : ByteArray) (r : Rw) : Bool := decide (r.e.person = p ∧ r.e.item = i)
def doneB (rs : List Rw) (p i : ByteArray) : Bool := rs.any fun r => isR p i r && decide (r.e.kind = 2 ∨ r.e.kind = 3)
theorem doneB_snoc (rs : List Rw) (r : Rw) (p i : ByteArray) : doneB (rs ++ [r]) p i = (doneB rs p i || (isR p i r && decide (r.e.kind = 2 ∨ r.e.kind = 3))) := by
  unfold doneB; rw [List.any_append]; simp
def shownN (rs : List Rw) (p i : ByteArray) : Nat := rs.countP fun r => isR p i r && decide (r.e.kind = 0)
theorem shownN_snoc (rs : List Rw) (r : Rw) (p i : ByteArray) : shownN (rs ++ [r]) p i = shownN rs p i + if (isR p i r && decide (r.e.kind = 0)) = true then 1 else 0 := by
  unfold shownN; rw [List.countP_append]; simp [List.countP_cons]
theorem shownN_le (rs : List Rw) (p i : ByteArray) : shownN rs p i ≤ rs.length := List.countP_le_length
/-- The last word of two: is it the first one? -/
def wordO (f : Rw → Bool) (a b : Int) (rs : List Rw) : Option Bool := rs.foldl (fun acc r => if f r && decide (r.e.kind = a ∨ r.e.kind = b) then some (decide (r.e.kind = a)) else acc) none
theorem wordO_snoc (f : Rw → Bool) (a b : Int) (rs : List Rw) (r : Rw) : wordO f a b (rs ++ [r]) = if f r && decide (r.e.kind = a ∨ r.e.kind = b) then some (decide (r.e.kind = a)) else wordO f a b rs := by
  unfold wordO; rw [List.foldl_append]; rfl
def hidO (rs : List Rw) (p i : ByteArray) : Option Bool := wordO (isR p i) 5 6 rs
def isT (p t : ByteArray) (r : Rw) : Bool := decide (r.e.person = p ∧ r.e.text = t)
def folO (rs : List Rw) (p t : ByteArray) : Option Bool := wordO (isT p t) 7 8 rs
def mutO (rs : List Rw) (p t : ByteArray) : Option Bool := wordO (isT p t) 9 10 rs
/-- What an event is worth. -/
def worthP (e : Ev) : Int := if e.kind = 1 then 1 else if e.kind = 2 then 3 else if e.kind = 3 then 5 else if e.kind = 4 then e.value else 0
def likB (rs : List Rw) (p i : ByteArray) : Bool := rs.any fun r => isR p i r && decide (0 < worthP r.e)
theorem likB_snoc (rs : List Rw) (r : Rw) (p i : ByteArray) : likB (rs ++ [r]) p i = (likB rs p i || (isR p i r && decide (0 < worthP r.e))) := by
  unfold likB; rw [List.any_append]; simp
/-- Who likes a thing. -/
def fanStep (i : ByteArray) (acc : List ByteArray) (r : Rw) : List ByteArray := if decide (r.e.item = i ∧ 0 < worthP r.e) && !memB r.e.person acc then acc ++ [r.e.person] else acc
def fanL (rs : List Rw) (i : ByteArray) : List ByteArray := rs.foldl (fanStep i) []
theorem fanL_snoc (rs : List Rw) (r : Rw) (i : ByteArray) : fanL (rs ++ [r]) i = fanStep i (fanL rs i) r := by unfold fanL; rw [List.foldl_append]; rfl
theorem fanL_is (rs : List Rw) (i : ByteArray) : (fanL rs i).Nodup ∧ ∀ p, p ∈ fanL rs i ↔ likB rs p i = true := by
  refine snocInd' (p := fun rs => (fanL rs i).Nodup ∧ ∀ p, p ∈ fanL rs i ↔ likB rs p i = true) rs ⟨List.nodup_nil, fun p => by simp [fanL, likB]⟩ (fun rs r ih => ?_)
  rw [fanL_snoc]
  unfold fanStep
  by_cases h1 : r.e.item = i ∧ 0 < worthP r.e
  · cases hm : memB r.e.person (fanL rs i)
    · have hna : r.e.person ∉ fanL rs i := fun h => by rw [(memB_iff _ _).2 h] at hm; cases hm
      rw [decide_eq_true h1]
      refine ⟨?_, fun p => ?_⟩
      · show (fanL rs i ++ [r.e.person]).Nodup
        rw [List.nodup_append]
        exact ⟨ih.1, by simp, fun x hx y hy e => by simp at hy; subst hy; subst e; exact hna hx⟩
      · show p ∈ fanL rs i ++ [r.e.person] ↔ _
        rw [List.mem_append, List.mem_singleton, ih.2, likB_snoc, Bool.or_eq_true, Bool.and_eq_true]
        unfold isR
        simp only [decide_eq_true_eq]
        constructor
        · rintro (h | rfl)
          · exact Or.inl h
          · exact Or.inr ⟨⟨rfl, h1.1⟩, h1.2⟩
        · rintro (h | h)
          · exact Or.inl h
          · exact Or.inr h.1.1.symm
    · have hma := (memB_iff _ _).1 hm
      rw [decide_eq_true h1]
      refine ⟨ih.1, fun p => ?_⟩
      show p ∈ fanL rs i ↔ _
      rw [ih.2, likB_snoc, Bool.or_eq_true, Bool.and_eq_true]
      unfold isR
      simp only [decide_eq_true_eq]
      constructor
      · exact Or.inl
      · rintro (h | h)
        · exact h
        · rw [← h.1.1]; exact (ih.2 _).1 hma
  · rw [decide_eq_false h1]
    refine ⟨ih.1, fun p => ?_⟩
    show p ∈ fanL rs i ↔ _
    rw [ih.2, likB_snoc, Bool.or_eq_true, Bool.and_eq_true]
    unfold isR
    simp only [decide_eq_true_eq]
    constructor
    · exact Or.inl
    · rintro (h | h)
      · exact h
      · exact absurd ⟨h.1.2, h.2⟩ h1
def fansN (rs : List Rw) (i : ByteArray) : Nat := (fanL rs i).length
theorem fanL_le (rs : List Rw) (i : ByteArray) : (fanL rs i).length ≤ rs.length := by
  refine snocInd' (p := fun rs => (fanL rs i).length ≤ rs.length) rs (Nat.le_refl _) (fun rs r ih => ?_)
  rw [fanL_snoc, List.length_append]
  unfold fanStep
  split
  · simp; omega
  · simp; omega
theorem fansN_snoc (rs : List Rw) (r : Rw) (i : ByteArray) : fansN (rs ++ [r]) i = fansN rs i + if r.e.item = i ∧ 0 < worthP r.e ∧ likB rs r.e.person i = false then 1 else 0 := by
  unfold fansN
  rw [fanL_snoc]
  unfold fanStep
  have hm : memB r.e.person (fanL rs i) = likB rs r.e.person i := by
    rw [Bool.eq_iff_iff, memB_iff, (fanL_is rs i).2]
  rw [hm]
  by_cases h1 : r.e.item = i ∧ 0 < worthP r.e
  · rw [decide_eq_true h1]
    cases hl : likB rs r.e.person i
    · rw [if_pos (show r.e.item = i ∧ 0 < worthP r.e ∧ false = false from ⟨h1.1, h1.2, rfl⟩)]; simp
    · rw [if_neg (show ¬ (r.e.item = i ∧ 0 < worthP r.e ∧ true = false) from fun h => by cases h.2.2)]; simp
  · rw [decide_eq_false h1, if_neg (show ¬ (r.e.item = i ∧ 0 < worthP r.e ∧ likB rs r.e.person i = false) from fun h => h1 ⟨h.1, h.2.1⟩)]; simp

end Go.Proofs.YtnkglbiakjnfjaaDoor
