/- What the laws ask, plain. -/
import Derived.Test.YtiaklkfdgnhonaaDoorRanks
namespace Go.Proofs.YtiaklkfdgnhonaaDoor
open Go.Lib
set_option linter.unusedVariables false

/-! ### without caps -/
theorem full_free {c : Cp} (h1 : ¬ 1 ≤ c.maker) (h2 : ¬ 1 ≤ c.tag) (f : Mk → Nat) (m : Mk) : fullP c f m = false := by
  unfold fullP mostOf
  by_cases ht : m.tag = true
  · rw [if_pos ht, decide_eq_false h2]; rfl
  · rw [if_neg ht, decide_eq_false h1]; rfl
theorem fits_free {c : Cp} (h1 : ¬ 1 ≤ c.maker) (h2 : ¬ 1 ≤ c.tag) (s : List Ch) (x : Ch) : fitsB c s x = decide ((s.length : Int) < c.size) := by
  unfold fitsB
  have : (marksP x).any (fullP c (cntM s)) = false := List.any_eq_false.2 (fun m _ => by rw [full_free h1 h2]; simp)
  rw [this]; simp
theorem down_free {c : Cp} (h1 : ¬ 1 ≤ c.maker) (h2 : ¬ 1 ≤ c.tag) : ∀ (r s : List Ch), downP c r s = s ++ r.take (c.size.toNat - s.length)
  | [], s => by simp [downP]
  | x :: r, s => by
    rw [downP_cons]
    unfold stepP
    rw [fits_free h1 h2]
    by_cases h : (s.length : Int) < c.size
    · rw [decide_eq_true h, if_pos rfl, down_free h1 h2 r (s ++ [x])]
      have e : c.size.toNat - s.length = (c.size.toNat - (s ++ [x]).length) + 1 := by simp; omega
      rw [e, List.take_succ_cons, List.append_assoc]; rfl
    · rw [decide_eq_false h, if_neg (by simp), down_free h1 h2 r s]
      have e : c.size.toNat - s.length = 0 := by omega
      rw [e]; simp
theorem make_free (size cap : Int) (h : ¬ 0 < cap) (l : List Ch) : makeP ⟨size, cap, cap⟩ l = (rankP l).take size.toNat := by
  unfold makeP
  rw [down_free (c := ⟨size, cap, cap⟩) (by show ¬ 1 ≤ cap; omega) (by show ¬ 1 ≤ cap; omega)]
  rfl

/-! ### going on -/
theorem rankP_nodup (l : List Ch) : (rankP l).Nodup := List.Pairwise.imp (fun {a b} (h : aheadI a b < 0) (e : a = b) => by subst e; exact ah_irr _ h) (rankP_is l).up
/-- The next one that is taken. -/
theorem left_step (c : Cp) (x : Ch) (r s : List Ch) (hx : x ∉ r) : (downP c (x :: r) s)[s.length]? = some x ↔ fitsB c s x = true := by
  rw [downP_cons]
  unfold stepP
  cases h : fitsB c s x
  · rw [if_neg (by simp)]
    obtain ⟨q, h1, h2⟩ := downP_front c r s
    rw [h1, List.getElem?_append_right (Nat.le_refl _)]
    constructor
    · intro h3
      exact absurd (h2.subset (List.mem_of_getElem? h3)) hx
    · intro h3; cases h3
  · rw [if_pos rfl]
    obtain ⟨q, h1, h2⟩ := downP_front c r (s ++ [x])
    rw [h1, List.append_assoc, List.getElem?_append_right (Nat.le_refl _)]
    simp
theorem down_take (c : Cp) (r s : List Ch) : (downP c r s).take s.length = s := by
  obtain ⟨q, h1, _⟩ := downP_front c r s
  rw [h1]; simp

/-! ### a greater Size -/
theorem fits_more {c c' : Cp} (hs : c.size ≤ c'.size) (hm : c.maker = c'.maker) (ht : c.tag = c'.tag) {s : List Ch} {x : Ch} (h : fitsB c s x = true) : fitsB c' s x = true := by
  unfold fitsB at *
  simp only [Bool.and_eq_true, decide_eq_true_eq] at *
  refine ⟨by omega, ?_⟩
  have : fullP c' = fullP c := by funext f m; unfold fullP mostOf; rw [hm, ht]
  rw [this]; exact h.2
theorem down_more {c c' : Cp} (hs : c.size ≤ c'.size) (hm : c.maker = c'.maker) (ht : c.tag = c'.tag) : ∀ (r s : List Ch), ∃ q, downP c' r s = downP c r s ++ q
  | [], s => ⟨[], by simp [downP]⟩
  | x :: r, s => by
    cases h : fitsB c s x
    · by_cases hl : (s.length : Int) < c.size
      · have h2 : fitsB c' s x = false := by
          cases h3 : fitsB c' s x
          · rfl
          · unfold fitsB at h h3
            rw [decide_eq_true hl] at h
            have : fullP c' = fullP c := by funext f m; unfold fullP mostOf; rw [hm, ht]
            rw [this] at h3
            simp only [Bool.and_eq_true] at h3
            rw [h3.2] at h
            cases h
        rw [downP_cons, downP_cons]
        unfold stepP
        rw [h, h2]
        exact down_more hs hm ht r s
      · rw [downP_full c _ _ (by omega)]
        obtain ⟨q, h1, _⟩ := downP_front c' (x :: r) s
        exact ⟨q, h1⟩
    · rw [downP_cons, downP_cons]
      unfold stepP
      rw [h, fits_more hs hm ht h]
      exact down_more hs hm ht r (s ++ [x])
theorem make_more {c c' : Cp} (hs : c.size ≤ c'.size) (hm : c.maker = c'.maker) (ht : c.tag = c'.tag) (l : List Ch) : ∃ q, makeP c' l = makeP c l ++ q := down_more hs hm ht _ _
theorem make_nil {c : Cp} (h : c.size ≤ 0) (l : List Ch) : makeP c l = [] := downP_full c _ _ (by simpa using h)
theorem make_same {c : Cp} {l m : List Ch} (h : ∀ x, x ∈ l ↔ x ∈ m) : makeP c l = makeP c m := by
  unfold makeP
  rw [(rankP_is l).one (rankP_is m) h]

/-! ### caps -/
theorem downP_inv {c : Cp} {P : List Ch → Prop} (hstep : ∀ s x, P s → fitsB c s x = true → P (s ++ [x])) : ∀ (r s : List Ch), P s → P (downP c r s)
  | [], s, h => h
  | x :: r, s, h => by
    rw [downP_cons]
    unfold stepP
    cases hf : fitsB c s x
    · exact downP_inv hstep r s h
    · exact downP_inv hstep r (s ++ [x]) (hstep s x h hf)
theorem make_size (c : Cp) (l : List Ch) : ((makeP c l).length : Int) ≤ max c.size 0 := by
  refine downP_inv (c := c) (P := fun s => ((s.length : Nat) : Int) ≤ max c.size 0) (fun s x _ hf => ?_) (rankP l) [] (by simp; omega)
  unfold fitsB at hf
  simp only [Bool.and_eq_true, decide_eq_true_eq] at hf
  simp only [List.length_append, List.length_cons, List.length_nil]
  omega
theorem make_cap (c : Cp) (l : List Ch) (m : Mk) (h : 1 ≤ mostOf c m) : (cntM (makeP c l) m : Int) ≤ mostOf c m := by
  refine downP_inv (c := c) (P := fun s => ((cntM s m : Nat) : Int) ≤ mostOf c m) (fun s x hs hf => ?_) (rankP l) [] (by rw [cntM_nil]; omega)
  show ((cntM (s ++ [x]) m : Nat) : Int) ≤ mostOf c m
  rw [cntM_snoc]
  by_cases hm : m ∈ marksP x
  · rw [if_pos hm]
    unfold fitsB at hf
    simp only [Bool.and_eq_true, Bool.not_eq_true', List.any_eq_false] at hf
    have := hf.2 m hm
    unfold fullP at this
    rw [decide_eq_true h] at this
    simp at this
    omega
  · rw [if_neg hm]; exact hs
theorem make_items (c : Cp) (l : List Ch) : (makeP c l).Pairwise (fun x y => x.item ≠ y.item) := by
  have h1 : (rankP l).Pairwise (fun x y => x.item ≠ y.item) := by
    have hn := (rankP_is l).up
    refine List.Pairwise.imp_of_mem (fun {a b} ha hb h e => ?_) hn
    have := (rankP_is l).item ha hb e
    rw [this] at h
    exact ah_irr _ h
  exact h1.sublist (makeP_sub c l)
theorem make_falls (c : Cp) (l : List Ch) : (makeP c l).Pairwise (fun x y => y.score ≤ x.score) := by
  have h1 : (rankP l).Pairwise (fun x y => y.score ≤ x.score) := (rankP_is l).up.imp (fun {a b} h => by
    by_cases e : a.score = b.score
    · omega
    · have := (ahead_score e).1 h; omega)
  exact h1.sublist (makeP_sub c l)

/-! ### who is alone -/
theorem cnt_zero {s : List Ch} {x : Ch} (h : ∀ y ∈ s, ¬ (x.maker = y.maker ∧ x.maker ≠ ⟨#[]⟩)) (ht : tagsP x.tags = []) : ∀ m ∈ marksP x, cntM s m = 0 := by
  intro m hm
  obtain ⟨b, n⟩ := m
  cases b
  · obtain ⟨rfl, hne⟩ := (mem_maker x _).1 hm
    rw [cntM_maker s x hne]
    unfold nMk
    rw [List.countP_eq_zero]
    intro y hy
    simp only [decide_eq_true_eq]
    exact fun e => h y hy ⟨e.symm, hne⟩
  · have := (mem_tag x _).1 hm
    rw [ht] at this
    cases this
theorem fits_alone {c : Cp} {s : List Ch} {x : Ch} (hl : (s.length : Int) < c.size) (h : ∀ m ∈ marksP x, cntM s m = 0) : fitsB c s x = true := by
  refine fits_yes (by omega) (List.any_eq_false.2 fun m hm => ?_)
  unfold fullP
  rw [h m hm]
  simp only [Bool.and_eq_true, decide_eq_true_eq]
  omega
theorem down_mem (c : Cp) (x : Ch) : ∀ (r s : List Ch), x ∈ s → x ∈ downP c r s := by
  intro r s h
  obtain ⟨q, h1, _⟩ := downP_front c r s
  rw [h1]; exact List.mem_append.2 (Or.inl h)
/-- Who is alone of its maker, without tags, is in the slate, if there is room at the end. -/
theorem alone_in {c : Cp} {x : Ch} (ht : tagsP x.tags = []) : ∀ (r s : List Ch), x ∈ r → (∀ y ∈ s, y = x ∨ ¬ (x.maker = y.maker ∧ x.maker ≠ ⟨#[]⟩)) → (∀ y ∈ r, y = x ∨ ¬ (x.maker = y.maker ∧ x.maker ≠ ⟨#[]⟩)) → ((downP c r s).length : Int) < c.size → x ∈ downP c r s
  | [], s, hx, _, _, _ => by cases hx
  | y :: r, s, hx, h1, h2, hl => by
    by_cases hin : x ∈ s
    · exact down_mem c x _ _ hin
    have hs0 : ∀ z ∈ s, ¬ (x.maker = z.maker ∧ x.maker ≠ ⟨#[]⟩) := fun z hz => (h1 z hz).resolve_left (fun e => hin (e ▸ hz))
    by_cases e : y = x
    · subst e
      have hls : (s.length : Int) < c.size := by
        obtain ⟨q, h3, _⟩ := downP_front c (y :: r) s
        rw [h3] at hl
        simp only [List.length_append] at hl
        omega
      rw [downP_cons]
      unfold stepP
      rw [fits_alone hls (cnt_zero hs0 ht), if_pos rfl]
      exact down_mem c y _ _ (by simp)
    · have hx' : x ∈ r := (List.mem_cons.1 hx).resolve_left (fun h => e h.symm)
      rw [downP_cons] at hl ⊢
      refine alone_in ht r _ hx' (fun z hz => ?_) (fun z hz => h2 z (List.mem_cons_of_mem _ hz)) hl
      unfold stepP at hz
      split at hz
      · rcases List.mem_append.1 hz with hz | hz
        · exact h1 z hz
        · simp at hz; rw [hz]; exact h2 y (List.mem_cons_self ..)
      · exact h1 z hz
theorem make_alone {c : Cp} {l : List Ch} {x : Ch} (hx : x ∈ rankP l) (ht : tagsP x.tags = []) (ha : ∀ y ∈ rankP l, y = x ∨ ¬ (x.maker = y.maker ∧ x.maker ≠ ⟨#[]⟩)) (hl : ((makeP c l).length : Int) < c.size) : x ∈ makeP c l :=
  alone_in ht _ _ hx (fun y hy => by cases hy) ha hl
theorem make_first {c : Cp} {l : List Ch} {x : Ch} {r : List Ch} (hr : rankP l = x :: r) (hs : 0 < c.size) : (makeP c l)[0]? = some x := by
  unfold makeP
  rw [hr]
  have hx : x ∉ r := by
    have := rankP_nodup l
    rw [hr] at this
    exact (List.nodup_cons.1 this).1
  refine (left_step c x r [] hx).2 (fits_alone (by simpa using hs) (fun m _ => cntM_nil m))

end Go.Proofs.YtiaklkfdgnhonaaDoor
