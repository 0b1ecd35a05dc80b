/- Counts by words: plain, and in maps. -/
import Derived.Test.YtiaklkfdgnhonaaDoorFalls
namespace Go.Proofs.YtiaklkfdgnhonaaDoor
open Go.Shelf Go.RowKit Go.Lib Go.Sort Go.Maps
set_option linter.unusedVariables false

/-- M counts words as f does. -/
def CntS (M : Lit → Option Value) (f : ByteArray → Nat) : Prop := ∀ b : ByteArray, M (.string b.data.toList) = if f b = 0 then none else some (.int .i64 (f b))
theorem CntS.none : CntS (fun _ => none) (fun _ => 0) := fun b => by simp
def bumpS (f : ByteArray → Nat) (m : ByteArray) : ByteArray → Nat := fun x => if x = m then f m + 1 else f x
theorem CntS.bump {M : Lit → Option Value} {f : ByteArray → Nat} (h : CntS M f) (m : ByteArray) : CntS (upd M (.string m.data.toList) (.int .i64 ((f m + 1 : Nat) : Int))) (bumpS f m) := fun b => by
  unfold upd bumpS
  rw [str_same]
  by_cases e : b = m
  · simp [e]
  · simp only [e, decide_false, Bool.false_eq_true, if_false]
    exact h b
theorem CntS.get {M : Lit → Option Value} {f : ByteArray → Nat} (h : CntS M f) (m : ByteArray) : (M (.string m.data.toList)).getD (.int .i64 0) = .int .i64 (f m) := by
  rw [h]
  by_cases e : f m = 0 <;> simp [e]
theorem CntS.congr {M : Lit → Option Value} {f g : ByteArray → Nat} (h : CntS M f) (e : f = g) : CntS M g := e ▸ h

def nIt (s : List Ch) (b : ByteArray) : Nat := s.countP fun y => decide (y.item = b)
def nMa (s : List Ch) (b : ByteArray) : Nat := s.countP fun y => decide (y.maker = b ∧ b ≠ ⟨#[]⟩)
theorem nIt_snoc (s : List Ch) (x : Ch) : nIt (s ++ [x]) = bumpS (nIt s) x.item := by
  funext b
  unfold nIt bumpS
  rw [List.countP_append]
  by_cases h : b = x.item
  · subst h; simp
  · have : ¬ x.item = b := fun e => h e.symm
    simp [h, this]
theorem nMa_snoc (s : List Ch) (x : Ch) (hx : x.maker ≠ ⟨#[]⟩) : nMa (s ++ [x]) = bumpS (nMa s) x.maker := by
  funext b
  unfold nMa bumpS
  rw [List.countP_append]
  by_cases h : b = x.maker
  · subst h; simp [hx]
  · have : ¬ x.maker = b := fun e => h e.symm
    simp [h, this]
theorem nMa_skip (s : List Ch) (x : Ch) (hx : x.maker = ⟨#[]⟩) : nMa (s ++ [x]) = nMa s := by
  funext b
  unfold nMa
  rw [List.countP_append]
  have : ¬ (x.maker = b ∧ b ≠ ⟨#[]⟩) := fun h => h.2 (h.1 ▸ hx)
  simp only [List.countP_cons, List.countP_nil, this, decide_false]
  simp
theorem foldBumpS : ∀ (l : List ByteArray) (f : ByteArray → Nat) (m : ByteArray), l.Nodup → l.foldl bumpS f m = f m + if m ∈ l then 1 else 0
  | [], f, m, _ => by simp
  | a :: l, f, m, h => by
    obtain ⟨h1, h2⟩ := List.nodup_cons.1 h
    rw [List.foldl_cons, foldBumpS l _ m h2]
    unfold bumpS
    by_cases e : m = a
    · subst e; simp [h1]
    · by_cases e2 : m ∈ l <;> simp [e, e2]
theorem nTg_fold (s : List Ch) (x : Ch) : (tagsP x.tags).foldl bumpS (nTg s) = nTg (s ++ [x]) := by
  funext t
  rw [foldBumpS _ _ _ (tagsP_nodup _), nTg_snoc]
theorem nIt_one {s : List Ch} (h : s.Pairwise (fun x y => x.item ≠ y.item)) (b : ByteArray) : nIt s b ≤ 1 := by
  induction s with
  | nil => simp [nIt]
  | cons x s ih =>
    obtain ⟨h1, h2⟩ := List.pairwise_cons.1 h
    unfold nIt
    rw [List.countP_cons]
    by_cases e : x.item = b
    · have : s.countP (fun y => decide (y.item = b)) = 0 := by
        rw [List.countP_eq_zero]
        intro y hy
        simp only [decide_eq_true_eq]
        exact fun e2 => h1 y hy (e.trans e2.symm)
      rw [this]; simp [e]
    · have := ih h2
      unfold nIt at this
      simp [e]; exact this
theorem nMa_le (s : List Ch) (k : Nat) (b : ByteArray) : nMa (s.take k) b ≤ nMa s b := (List.take_sublist k s).countP_le
theorem nMa_len (s : List Ch) (b : ByteArray) : nMa s b ≤ s.length := List.countP_le_length
theorem nIt_len (s : List Ch) (b : ByteArray) : nIt s b ≤ s.length := List.countP_le_length
theorem nTg_len (s : List Ch) (b : ByteArray) : nTg s b ≤ s.length := List.countP_le_length
theorem nMa_cap (c : Cp) (l : List Ch) (h : 1 ≤ c.maker) (b : ByteArray) : (nMa (makeP c l) b : Int) ≤ c.maker := by
  by_cases hb : b = ⟨#[]⟩
  · have : nMa (makeP c l) b = 0 := by
      unfold nMa
      rw [List.countP_eq_zero]
      intro y _
      simp [hb]
    rw [this]; omega
  · have h1 := make_cap c l ⟨false, b⟩ (by unfold mostOf; simpa using h)
    have h2 : cntM (makeP c l) ⟨false, b⟩ = nMa (makeP c l) b := by
      unfold cntM nMa
      congr 1
      funext y
      rw [decide_eq_decide, mem_maker]
      constructor
      · intro h; exact ⟨h.1.symm, hb⟩
      · intro h; exact ⟨h.1.symm, by rw [h.1]; exact hb⟩
    rw [h2] at h1
    simpa [mostOf] using h1
theorem nTg_cap (c : Cp) (l : List Ch) (h : 1 ≤ c.tag) (t : ByteArray) : (nTg (makeP c l) t : Int) ≤ c.tag := by
  have h1 := make_cap c l ⟨true, t⟩ (by unfold mostOf; simpa using h)
  rw [cntM_tag] at h1
  simpa [mostOf] using h1

end Go.Proofs.YtiaklkfdgnhonaaDoor
