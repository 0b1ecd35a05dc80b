/- Tags between commas, marks, counts, the slate: plain, no program in sight. -/
import Derived.Test.YtiaklkfdgnhonaaDoorMkMap
namespace Go.Proofs.YtiaklkfdgnhonaaDoor
open Go.Lib
set_option linter.unusedVariables false

/-! ### parts, from a place on -/
theorem parts_hit (s : ByteArray) (i : Nat) (h : indexB s ⟨#[44]⟩ = i) : parts s = s.extract 0 i :: parts (s.extract (i + 1) s.size) := by
  unfold parts
  rw [countB_hit s ⟨#[44]⟩ i (by decide) h, Nat.add_comm 1, splitB_hit _ 0 _ s i h]
  rfl
theorem parts_miss (s : ByteArray) (h : indexB s ⟨#[44]⟩ = -1) : parts s = [s] := by
  unfold parts
  exact splitB_miss _ _ _ _ h

theorem occ_comma (l : List UInt8) (j : Nat) : occAt l [44] j = (l[j]? == some 44) := by
  unfold occAt
  rcases h : l.drop j with _ | ⟨b, t⟩
  · have : l[j]? = none := by rw [List.getElem?_eq_none_iff]; exact List.drop_eq_nil_iff.1 h
    simp [this]
  · have : l[j]? = some b := by
      have h2 : (l.drop j)[0]? = some b := by rw [h]; rfl
      rw [List.getElem?_drop] at h2
      simpa using h2
    rw [this]
    simp only [List.isPrefixOf, Bool.and_true]
    by_cases e : b = 44
    · subst e; rfl
    · have e1 : (44 == b) = false := by simpa using Ne.symm e
      have e2 : (some b == some (44 : UInt8)) = false := by simpa using e
      rw [e1, e2]

theorem ext_bytes {a b : ByteArray} (h : a.data.toList = b.data.toList) : a = b := by
  cases a; cases b
  exact congrArg _ (Array.toList_inj.1 h)
theorem cut_cut (s : ByteArray) (a b : Nat) : (s.extract a s.size).extract b (s.extract a s.size).size = s.extract (a + b) s.size := by
  apply ext_bytes
  rw [extract_to_end, extract_to_end, extract_to_end, List.drop_drop]
theorem cut_front (s : ByteArray) (a b : Nat) (h : a ≤ b) : (s.extract a s.size).extract 0 (b - a) = s.extract a b := by
  apply ext_bytes
  rw [extract_from_zero, extract_to_end, extract_data]

/-- No comma from a up to i, one at i. -/
theorem parts_comma (s : ByteArray) (a i : Nat) (ha : a ≤ i) (hi : s.data.toList[i]? = some 44) (hno : ∀ j, a ≤ j → j < i → s.data.toList[j]? ≠ some 44) :
    parts (s.extract a s.size) = s.extract a i :: parts (s.extract (i + 1) s.size) := by
  have hx : indexB (s.extract a s.size) ⟨#[44]⟩ = ((i - a : Nat) : Int) := by
    refine index_first (sub := [44]) ?_ ?_ ?_
    · have := (List.getElem?_eq_some_iff.1 hi).1
      rw [extract_to_end, List.length_drop]; omega
    · rw [occ_comma, extract_to_end, List.getElem?_drop, show a + (i - a) = i by omega, hi]; rfl
    · intro j hj
      rw [occ_comma, extract_to_end, List.getElem?_drop]
      have := hno (a + j) (by omega) (by omega)
      simpa using this
  rw [parts_hit _ _ hx, cut_front s a i ha, cut_cut, show a + (i - a + 1) = i + 1 by omega]
theorem parts_end (s : ByteArray) (a : Nat) (hno : ∀ j, a ≤ j → s.data.toList[j]? ≠ some 44) : parts (s.extract a s.size) = [s.extract a s.size] := by
  refine parts_miss _ ?_
  refine index_none (sub := [44]) ?_
  intro j hj
  rw [occ_comma, extract_to_end, List.getElem?_drop]
  have := hno (a + j) (by omega)
  simpa using this
theorem cut_zero (s : ByteArray) : s.extract 0 s.size = s := by
  apply ext_bytes
  rw [extract_to_end]; rfl

/-! ### tags and marks -/
def addT (acc : List ByteArray) (t : ByteArray) : List ByteArray := if t = ⟨#[]⟩ ∨ t ∈ acc then acc else acc ++ [t]
def tagsP (s : ByteArray) : List ByteArray := (parts s).foldl addT []

theorem addT_len (acc : List ByteArray) (t : ByteArray) : (addT acc t).length ≤ acc.length + 1 := by
  unfold addT; split <;> simp
theorem addT_mem {acc : List ByteArray} {t u : ByteArray} (h : u ∈ addT acc t) : u ∈ acc ∨ u = t ∧ u ≠ ⟨#[]⟩ := by
  unfold addT at h
  split at h
  · exact Or.inl h
  · rename_i hn
    rcases List.mem_append.1 h with h | h
    · exact Or.inl h
    · simp at h
      exact Or.inr ⟨h, fun e => hn (Or.inl (by rw [← h]; exact e))⟩
theorem foldT_mem : ∀ (P : List ByteArray) (acc : List ByteArray) (u : ByteArray), u ∈ P.foldl addT acc → u ∈ acc ∨ u ∈ P ∧ u ≠ ⟨#[]⟩
  | [], acc, u, h => Or.inl h
  | t :: P, acc, u, h => by
    rcases foldT_mem P _ u h with h | h
    · rcases addT_mem h with h | ⟨rfl, h2⟩
      · exact Or.inl h
      · exact Or.inr ⟨List.mem_cons_self .., h2⟩
    · exact Or.inr ⟨List.mem_cons_of_mem _ h.1, h.2⟩
theorem addT_nodup {acc : List ByteArray} (h : acc.Nodup) (t : ByteArray) : (addT acc t).Nodup := by
  unfold addT
  split
  · exact h
  · rename_i hn
    rw [List.nodup_append]
    refine ⟨h, by simp, fun a ha b hb e => ?_⟩
    simp at hb
    subst hb e
    exact hn (Or.inr ha)
theorem foldT_nodup : ∀ (P acc : List ByteArray), acc.Nodup → (P.foldl addT acc).Nodup
  | [], _, h => h
  | t :: P, acc, h => foldT_nodup P _ (addT_nodup h t)
theorem foldT_len : ∀ (P acc : List ByteArray), (P.foldl addT acc).length ≤ acc.length + P.length
  | [], _ => by simp
  | t :: P, acc => by
    have := foldT_len P (addT acc t)
    have := addT_len acc t
    simp only [List.foldl_cons, List.length_cons]; omega
theorem tagsP_nodup (s : ByteArray) : (tagsP s).Nodup := foldT_nodup _ _ List.nodup_nil
theorem tagsP_len (s : ByteArray) : (tagsP s).length ≤ s.size + 1 := by
  have := foldT_len (parts s) []
  have := parts_le s
  unfold tagsP
  simp only [List.length_nil, Nat.zero_add] at *
  omega
theorem tagsP_ne {s t : ByteArray} (h : t ∈ tagsP s) : t ≠ ⟨#[]⟩ := by
  rcases foldT_mem _ _ _ h with h | h
  · simp at h
  · exact h.2
theorem tagsP_size {s t : ByteArray} (h : t ∈ tagsP s) : t.size ≤ s.size := by
  rcases foldT_mem _ _ _ h with h | h
  · simp at h
  · exact parts_size s t h.1

def tg (t : ByteArray) : Mk := ⟨true, t⟩
theorem tg_inj {a b : ByteArray} (h : tg a = tg b) : a = b := by unfold tg at h; injection h
theorem startM_tag (m t : ByteArray) : tg t ∉ startM m := by
  unfold startM
  split
  · simp
  · intro h; simp [tg] at h
theorem addM_tags (m : ByteArray) (acc : List ByteArray) (t : ByteArray) : addM (startM m ++ acc.map tg) t = startM m ++ (addT acc t).map tg := by
  unfold addM addT
  have e : (⟨true, t⟩ : Mk) ∈ startM m ++ acc.map tg ↔ t ∈ acc := by
    rw [List.mem_append]
    constructor
    · rintro (h | h)
      · exact absurd h (startM_tag m t)
      · obtain ⟨u, hu, hu2⟩ := List.mem_map.1 h
        exact tg_inj hu2 ▸ hu
    · intro h; exact Or.inr (List.mem_map.2 ⟨t, h, rfl⟩)
  by_cases h : t = ⟨#[]⟩ ∨ t ∈ acc
  · rw [if_pos h, if_pos (h.imp_right e.2)]
  · rw [if_neg h, if_neg (fun h2 => h (h2.imp_right e.1))]
    simp [tg]
theorem foldM_tags (m : ByteArray) : ∀ (P acc : List ByteArray), P.foldl addM (startM m ++ acc.map tg) = startM m ++ (P.foldl addT acc).map tg
  | [], acc => rfl
  | t :: P, acc => by rw [List.foldl_cons, addM_tags, foldM_tags m P, List.foldl_cons]
theorem marksP_eq (x : Ch) : marksP x = startM x.maker ++ (tagsP x.tags).map tg := by
  have := foldM_tags x.maker (parts x.tags) []
  simp only [List.map_nil, List.append_nil] at this
  exact this
theorem mem_start (m n : ByteArray) (b : Bool) : (⟨b, n⟩ : Mk) ∈ startM m ↔ b = false ∧ n = m ∧ m ≠ ⟨#[]⟩ := by
  unfold startM
  split
  · rename_i h; simp [h]
  · rename_i h; simp [h]
theorem mem_maker (x : Ch) (m : ByteArray) : (⟨false, m⟩ : Mk) ∈ marksP x ↔ m = x.maker ∧ x.maker ≠ ⟨#[]⟩ := by
  rw [marksP_eq, List.mem_append, mem_start]
  constructor
  · rintro (h | h)
    · exact h.2
    · obtain ⟨u, _, hu⟩ := List.mem_map.1 h; simp [tg] at hu
  · intro h; exact Or.inl ⟨rfl, h⟩
theorem mem_tag (x : Ch) (t : ByteArray) : (⟨true, t⟩ : Mk) ∈ marksP x ↔ t ∈ tagsP x.tags := by
  rw [marksP_eq, List.mem_append, mem_start]
  constructor
  · rintro (h | h)
    · simp at h
    · obtain ⟨u, hu, hu2⟩ := List.mem_map.1 h
      exact tg_inj hu2 ▸ hu
  · intro h; exact Or.inr (List.mem_map.2 ⟨t, h, rfl⟩)
theorem marksP_nodup (x : Ch) : (marksP x).Nodup := by
  rw [marksP_eq, List.nodup_append]
  refine ⟨?_, ?_, ?_⟩
  · unfold startM; split <;> simp
  · exact List.pairwise_map.2 ((tagsP_nodup x.tags).imp fun h e => h (tg_inj e))
  · intro a ha b hb e
    obtain ⟨u, _, rfl⟩ := List.mem_map.1 hb
    exact startM_tag _ _ (e ▸ ha)
theorem marksP_len (x : Ch) : (marksP x).length ≤ x.tags.size + 2 := by
  rw [marksP_eq, List.length_append, List.length_map]
  have := startM_len x.maker
  have := tagsP_len x.tags
  omega
theorem marksP_size {x : Ch} {m : Mk} (h : m ∈ marksP x) : m.name.size ≤ max x.maker.size x.tags.size := by
  obtain ⟨b, n⟩ := m
  cases b
  · rw [mem_maker] at h; rw [h.1]; exact Nat.le_max_left _ _
  · rw [mem_tag] at h; exact Nat.le_trans (tagsP_size h) (Nat.le_max_right _ _)

/-! ### counts -/
/-- How many of s have the mark m. -/
def cntM (s : List Ch) (m : Mk) : Nat := s.countP fun y => decide (m ∈ marksP y)
theorem cntM_nil (m : Mk) : cntM [] m = 0 := rfl
theorem cntM_snoc (s : List Ch) (x : Ch) (m : Mk) : cntM (s ++ [x]) m = cntM s m + if m ∈ marksP x then 1 else 0 := by
  unfold cntM
  rw [List.countP_append]
  by_cases h : m ∈ marksP x <;> simp [h]
theorem cntM_le (s : List Ch) (m : Mk) : cntM s m ≤ s.length := List.countP_le_length
theorem foldBump : ∀ (l : List Mk) (f : Mk → Nat) (m : Mk), l.Nodup → l.foldl bumpF f m = f m + if m ∈ l then 1 else 0
  | [], f, m, _ => by simp
  | a :: l, f, m, h => by
    obtain ⟨h1, h2⟩ := List.nodup_cons.1 h
    rw [List.foldl_cons, foldBump l _ m h2]
    unfold bumpF
    by_cases e : m = a
    · subst e; simp [h1]
    · by_cases e2 : m ∈ l <;> simp [e, e2]
theorem foldBump_cnt (s : List Ch) (x : Ch) : (marksP x).foldl bumpF (cntM s) = cntM (s ++ [x]) := by
  funext m
  rw [foldBump _ _ _ (marksP_nodup x), cntM_snoc]

end Go.Proofs.YtiaklkfdgnhonaaDoor
