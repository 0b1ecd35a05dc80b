/- The document's things of a basket, plain. -/
import Derived.Test.YtcgangmmehbdoaaDoorBkQ
import Derived.Test.YtcgangmmehbdoaaDoorStr
import Derived.Test.YtcgangmmehbdoaaDoorSlices
namespace Go.Proofs.YtcgangmmehbdoaaDoor
open Go.Shelf Go.RowKit Go.Maps
set_option linter.unusedVariables false

def hasC (h : ByteArray × Int) : List Value := [.string h.1, .int .i64 h.2]
theorem hasC_len (h : ByteArray × Int) : (hasC h).length = 2 := rfl
def updH (s : ByteArray) (t : Int) (h : ByteArray × Int) : ByteArray × Int := if h.1 = s ∧ t < h.2 then (h.1, t) else h
theorem updH_fst (s : ByteArray) (t : Int) (h : ByteArray × Int) : (updH s t h).1 = h.1 := by unfold updH; split <;> rfl
theorem updH_ne {s : ByteArray} {t : Int} {h : ByteArray × Int} (hn : h.1 ≠ s) : updH s t h = h := by unfold updH; rw [if_neg (fun e => hn e.1)]
def inH (hs : List (ByteArray × Int)) (s : ByteArray) : Bool := memB s (hs.map (·.1))
theorem inH_iff (hs : List (ByteArray × Int)) (s : ByteArray) : inH hs s = true ↔ ∃ h ∈ hs, h.1 = s := by
  unfold inH
  rw [memB_iff, List.mem_map]
def addH (hs : List (ByteArray × Int)) (s : ByteArray) (t : Int) : List (ByteArray × Int) := if inH hs s then hs.map (updH s t) else hs ++ [(s, t)]
theorem addH_len (hs : List (ByteArray × Int)) (s : ByteArray) (t : Int) : (addH hs s t).length ≤ hs.length + 1 := by
  unfold addH
  split <;> simp
def selB (p : ByteArray) (fr tt : Int) (e : Ev) : Bool := buyB e && decide (e.person = p ∧ fr ≤ e.tick ∧ e.tick ≤ tt)
theorem selB_iff (p : ByteArray) (fr tt : Int) (e : Ev) : selB p fr tt e = true ↔ buyB e = true ∧ e.person = p ∧ fr ≤ e.tick ∧ e.tick ≤ tt := by
  unfold selB
  rw [Bool.and_eq_true, decide_eq_true_eq]
def thR (r : List Ev) : List (ByteArray × Int) := r.foldl (fun hs e => addH hs e.item e.tick) []
theorem thR_snoc (r : List Ev) (e : Ev) : thR (r ++ [e]) = addH (thR r) e.item e.tick := by
  unfold thR; rw [List.foldl_append]; rfl
theorem thR_len (r : List Ev) : (thR r).length ≤ r.length := by
  refine snocInd (p := fun r => (thR r).length ≤ r.length) r (Nat.le_refl _) (fun r e ih => ?_)
  rw [thR_snoc, List.length_append]
  have := addH_len (thR r) e.item e.tick
  simp; omega
def thP (l : List Ev) (p : ByteArray) (fr tt : Int) : List (ByteArray × Int) := thR (l.filter (selB p fr tt))
theorem thP_snoc (l : List Ev) (p : ByteArray) (fr tt : Int) (e : Ev) : thP (l ++ [e]) p fr tt = if selB p fr tt e then addH (thP l p fr tt) e.item e.tick else thP l p fr tt := by
  unfold thP
  rw [List.filter_append]
  by_cases h : selB p fr tt e = true
  · rw [if_pos h, ← thR_snoc]
    congr 2
    simp [h]
  · rw [if_neg h]
    have : [e].filter (selB p fr tt) = [] := by simp [h]
    rw [this, List.append_nil]
theorem thP_len (l : List Ev) (p : ByteArray) (fr tt : Int) : (thP l p fr tt).length ≤ l.length := Nat.le_trans (thR_len _) (List.length_filter_le _ _)

/-- Since when it is there. -/
def sinP (hs : List (ByteArray × Int)) (x : ByteArray) : Option Int := (hs.find? fun h => decide (h.1 = x)).map (·.2)
theorem sin_add (hs : List (ByteArray × Int)) (s : ByteArray) (t : Int) (x : ByteArray) : sinP (addH hs s t) x = if x = s then some (match sinP hs s with | none => t | some a => min a t) else sinP hs x := by
  unfold addH
  by_cases hi : inH hs s = true
  · rw [if_pos hi]
    unfold sinP
    rw [List.find?_map]
    have he : ((fun h : ByteArray × Int => decide (h.1 = x)) ∘ updH s t) = fun h => decide (h.1 = x) := by
      funext h
      show decide ((updH s t h).1 = x) = _
      rw [updH_fst]
    rw [he]
    by_cases hx : x = s
    · subst hx
      rw [if_pos rfl]
      cases hf : hs.find? fun h => decide (h.1 = x) with
      | none =>
        obtain ⟨h, hh, e⟩ := (inH_iff _ _).1 hi
        have := List.find?_eq_none.1 hf h hh
        simp [e] at this
      | some h =>
        have e := List.find?_some hf
        rw [decide_eq_true_eq] at e
        simp only [Option.map_some]
        unfold updH
        congr 1
        by_cases hlt : t < h.2
        · rw [if_pos ⟨e, hlt⟩]
          show t = min h.2 t
          omega
        · rw [if_neg (fun q => hlt q.2)]
          show h.2 = min h.2 t
          omega
    · rw [if_neg hx]
      cases hf : hs.find? fun h => decide (h.1 = x) with
      | none => rfl
      | some h =>
        have e := List.find?_some hf
        rw [decide_eq_true_eq] at e
        simp only [Option.map_some]
        rw [updH_ne (fun q => hx (by rw [← e, q]))]
  · rw [if_neg hi]
    have hn : hs.find? (fun h => decide (h.1 = s)) = none := by
      rw [List.find?_eq_none]
      intro h hh e
      rw [decide_eq_true_eq] at e
      exact hi ((inH_iff _ _).2 ⟨h, hh, e⟩)
    unfold sinP
    rw [List.find?_append]
    by_cases hx : x = s
    · subst hx
      rw [if_pos rfl, hn]
      simp
    · rw [if_neg hx]
      have : ¬ s = x := fun e => hx e.symm
      simp [this]
theorem min_snoc (l : List Int) (t : Int) : (l ++ [t]).min? = some (match l.min? with | none => t | some a => min a t) := by
  cases h : l.min? with
  | none =>
    rw [List.min?_eq_none_iff] at h
    subst h
    rfl
  | some a =>
    rw [List.min?_eq_some_iff] at h ⊢
    refine ⟨?_, fun b hb => ?_⟩
    · rcases Int.le_total a t with h1 | h1
      · have : min a t = a := by omega
        simp only [this]
        exact List.mem_append.2 (Or.inl h.1)
      · have : min a t = t := by omega
        simp only [this]
        simp
    · rcases List.mem_append.1 hb with hb | hb
      · have := h.2 b hb
        show min a t ≤ b
        omega
      · obtain rfl : b = t := by simpa using hb
        show min a b ≤ b
        omega
theorem sin_thR (r : List Ev) : ∀ x, sinP (thR r) x = ((r.filter fun e => decide (e.item = x)).map (·.tick)).min? := by
  refine snocInd (p := fun r => ∀ x, sinP (thR r) x = ((r.filter fun e => decide (e.item = x)).map (·.tick)).min?) r (fun x => rfl) (fun r e ih x => ?_)
  rw [thR_snoc, sin_add, List.filter_append, List.map_append]
  by_cases hx : x = e.item
  · subst hx
    rw [if_pos rfl]
    have : ([e].filter fun e' => decide (e'.item = e.item)).map (·.tick) = [e.tick] := by simp
    rw [this, min_snoc, ih]
  · rw [if_neg hx]
    have h2 : ¬ e.item = x := fun q => hx q.symm
    have : ([e].filter fun e' => decide (e'.item = x)).map (·.tick) = [] := by simp [h2]
    rw [this, List.append_nil, ih]
theorem sin_thP (l : List Ev) (p : ByteArray) (fr tt : Int) (x : ByteArray) : sinP (thP l p fr tt) x = basP (ownB l p) (fr, tt) x := by
  unfold thP basP ownB
  rw [sin_thR, List.filter_filter, List.filter_filter]
  congr 2
  refine List.filter_congr (fun e _ => ?_)
  rw [Bool.eq_iff_iff]
  simp only [selB, Bool.and_eq_true, decide_eq_true_eq]
  constructor
  · rintro ⟨h1, h2, h3, h4, h5⟩; exact ⟨⟨h1, h4, h5⟩, h2, h3⟩
  · rintro ⟨⟨h1, h4, h5⟩, h2, h3⟩; exact ⟨h1, h2, h3, h4, h5⟩

/-! ### the round under way -/
def midH (s : ByteArray) (t : Int) (hs : List (ByteArray × Int)) (j : Nat) : List (ByteArray × Int) := (hs.take j).map (updH s t) ++ hs.drop j
theorem mid_0 (s : ByteArray) (t : Int) (hs : List (ByteArray × Int)) : midH s t hs 0 = hs := by simp [midH]
theorem mid_end {s : ByteArray} {t : Int} {hs : List (ByteArray × Int)} {m : Nat} (hm : hs.length = m) : midH s t hs m = hs.map (updH s t) := by
  unfold midH
  rw [List.take_of_length_le (by omega), List.drop_eq_nil_of_le (by omega), List.append_nil]
theorem mid_at {s : ByteArray} {t : Int} {hs : List (ByteArray × Int)} {j : Nat} {h : ByteArray × Int} (hj : hs[j]? = some h) : (midH s t hs j)[j]? = some h := by
  have hl : j < hs.length := (List.getElem?_eq_some_iff.1 hj).1
  unfold midH
  rw [List.getElem?_append_right (by simp; omega)]
  simp only [List.length_map, List.length_take, List.getElem?_drop]
  rw [← hj]
  congr 1
  omega
theorem drop_at {α : Type} {l : List α} {j : Nat} {h : α} (hj : l[j]? = some h) : l.drop j = h :: l.drop (j + 1) := by
  obtain ⟨hl, rfl⟩ := List.getElem?_eq_some_iff.1 hj
  exact List.drop_eq_getElem_cons hl
theorem mid_same {s : ByteArray} {t : Int} {hs : List (ByteArray × Int)} {j : Nat} {h : ByteArray × Int} (hj : hs[j]? = some h) (hu : updH s t h = h) : midH s t hs (j + 1) = midH s t hs j := by
  unfold midH
  rw [take_snoc hj, drop_at hj, List.map_append]
  simp [hu]
theorem mid_set {s : ByteArray} {t : Int} {hs : List (ByteArray × Int)} {j : Nat} {h : ByteArray × Int} (hj : hs[j]? = some h) (hu : updH s t h = (h.1, t)) : (midH s t hs (j + 1)).flatMap hasC = ((midH s t hs j).flatMap hasC).set (j * 2 + 1) (.int .i64 t) := by
  have hl : j < hs.length := (List.getElem?_eq_some_iff.1 hj).1
  unfold midH
  rw [take_snoc hj, drop_at hj, List.map_append]
  have hlen : (((hs.take j).map (updH s t)).flatMap hasC).length = j * 2 := by
    rw [flat_len hasC 2 hasC_len]; simp; omega
  simp only [List.flatMap_append, List.flatMap_cons, List.map_cons, List.map_nil, hu, List.flatMap_nil, List.append_nil]
  rw [List.set_append_right _ _ (show (((hs.take j).map (updH s t)).flatMap hasC).length ≤ j * 2 + 1 by omega)]
  rw [hlen]
  have : j * 2 + 1 - j * 2 = 1 := by omega
  rw [this]
  simp [hasC]
theorem inH_snoc {hs : List (ByteArray × Int)} {j : Nat} {h : ByteArray × Int} (s : ByteArray) (hj : hs[j]? = some h) : inH (hs.take (j + 1)) s = (inH (hs.take j) s || decide (h.1 = s)) := by
  rw [take_snoc hj, Bool.eq_iff_iff, inH_iff, Bool.or_eq_true, inH_iff, decide_eq_true_eq]
  constructor
  · rintro ⟨h', hh, e⟩
    rcases List.mem_append.1 hh with hh | hh
    · exact Or.inl ⟨h', hh, e⟩
    · obtain rfl : h' = h := by simpa using hh
      exact Or.inr e
  · rintro (⟨h', hh, e⟩ | e)
    · exact ⟨h', List.mem_append.2 (Or.inl hh), e⟩
    · exact ⟨h, by simp, e⟩
theorem upd_not {hs : List (ByteArray × Int)} {s : ByteArray} {t : Int} (h : inH hs s = false) : hs.map (updH s t) = hs := by
  conv => rhs; rw [← List.map_id hs]
  refine List.map_congr_left (fun a ha => updH_ne (fun e => ?_))
  rw [(inH_iff _ _).2 ⟨a, ha, e⟩] at h
  cases h

end Go.Proofs.YtcgangmmehbdoaaDoor
