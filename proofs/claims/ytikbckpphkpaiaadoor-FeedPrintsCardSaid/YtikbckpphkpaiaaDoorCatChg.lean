/- Changes of the program: the ticks of a thing, each once. -/
import Derived.Test.YtikbckpphkpaiaaDoorCatApply
import Derived.Test.YtikbckpphkpaiaaDoorLay2
import Derived.Lib.SlicesCompact
namespace Go.Proofs.YtikbckpphkpaiaaDoor
open Go.Shelf Go.RowKit Go.Maps
set_option linter.unusedVariables false

theorem snoc_ind {α : Type} {p : List α → Prop} (l : List α) (nil : p []) (snoc : ∀ l a, p l → p (l ++ [a])) : p l := by
  have : ∀ r : List α, p r.reverse := by
    intro r
    induction r with
    | nil => exact nil
    | cons a r ih => rw [List.reverse_cons]; exact snoc _ _ ih
  have h := this l.reverse
  rwa [List.reverse_reverse] at h

/-- Each once, of a row in which equal ones stand together. -/
def chgStep (out : List Int) (z : Int) : List Int := if out.getLast? = some z then out else out ++ [z]
def chgL (l : List Int) : List Int := l.foldl chgStep []
theorem chgL_snoc (l : List Int) (z : Int) : chgL (l ++ [z]) = if (chgL l).getLast? = some z then chgL l else chgL l ++ [z] := by
  unfold chgL
  rw [List.foldl_append]
  rfl
theorem chgL_last (l : List Int) : (chgL l).getLast? = l.getLast? := by
  induction l using snoc_ind with
  | nil => rfl
  | snoc l z ih =>
    rw [chgL_snoc, List.getLast?_concat]
    split
    · assumption
    · rw [List.getLast?_concat]
theorem chgL_mem (l : List Int) (z : Int) : z ∈ chgL l ↔ z ∈ l := by
  induction l using snoc_ind with
  | nil => rfl
  | snoc l y ih =>
    rw [chgL_snoc]
    split
    · rename_i h
      rw [ih, List.mem_append]
      constructor
      · exact Or.inl
      · rintro (h1 | h1)
        · exact h1
        · obtain rfl : z = y := by simpa using h1
          rw [chgL_last] at h
          exact List.mem_of_getLast? h
    · rw [List.mem_append, ih, List.mem_append]
theorem chgL_len (l : List Int) : (chgL l).length ≤ l.length := by
  induction l using snoc_ind with
  | nil => exact Nat.le_refl _
  | snoc l y ih =>
    rw [chgL_snoc]
    split <;> simp <;> omega
theorem chgL_rise {l : List Int} (h : l.Pairwise (· ≤ ·)) : (chgL l).Pairwise (· < ·) := by
  induction l using snoc_ind with
  | nil => exact List.Pairwise.nil
  | snoc l y ih =>
    rw [List.pairwise_append] at h
    have ih := ih h.1
    rw [chgL_snoc]
    split
    · exact ih
    · rename_i hn
      rw [List.pairwise_append]
      refine ⟨ih, List.pairwise_singleton _ _, fun a ha b hb => ?_⟩
      obtain rfl : b = y := by simpa using hb
      cases hl : (chgL l).getLast? with
      | none => rw [List.getLast?_eq_none_iff] at hl; rw [hl] at ha; cases ha
      | some m =>
        have hm : m ≤ b := h.2.2 m (by rw [← chgL_mem]; exact List.mem_of_getLast? hl) b (by simp)
        have hne : m ≠ b := fun e => hn (by rw [hl, e])
        obtain ⟨ys, hy⟩ := List.getLast?_eq_some_iff.1 hl
        rw [hy] at ha ih
        rcases List.mem_append.1 ha with h1 | h1
        · have := (List.pairwise_append.1 ih).2.2 a h1 m (by simp)
          omega
        · obtain rfl : a = m := by simpa using h1
          omega
theorem chgL_head (l : List Int) : (chgL l).head? = l.head? := by
  induction l using snoc_ind with
  | nil => rfl
  | snoc l y ih =>
    rw [chgL_snoc]
    cases l with
    | nil => rfl
    | cons a l =>
      have : chgL (a :: l) ≠ [] := fun e => by
        have := (chgL_mem (a :: l) a).2 (by simp)
        rw [e] at this; cases this
      split
      · rw [ih]; rfl
      · cases hc : chgL (a :: l) with
        | nil => exact absurd hc this
        | cons b t => rw [hc] at ih; simpa using ih
theorem compact_upto (zs : List Int) : ∀ m, m ≤ zs.length → Lib.compactUpTo zs.toArray m = chgL (zs.take m)
  | 0, _ => by simp [Lib.compactUpTo, chgL]
  | m + 1, h => by
    rw [Lib.compactUpTo_succ, compact_upto zs m (by omega)]
    have hm : zs[m]? = some (zs[m]'(by omega)) := List.getElem?_eq_getElem _
    have hd : zs.toArray[m]! = zs[m]'(by omega) := by simp [show m < zs.length from by omega]
    rw [List.take_add_one, hm, Option.toList_some, chgL_snoc, chgL_last]
    rcases Nat.eq_zero_or_pos m with h0 | h0
    · subst h0
      rw [Lib.keeps_lt_one _ 0 (by omega), if_pos rfl, hd]
      simp
    · have hm1 : zs[m - 1]? = some (zs[m - 1]'(by omega)) := List.getElem?_eq_getElem _
      have hd1 : zs.toArray[m - 1]! = zs[m - 1]'(by omega) := by simp [show m - 1 < zs.length from by omega]
      have hlast : (zs.take m).getLast? = some (zs[m - 1]'(by omega)) := by
        rw [List.getLast?_eq_getElem?, List.length_take, Nat.min_eq_left (by omega), List.getElem?_take_of_lt (by omega), hm1]
      rw [hlast]
      by_cases he : zs[m]'(by omega) = zs[m - 1]'(by omega)
      · rw [Lib.keeps_neg h0 (by rw [hd, hd1, he]), if_neg (by simp), he, if_pos rfl, List.append_nil]
      · rw [Lib.keeps_pos (by rw [hd, hd1]; exact he), if_pos rfl, if_neg (fun e => he (Option.some.inj e).symm), hd]
theorem compact_is (zs : List Int) : Lib.compact zs = chgL zs := by
  unfold Lib.compact
  rw [compact_upto zs zs.length (Nat.le_refl _), List.take_length]

theorem frozen_own {w : World} {base e size n c : Nat} {g : Nat} {xs : List Value} (h : w.ownsRow base e size (.slice (some ⟨g, 0, none⟩) n c) n xs) : ∀ j, w.frozen? ⟨g, j, none⟩ = false := by
  intro j
  rcases h.2 with ⟨h, _⟩ | ⟨g', cap', cur, h, _, hh, _⟩
  · cases h
  · injection h with h
    injection h with h
    injection h with h
    subst h
    simp [World.frozen?, hh]


theorem int_info : (Tryd.prog.info? 3).map (fun i => (i.zero, i.size, i.bytes)) = some (some (.int .i64 0), 1, 8) := by kernel_rfl
theorem one_int (w : World) (z : Int) (t : TypeId) : RowIn (w.alloc (.cells #[.int .i64 z] t)) (w.heap.size + 1) 1 (some ⟨w.heap.size, 0, none⟩) 1 [.int .i64 z] := by
  refine ⟨rfl, Or.inr ⟨w.heap.size, 0, rfl, by omega, fun j u hu => ?_⟩⟩
  rw [(Blk.new w t _).cell]
  rw [← hu, Nat.zero_add]
  simp

/-- The ticks of a thing's events, each once. -/
def chgP (es : List Ev) (n : ByteArray) : List Int := chgL ((rowOf es n).map (·.tick))


end Go.Proofs.YtikbckpphkpaiaaDoor
