/- CatalogFinds: the plain part. -/
import Derived.Test.YtikbckpphkpaiaaDoorRefNames
namespace Go.Proofs.YtikbckpphkpaiaaDoor
open Go.Shelf Go.RowKit Go.Maps
set_option linter.unusedVariables false

theorem at_name {es : List Ev} {n : ByteArray} {t : Int} {x : It} (h : atP es n t = some x) : x.name = n := by
  unfold atP at h
  obtain ⟨s, hs, rfl⟩ := Option.map_eq_some_iff.1 h
  have h1 : s ∈ rowOf es n := (List.takeWhile_sublist _).subset (List.mem_of_getLast? hs)
  exact fold_name n _ (fun e he => of_decide_eq_true (List.mem_filter.1 he).2) [] (fun s hs => by cases hs) s h1

theorem semi_rest (r : ByteArray) : restP (⟨#[59]⟩ ++ r) = r := by
  have h : semiAt (⟨#[59]⟩ ++ r) 0 := ⟨by simp, fun j b hj => by omega⟩
  rw [(cut_hit h).2.1]
  apply ba_eq
  simp
  exact List.take_of_length_le (by simp; show r.size ≤ 1 + r.size - 1; omega)
theorem tagsOf_is (r : ByteArray) : tagsOf r = if r = ⟨#[]⟩ then [] else parts r := by
  unfold tagsOf evTags
  rw [semi_rest]
theorem tagsOf_rest (s : ByteArray) : tagsOf (restP s) = evTags s := by
  rw [tagsOf_is]; rfl
theorem rise_nodup : ∀ (l : List ByteArray), riseB l = true → l.Pairwise ltN
  | [], _ => List.Pairwise.nil
  | [x], _ => List.pairwise_singleton _ _
  | x :: y :: l, h => by
    simp only [riseB, Bool.and_eq_true] at h
    have ih := rise_nodup (y :: l) h.2.2
    have hxy : ltN x y := (less_iff x y).1 h.2.1
    rw [List.pairwise_cons]
    refine ⟨fun z hz => ?_, ih⟩
    rcases List.mem_cons.1 hz with rfl | hz
    · exact hxy
    · exact ltN_trans hxy ((List.pairwise_cons.1 ih).1 z hz)
theorem fold_tags2 (P : List Ev) (l : List Ev) (hl : ∀ e ∈ l, e ∈ P) : ∀ r : List St, (∀ s ∈ r, s.item.tags = ⟨#[]⟩ ∨ ∃ e ∈ P, e.kind = 11 ∧ s.item.tags = restP e.text) → ∀ s ∈ l.foldl rowStep r, s.item.tags = ⟨#[]⟩ ∨ ∃ e ∈ P, e.kind = 11 ∧ s.item.tags = restP e.text := by
  induction l with
  | nil => intro r hr; exact hr
  | cons e l ih =>
    intro r hr
    rw [List.foldl_cons]
    refine ih (fun x hx => hl x (List.mem_cons_of_mem _ hx)) _ (fun s hs => ?_)
    unfold rowStep at hs
    rcases List.mem_append.1 hs with hs | hs
    · exact hr s hs
    · obtain rfl : s = _ := by simpa using hs
      have h0 : (r.getLast?.getD (st0 e.item)).item.tags = ⟨#[]⟩ ∨ ∃ e ∈ P, e.kind = 11 ∧ (r.getLast?.getD (st0 e.item)).item.tags = restP e.text := by
        cases hl : r.getLast? with
        | none => exact Or.inl rfl
        | some y => exact hr y (List.mem_of_getLast? hl)
      unfold stepSt
      split
      · rename_i hk
        exact Or.inr ⟨e, hl e (by simp), hk, rfl⟩
      · split
        · rcases h0 with h | ⟨e', h1, h2, h3⟩
          · exact Or.inl h
          · exact Or.inr ⟨e', h1, h2, by
              cases hl2 : r.getLast? with
              | none => rw [hl2] at h3; exact h3
              | some y => rw [hl2] at h3; exact h3⟩
        · rcases h0 with h | ⟨e', h1, h2, h3⟩
          · exact Or.inl h
          · exact Or.inr ⟨e', h1, h2, by
              cases hl2 : r.getLast? with
              | none => rw [hl2] at h3; exact h3
              | some y => rw [hl2] at h3; exact h3⟩
theorem cat_list {e : Ev} (h : catB e = true) (hk : e.kind = 11) : riseB (evTags e.text) = true := by
  unfold catB mayB kindB at h
  simp [hk] at h
  have := h.2.2.2.2.2.2.2
  unfold listB at this
  simp only [Bool.and_eq_true] at this
  exact this.2.2.2
theorem at_rise {es : List Ev} (hm : ∀ e ∈ es, catB e = true) {n : ByteArray} {t : Int} {x : It} (h : atP es n t = some x) : (tagsOf x.tags).Pairwise ltN := by
  unfold atP at h
  obtain ⟨s, hs, rfl⟩ := Option.map_eq_some_iff.1 h
  have h1 : s ∈ rowOf es n := (List.takeWhile_sublist _).subset (List.mem_of_getLast? hs)
  rcases fold_tags2 es (ofN es n) (fun e he => (List.mem_filter.1 he).1) [] (fun s hs => by cases hs) s h1 with h2 | ⟨e, he, hk, h2⟩
  · rw [h2, tagsOf_is, if_pos rfl]; exact List.Pairwise.nil
  · rw [h2, tagsOf_rest]; exact rise_nodup _ (cat_list (hm e he) hk)

/-- Rows in blocks apart. -/
def Apart (a b : Value) : Prop := ∀ g, a.ownBlock = some g → b.ownBlock ≠ some g
theorem Apart.symm {a b : Value} (h : Apart a b) : Apart b a := fun g hb ha => h g ha hb
theorem apart_step {w : World} {o : Obj} {base e size m : Nat} {a a' b : Value} {ys : List Value} (h : Apart a b) (hb : w.ownsRow base e size b m ys) (hv : a'.ownBlock = a.ownBlock ∨ a'.ownBlock = some (w.alloc o).heap.size) : Apart a' b := fun g hg hb' => by
  rcases hv with hv | hv
  · exact h g (hv.symm.trans hg) hb'
  · rw [hv] at hg
    have h1 := Option.some.inj hg
    have h2 := (hb.lt _ hb').2
    rw [World.size_alloc] at h1
    omega
theorem owns_step {w w' : World} {o : Obj} {base e size m : Nat} {a b : Value} {ys : List Value} (h : Apart a b) (hb : w.ownsRow base e size b m ys) (hg : (w.alloc o).grownBy w' a.ownBlock) : w'.ownsRow base e size b m ys := by
  refine owns_kept (hb.alloc o) (Kept.grown (S := fun q => a.ownBlock = some q) (Kept.refl _ (w.alloc o)) hg (fun j hj => Or.inl hj)) (fun g hg' e => h g e hg')
theorem filt_is {es : List Ev} {t : Int} {ns : List ByteArray} (h : IsNames (whB es t (fun x => true)) ns) (p : It → Bool) : IsNames (whB es t p) (ns.filter fun n => p ((atP es n t).getD it0)) := by
  refine ⟨h.1.sublist List.filter_sublist, fun n => ?_⟩
  rw [List.mem_filter, h.2]
  unfold whB
  cases atP es n t with
  | none => simp
  | some x => simp
theorem take_snoc {α : Type} {l : List α} {k : Nat} {x : α} (h : l[k]? = some x) : l.take (k + 1) = l.take k ++ [x] := by rw [List.take_add_one, h]; rfl
/-- The map of a set of names. -/
def setG (ns : List ByteArray) : ByteArray → Option Value := fun n => if memB n ns then some (.bool true) else none
theorem setG_upd (ns : List ByteArray) (x : ByteArray) : ∀ n, updG (setG ns) x (.bool true) n = setG (ns ++ [x]) n := fun n => by
  unfold updG setG memB
  rw [List.any_append]
  by_cases h : n = x
  · subst h; simp
  · have h2 : ¬ x = n := fun e => h e.symm
    rw [if_neg h]
    have h3 : ([x].any fun y => decide (y = n)) = false := by simp [h2]
    rw [h3, Bool.or_false]

end Go.Proofs.YtikbckpphkpaiaaDoor
