/- lives of the laws; orders of a list (plain). -/
import Derived.Test.YtikbckpphkpaiaaGreatDoorFdItems
namespace Go.Proofs.YtikbckpphkpaiaaGreatDoor
open Go.Shelf Go.RowKit Go.Maps
set_option linter.unusedVariables false

/-! ### some names there are -/
theorem wh_item {es : List Ev} {t : Int} {p : It → Bool} {y : ByteArray} (h : whB es t p y = true) : y ∈ es.map (·.item) := by
  unfold whB at h
  cases hx : atP es y t with
  | none => rw [hx] at h; cases h
  | some x =>
    have hr : rowOf es y ≠ [] := by
      intro e
      unfold atP at hx
      rw [e] at hx
      cases hx
    obtain ⟨e, he, rfl⟩ := row_ne hr
    exact List.mem_map.2 ⟨e, he, rfl⟩
theorem findR_some {l : List Ro} {n : ByteArray} {r : Ro} (h : findR l n = some r) : r ∈ l ∧ r.name = n := by
  unfold findR at h
  exact ⟨List.mem_of_find?_eq_some h, by simpa using List.find?_some h⟩
theorem findR_mem {l : List Ro} (hd : (l.map (·.name)).Nodup) {r : Ro} (h : r ∈ l) : findR l r.name = some r := by
  induction l with
  | nil => cases h
  | cons a l ih =>
    rw [List.map_cons, List.nodup_cons] at hd
    unfold findR
    rw [List.find?_cons]
    by_cases e : a.name = r.name
    · rw [decide_eq_true e]
      rcases List.mem_cons.1 h with rfl | h
      · rfl
      · exact absurd (by rw [e]; exact List.mem_map.2 ⟨r, h, rfl⟩) hd.1
    · rw [decide_eq_false e]
      rcases List.mem_cons.1 h with rfl | h
      · exact absurd rfl e
      · exact ih hd.2 h
theorem findR_isSome {l : List Ro} {n : ByteArray} : (findR l n).isSome = true ↔ n ∈ l.map (·.name) := by
  unfold findR
  rw [List.find?_isSome, List.mem_map]
  simp
theorem names_ex (es : List Ev) (t : Int) (l : List Ro) : ∃ ns, NamesD es t l ns := by
  refine ⟨_, compN_is ((es.map (·.item) ++ l.map (·.name)).filter fun y => whB es t (fun _ => true) y || (findR l y).isSome) _ (fun y => ?_)⟩
  rw [List.mem_filter]
  refine ⟨fun h => h.2, fun h => ⟨?_, h⟩⟩
  rw [List.mem_append]
  rcases (Bool.or_eq_true_iff).1 h with h | h
  · exact Or.inl (wh_item h)
  · exact Or.inr (findR_isSome.1 h)

/-! ### the order of a list plays no part -/
theorem findR_perm {l l' : List Ro} (hp : l.Perm l') (hd : (l.map (·.name)).Nodup) (n : ByteArray) : findR l n = findR l' n := by
  have hd' : (l'.map (·.name)).Nodup := (hp.map _).nodup_iff.1 hd
  cases h : findR l n with
  | none =>
    cases h' : findR l' n with
    | none => rfl
    | some r =>
      obtain ⟨h1, rfl⟩ := findR_some h'
      rw [findR_mem hd (hp.mem_iff.2 h1)] at h
      cases h
  | some r =>
    obtain ⟨h1, rfl⟩ := findR_some h
    rw [findR_mem hd' (hp.mem_iff.1 h1)]
theorem okL_perm {l l' : List Ro} (hp : l.Perm l') : okL l = okL l' := by
  rw [Bool.eq_iff_iff, okL_iff, okL_iff, hp.length_eq, (hp.map _).nodup_iff]
  simp only [hp.mem_iff]
theorem diff_perm {es : List Ev} {t n : Int} {src : ByteArray} {l l' : List Ro} {o o' : List Ev} (hp : l.Perm l') (h : IsDiff es t src n l o) (h' : IsDiff es t src n l' o') : o = o' := by
  have hg : goesD l src t n = goesD l' src t n := by unfold goesD; rw [okL_perm hp]
  cases hgo : goesD l src t n
  · rw [h.1 hgo, h'.1 (by rw [← hg]; exact hgo)]
  · have hd : (l.map (·.name)).Nodup := by
      unfold goesD at hgo
      rw [Bool.and_eq_true] at hgo
      exact ((okL_iff l).1 hgo.1).2.1
    have hf : findR l = findR l' := funext (findR_perm hp hd)
    obtain ⟨ns, hns⟩ := names_ex es t l
    have hns' : NamesD es t l' ns := by unfold NamesD at hns ⊢; rw [← hf]; exact hns
    rw [h.2 hgo ns hns, h'.2 (by rw [← hg]; exact hgo) ns hns']
    have hr : rawD es t src l ns = rawD es t src l' ns := by unfold rawD tellsOf; rw [hf]
    rw [hr]

/-! ### of what isn't wanted to change nothing is told -/
theorem diff_same {es : List Ev} {t n : Int} {src : ByteArray} {ks : List ByteArray} {o : List Ev} (hk : IsNames (whB es t (fun _ => true)) ks) (h : IsDiff es t src n ((ks.map fun k => (atP es k t).getD it0).map roOf) o) : o = [] := by
  cases hgo : goesD ((ks.map fun k => (atP es k t).getD it0).map roOf) src t n
  · exact h.1 hgo
  · have hall : ∀ k ∈ ks, ∃ x, atP es k t = some x ∧ x.listed = true ∧ x.name = k := by
      intro k hk'
      have hw := (hk.2 k).1 hk'
      unfold whB at hw
      cases hx : atP es k t with
      | none => rw [hx] at hw; cases hw
      | some x =>
        rw [hx] at hw
        simp at hw
        exact ⟨x, rfl, hw, at_name hx⟩
    have hnm : ((ks.map fun k => (atP es k t).getD it0).map roOf).map (·.name) = ks := by
      rw [List.map_map, List.map_map]
      conv => rhs; rw [← List.map_id ks]
      refine List.map_congr_left (fun k hk' => ?_)
      obtain ⟨x, h1, _, h3⟩ := hall k hk'
      simp only [Function.comp, h1, Option.getD_some, id]
      exact h3
    obtain ⟨ns, hns⟩ := names_ex es t ((ks.map fun k => (atP es k t).getD it0).map roOf)
    have hraw : rawD es t src ((ks.map fun k => (atP es k t).getD it0).map roOf) ns = [] := by
      unfold rawD
      rw [List.flatMap_eq_nil_iff]
      intro y hy
      have hyk : y ∈ ks := by
        rcases (Bool.or_eq_true_iff).1 ((hns.2 y).1 hy) with h | h
        · exact (hk.2 y).2 h
        · have := findR_isSome.1 h
          rwa [hnm] at this
      obtain ⟨x, h1, h2, h3⟩ := hall y hyk
      have hfx : findR ((ks.map fun k => (atP es k t).getD it0).map roOf) y = some (roOf x) := by
        have hd : (((ks.map fun k => (atP es k t).getD it0).map roOf).map (·.name)).Nodup := by rw [hnm]; exact hk.nodup
        have hm : roOf x ∈ (ks.map fun k => (atP es k t).getD it0).map roOf := List.mem_map.2 ⟨x, List.mem_map.2 ⟨y, hyk, by rw [h1]; rfl⟩, rfl⟩
        have := findR_mem hd hm
        rwa [show (roOf x).name = y from h3] at this
      unfold tellsOf
      rw [hfx, h1]
      simp [tell1, roOf, h2]
    have := h.2 hgo ns hns
    rw [hraw] at this
    simpa [numD] using this

/-! ### lives -/
def lvR : Ro := ⟨⟨#[120]⟩, ⟨#[109]⟩, ⟨#[]⟩, 3, 0⟩
theorem lv_goes : goesD [lvR] ⟨#[115]⟩ 5 1 = true := by kernel_rfl
theorem lv_raw : rawD [] 5 ⟨#[115]⟩ [lvR] [⟨#[120]⟩] = [⟨⟨#[115]⟩, 0, 5, 11, ⟨#[]⟩, ⟨#[120]⟩, 3, ⟨#[109, 59]⟩⟩] := by kernel_rfl
theorem lv_num : numD 1 [⟨⟨#[115]⟩, 0, 5, 11, ⟨#[]⟩, ⟨#[120]⟩, 3, ⟨#[109, 59]⟩⟩] = [⟨⟨#[115]⟩, 1, 5, 11, ⟨#[]⟩, ⟨#[120]⟩, 3, ⟨#[109, 59]⟩⟩] := by kernel_rfl
theorem lv_names : NamesD [] 5 [lvR] [⟨#[120]⟩] := by
  refine ⟨List.pairwise_singleton _ _, fun y => ?_⟩
  rw [List.mem_singleton]
  have hw : whB [] 5 (fun _ => true) y = false := rfl
  show _ ↔ (whB [] 5 (fun _ => true) y || (findR [lvR] y).isSome) = true
  rw [hw, Bool.false_or, findR_isSome]
  simp [lvR]
theorem lv_out {o : List Ev} (h : IsDiff [] 5 ⟨#[115]⟩ 1 [lvR] o) : o = [⟨⟨#[115]⟩, 1, 5, 11, ⟨#[]⟩, ⟨#[120]⟩, 3, ⟨#[109, 59]⟩⟩] := by
  have := h.2 lv_goes _ lv_names
  rw [lv_raw, if_neg (by simp), lv_num] at this
  exact this

set_option maxHeartbeats 4000000 in
set_option maxRecDepth 100000 in
theorem lives_any (w : World) (hg : GlobAt w) : Calls Tryz.prog 5 #[] w fun e w' => e = .returned (.bool true) ∧ Below w.heap.size w w' := by
  have HG := Lib.hid hg
  have HNW := Lib.hid (new_any w)
  clear hg
  go_enter Tryz.func5, Tryz.ntmps5
  go_wp2_with fail
  refine HNW.out.mono ?_
  rintro e w1 ⟨cb, F0, rfl, hc1, hf1, hb1⟩
  have HC1 := Lib.hid hc1
  have HB1 := Lib.hid hb1
  clear hc1 hf1 hb1 HNW
  obtain ⟨w2, hw2⟩ : ∃ w2, w1.alloc (.cells #[.string ⟨#[120]⟩, .string ⟨#[109]⟩, .string ⟨#[]⟩, .int .i64 0, .int .i64 3, .int .i64 0, .bool false] 31) = w2 := ⟨_, rfl⟩
  have HB2 : Hid (Below w.heap.size w w2) := Lib.hid (by rw [← hw2]; exact HB1.out.alloc HB1.out.size _)
  have HC2 : Hid (CatAt w2 cb F0 []) := Lib.hid (HC1.out.below (by rw [← hw2]; exact (Below.refl _ _).alloc (Nat.le_refl _) _))
  have HR2 : Hid (RowIn w2 w2.heap.size 7 (some ⟨w1.heap.size, 0, none⟩) 1 ([(⟨⟨#[120]⟩, ⟨#[109]⟩, ⟨#[]⟩, 0, 3, 0, false⟩ : It)].flatMap itC)) := Lib.hid (by
    rw [← hw2]
    have := it1_row w1 ⟨⟨#[120]⟩, ⟨#[109]⟩, ⟨#[]⟩, 0, 3, 0, false⟩ 31
    rw [show (w1.alloc (.cells #[.string ⟨#[120]⟩, .string ⟨#[109]⟩, .string ⟨#[]⟩, .int .i64 0, .int .i64 3, .int .i64 0, .bool false] 31)).heap.size = w1.heap.size + 1 from by simp]
    exact this)
  have HDF := Lib.hid (diff_any w2 cb F0 [] 5 ⟨#[115]⟩ 1 w2.heap.size (some ⟨w1.heap.size, 0, none⟩) [(⟨⟨#[120]⟩, ⟨#[109]⟩, ⟨#[]⟩, 0, 3, 0, false⟩ : It)] 1 1 HC2.out (by simp) (by decide) rfl HR2.out (Nat.le_refl _) (by omega) (fun x hx => by rw [List.mem_singleton] at hx; subst hx; exact ⟨by decide, by decide, by decide⟩) (HG.out.keep HB2.out (Nat.le_refl _)))
  go_wp2_with fail
  try rw [hw2]
  refine HDF.out.mono ?_
  rintro e w3 ⟨A3, c3, out, rfl, hd, _, hev, _, hb3⟩
  obtain rfl := lv_out hd
  have HB3 : Hid (Below w.heap.size w w3) := Lib.hid (HB2.out.trans (hb3.mono HB2.out.size))
  obtain ⟨g, o, rfl, hgB, hcl⟩ := hev.at (by simp)
  obtain ⟨e0, e1, e2, e3, e4, e5, e6, e7⟩ := hcl 0 _ rfl
  rw [Nat.zero_mul, Nat.add_zero] at e0 e1 e2 e3 e4 e5 e6 e7
  have hes := eq_ev_self ⟨#[115]⟩ 1 5 11 ⟨#[]⟩ ⟨#[120]⟩ 3 ⟨#[109, 59]⟩
  clear hd hev hb3 hcl HDF hw2
  go_wp2_with fail
  go_ret
  exact ⟨rfl, HB3.out⟩

end Go.Proofs.YtikbckpphkpaiaaGreatDoor
