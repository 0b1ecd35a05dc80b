/- CrowdApart, plain: what a crowd tells of a person hangs on that person's rows alone. -/
import Derived.Test.YtnkglbiakjnfjaaDoorCrMakers
import Derived.Test.YtnkglbiakjnfjaaDoorCrSums
namespace Go.Proofs.YtnkglbiakjnfjaaDoor
open Go.Shelf Go.RowKit Go.Maps
set_option linter.unusedVariables false

theorem DdsIs.consA {w : World} {r : Rd} {x : Rw} {l : List Rd} {xs : List Rw} (hr : DdIs w r x) (h : DdsIs w l xs) : DdsIs w (r :: l) (x :: xs) := by
  refine ⟨by simp [h.1], fun j r' x' h1 h2 => ?_⟩
  cases j with
  | zero => simp at h1 h2; subst h1 h2; exact hr
  | succ j => exact h.2 j r' x' (by simpa using h1) (by simpa using h2)
theorem DdsIs.invA {w : World} {r : Rd} {x : Rw} {l : List Rd} {xs : List Rw} (h : DdsIs w (r :: l) (x :: xs)) : DdIs w r x ∧ DdsIs w l xs :=
  ⟨h.2 0 r x rfl rfl, by simpa using h.1, fun j r' x' h1 h2 => h.2 (j + 1) r' x' (by simpa using h1) (by simpa using h2)⟩
theorem DdsIs.ownA {w : World} {p : ByteArray} : ∀ {l : List Rd} {xs : List Rw}, DdsIs w l xs → DdsIs w (ownR l p) (ownC xs p)
  | [], [], _ => ⟨rfl, fun j r x h => by simp [ownR] at h⟩
  | [], x :: xs, h => by have := h.1; simp at this
  | r :: l, [], h => by have := h.1; simp at this
  | r :: l, x :: xs, h => by
    obtain ⟨h1, h2⟩ := h.invA
    have ih := DdsIs.ownA (p := p) h2
    unfold ownR ownC at ih ⊢
    rw [List.filter_cons, List.filter_cons, h1.1]
    by_cases e : x.e.person = p
    · simp only [e, decide_true, if_true]
      exact DdsIs.consA h1 ih
    · simp only [e, decide_false]
      exact ih
/-- Rows rise. -/
def Rising (l : List Rw) : Prop := l.Pairwise fun x y => cmpE y.e x.e = 1
theorem last_mem {l : List Rw} {e : Ev} (h : lastE l = some e) : ∃ l' x, l = l' ++ [x] ∧ x.e = e := by
  unfold lastE at h
  cases hl : l.getLast? with
  | none => rw [hl] at h; cases h
  | some x =>
    rw [hl] at h
    simp at h
    obtain ⟨l', rfl⟩ := List.getLast?_eq_some_iff.1 hl
    exact ⟨l', x, rfl, h⟩
theorem rise_aft {l : List Rw} (h : Rising l) (r : Rw) : Rising (aftC l r) := by
  unfold aftC
  split
  · rename_i ht
    unfold takesC at ht
    rw [Bool.and_eq_true] at ht
    unfold Rising
    rw [List.pairwise_append]
    refine ⟨h, by simp, fun x hx y hy => ?_⟩
    simp at hy
    subst hy
    cases hl : lastE l with
    | none =>
      have := lastE_none hl
      rw [List.eq_nil_of_length_eq_zero this] at hx
      cases hx
    | some e =>
      rw [hl] at ht
      have h2 : cmpE r.e e = 1 := of_decide_eq_true ht.2
      obtain ⟨l', z, rfl, rfl⟩ := last_mem hl
      rcases List.mem_append.1 hx with hx | hx
      · unfold Rising at h
        rw [List.pairwise_append] at h
        exact cmpE_up h2 (h.2.2 x hx z (by simp))
      · simp at hx
        subst hx
        exact h2
  · exact h
theorem rise_crowd (l : List Rw) : Rising (crowdOf l) := by
  refine snocInd' (p := fun l => Rising (crowdOf l)) l List.Pairwise.nil (fun l a ih => ?_)
  rw [crowdOf_snoc]
  exact rise_aft ih a
/-- Events rise. -/
def RiseE (l : List Ev) : Prop := l.Pairwise fun x y => cmpE y x = 1
theorem riseE_of {l : List Rw} (h : Rising l) : RiseE (evsR l) := by
  unfold RiseE evsR
  rw [List.pairwise_map]
  exact h
/-- The rows of a person taken in turn. -/
def apD (l : List Rw) : List Rw := l.map fun x => ⟨x.e, tagsP x.ts⟩
theorem apD_snoc (l : List Rw) (x : Rw) : apD (l ++ [x]) = apD l ++ [⟨x.e, tagsP x.ts⟩] := by unfold apD; simp
theorem evs_apD (l : List Rw) : evsR (apD l) = evsR l := by unfold evsR apD; simp
theorem apD_takes {l : List Rw} {x : Rw} (hr : RiseE (evsR (l ++ [x]))) (hc : crB x.e = true) : takesC (apD l) x.e = true := by
  unfold takesC
  rw [hc, Bool.true_and]
  cases hl : lastE (apD l) with
  | none => rfl
  | some e =>
    obtain ⟨l', z, h1, rfl⟩ := last_mem hl
    have h2 : evsR l = evsR l' ++ [z.e] := by rw [← evs_apD, h1]; unfold evsR; simp
    refine decide_eq_true ?_
    unfold RiseE at hr
    rw [show evsR (l ++ [x]) = evsR l ++ [x.e] by unfold evsR; simp, h2, List.pairwise_append] at hr
    exact hr.2.2 z.e (by simp) x.e (by simp)
theorem apD_aft {l : List Rw} {x : Rw} (hr : RiseE (evsR (l ++ [x]))) (hc : crB x.e = true) : aftC (apD l) x = apD (l ++ [x]) := by
  unfold aftC
  rw [apD_takes hr hc, if_pos rfl, apD_snoc]
theorem Tw.apD {a b : List Rw} (h : Tw a b) (hn : ∀ r ∈ a, ∀ t ∈ r.ts, nameB t = true) : Tw a (apD b) := by
  revert hn
  induction h with
  | nil => intro _; exact Tw.nil
  | snoc h hr ih =>
    rename_i a b r r'
    intro hn
    rw [apD_snoc]
    refine (ih (fun r hr => hn r (List.mem_append_left _ hr))).snoc ⟨hr.1, hr.2.1, (tagsP_is _).1, fun t => ?_⟩
    rw [(tagsP_is _).2 t, hr.2.2.2 t]
    exact ⟨fun h => ⟨h, hn r (by simp) t ((hr.2.2.2 t).2 h)⟩, fun h => h.1⟩

/-! what hangs on events of a person -/
def ofP (l : List Ev) (p : ByteArray) : List Ev := l.filter fun e => decide (e.person = p)
theorem cntE_of (l : List Ev) (p i : ByteArray) (kd : Int) : cntE (ofP l p) p i kd = cntE l p i kd := by
  unfold cntE ofP
  rw [List.countP_filter]
  refine List.countP_congr fun e _ => ?_
  simp only [Bool.and_eq_true, decide_eq_true_eq]
  exact ⟨fun h => h.1, fun h => ⟨h, h.1⟩⟩
def wordV (g : Ev → Bool) (a b : Int) (l : List Ev) : Option Bool := l.foldl (fun acc e => if g e && decide (e.kind = a ∨ e.kind = b) then some (decide (e.kind = a)) else acc) none
theorem wordV_snoc (g : Ev → Bool) (a b : Int) (l : List Ev) (e : Ev) : wordV g a b (l ++ [e]) = if g e && decide (e.kind = a ∨ e.kind = b) then some (decide (e.kind = a)) else wordV g a b l := by
  unfold wordV; rw [List.foldl_append]; rfl
theorem word_evs (g : Ev → Bool) (a b : Int) (rs : List Rw) : wordO (fun r => g r.e) a b rs = wordV g a b (evsR rs) := by
  unfold wordO wordV evsR
  rw [List.foldl_map]
theorem wordV_of {g : Ev → Bool} {p : ByteArray} (hg : ∀ e, g e = true → e.person = p) (a b : Int) (l : List Ev) : wordV g a b (ofP l p) = wordV g a b l := by
  refine snocInd' (p := fun l => wordV g a b (ofP l p) = wordV g a b l) l rfl (fun l e ih => ?_)
  have hs : ofP (l ++ [e]) p = if e.person = p then ofP l p ++ [e] else ofP l p := by
    unfold ofP
    rw [List.filter_append]
    by_cases h : e.person = p <;> simp [h]
  rw [hs, wordV_snoc]
  by_cases h : e.person = p
  · rw [if_pos h, wordV_snoc, ih]
  · rw [if_neg h, ih]
    have : g e = false := Bool.eq_false_iff.2 (fun e1 => h (hg e e1))
    rw [this]
    rfl
/-- Two crowds with the same events of a person. -/
def LikeP (rs ds : List Rw) (p : ByteArray) : Prop := ofP (evsR rs) p = ofP (evsR ds) p
theorem LikeP.done {rs ds : List Rw} {p : ByteArray} (h : LikeP rs ds p) (i : ByteArray) : doneB rs p i = doneB ds p i := by
  rw [done_cnt, done_cnt, ← cntE_of (evsR rs), ← cntE_of (evsR rs), ← cntE_of (evsR ds), ← cntE_of (evsR ds), h]
theorem LikeP.shown {rs ds : List Rw} {p : ByteArray} (h : LikeP rs ds p) (i : ByteArray) : shownN rs p i = shownN ds p i := by
  rw [shown_cnt, shown_cnt, ← cntE_of (evsR rs), ← cntE_of (evsR ds), h]
theorem LikeP.word {rs ds : List Rw} {p : ByteArray} (h : LikeP rs ds p) {g : Ev → Bool} (hg : ∀ e, g e = true → e.person = p) (a b : Int) : wordO (fun r => g r.e) a b rs = wordO (fun r => g r.e) a b ds := by
  rw [word_evs, word_evs, ← wordV_of hg, ← wordV_of hg a b (evsR ds), h]
theorem LikeP.hid {rs ds : List Rw} {p : ByteArray} (h : LikeP rs ds p) (i : ByteArray) : hidO rs p i = hidO ds p i :=
  h.word (g := fun e => decide (e.person = p ∧ e.item = i)) (fun e he => (of_decide_eq_true he).1) 5 6
theorem LikeP.fol {rs ds : List Rw} {p : ByteArray} (h : LikeP rs ds p) (t : ByteArray) : folO rs p t = folO ds p t :=
  h.word (g := fun e => decide (e.person = p ∧ e.text = t)) (fun e he => (of_decide_eq_true he).1) 7 8
theorem LikeP.mtd {rs ds : List Rw} {p : ByteArray} (h : LikeP rs ds p) (t : ByteArray) : mutO rs p t = mutO ds p t :=
  h.word (g := fun e => decide (e.person = p ∧ e.text = t)) (fun e he => (of_decide_eq_true he).1) 9 10
theorem evs_ofP (rs : List Rw) (p : ByteArray) : evsR (ownC rs p) = ofP (evsR rs) p := by unfold evsR ownC ofP; rw [List.filter_map]; rfl
theorem LikeP.len {rs ds : List Rw} {p : ByteArray} (h : LikeP rs ds p) : (ownC rs p).length = (ownC ds p).length := by
  have : (evsR (ownC rs p)).length = (evsR (ownC ds p)).length := by rw [evs_ofP, evs_ofP, h]
  unfold evsR at this
  simpa using this
theorem likB_iff (rs : List Rw) (p i : ByteArray) : likB rs p i = true ↔ ∃ e ∈ evsR rs, e.person = p ∧ e.item = i ∧ 0 < worthP e := by
  unfold likB isR evsR
  rw [List.any_eq_true]
  constructor
  · rintro ⟨r, hr, h⟩
    simp only [Bool.and_eq_true, decide_eq_true_eq] at h
    exact ⟨r.e, List.mem_map.2 ⟨r, hr, rfl⟩, h.1.1, h.1.2, h.2⟩
  · rintro ⟨e, he, h1, h2, h3⟩
    obtain ⟨r, hr, rfl⟩ := List.mem_map.1 he
    exact ⟨r, hr, by simp only [Bool.and_eq_true, decide_eq_true_eq]; exact ⟨⟨h1, h2⟩, h3⟩⟩
theorem fans_sub {rs ds : List Rw} (h : ∀ e ∈ evsR ds, e ∈ evsR rs) (i : ByteArray) : fansN ds i ≤ fansN rs i := by
  refine nodup_le _ _ (fanL_is ds i).1 (fun y hy => ?_)
  rw [(fanL_is rs i).2, likB_iff]
  rw [(fanL_is ds i).2, likB_iff] at hy
  obtain ⟨e, he, h1⟩ := hy
  exact ⟨e, h e he, h1⟩
theorem fans_one {ds : List Rw} {p : ByteArray} (h : ∀ e ∈ evsR ds, e.person = p) (i : ByteArray) : fansN ds i ≤ 1 := by
  refine nodup_le _ [p] (fanL_is ds i).1 (fun y hy => ?_)
  rw [(fanL_is ds i).2, likB_iff] at hy
  obtain ⟨e, he, h1, _⟩ := hy
  rw [← h1, h e he]
  simp
theorem own_all {ds : List Rw} {p : ByteArray} (h : ∀ r ∈ ds, r.e.person = p) : ownC ds p = ds := by
  unfold ownC
  rw [List.filter_eq_self]
  exact fun r hr => decide_eq_true (h r hr)
/-- The crowd of a person's rows alone, beside the crowd of all. -/
structure ApartIs (rs ds : List Rw) (p : ByteArray) : Prop where
  like : LikeP rs ds p
  tw : Tw (ownC rs p) ds
  one : ∀ e ∈ evsR ds, e.person = p
  sub : ∀ e ∈ evsR ds, e ∈ evsR rs
  own : ownC ds p = ds
theorem apart_is {rs xs : List Rw} {p : ByteArray} (h : Tw rs xs) (hn : ∀ r ∈ rs, ∀ t ∈ r.ts, nameB t = true) : ApartIs rs (apD (ownC xs p)) p := by
  have h1 : Tw (ownC rs p) (apD (ownC xs p)) := (h.own p).apD (fun r hr => hn r (ownC_mem.1 hr).1)
  have h2 : evsR (apD (ownC xs p)) = evsR (ownC rs p) := h1.evs.symm
  have h3 : ∀ e ∈ evsR (apD (ownC xs p)), e.person = p := fun e he => by
    rw [h2] at he
    unfold evsR at he
    obtain ⟨r, hr, rfl⟩ := List.mem_map.1 he
    exact (ownC_mem.1 hr).2
  refine ⟨?_, h1, h3, fun e he => ?_, ?_⟩
  · unfold LikeP
    rw [h2, evs_ofP]
    unfold ofP
    rw [List.filter_filter]
    simp
  · rw [h2] at he
    unfold evsR at he ⊢
    obtain ⟨r, hr, rfl⟩ := List.mem_map.1 he
    exact List.mem_map.2 ⟨r, (ownC_mem.1 hr).1, rfl⟩
  · refine own_all (fun r hr => h3 r.e ?_)
    unfold evsR
    exact List.mem_map.2 ⟨r, hr, rfl⟩

end Go.Proofs.YtnkglbiakjnfjaaDoor
