/- Baskets, plain: ticks, intervals, what a basket has. -/
import Derived.Test.YtcgangmmehbdoaaDoorEvMay
namespace Go.Proofs.YtcgangmmehbdoaaDoor
set_option linter.unusedVariables false

/-- Is an event a buy? -/
def buyB (e : Ev) : Bool := mayB e && decide (e.kind = 3)
/-- A gap in its bounds. -/
def clampG (g : Int) : Int := if g < 0 then 0 else if 1099511627776 < g then 1099511627776 else g
theorem clampG_nn (g : Int) : 0 ≤ clampG g := by unfold clampG; split <;> (try split) <;> omega
/-- The buys of a person. -/
def ownB (l : List Ev) (p : ByteArray) : List Ev := l.filter fun e => buyB e && decide (e.person = p)
theorem ownB_mem {l : List Ev} {p : ByteArray} {e : Ev} : e ∈ ownB l p ↔ e ∈ l ∧ buyB e = true ∧ e.person = p := by
  unfold ownB
  rw [List.mem_filter, Bool.and_eq_true, decide_eq_true_eq]

/-- A basket: since when it has a thing. -/
abbrev Bsk := ByteArray → Option Int
def bsk0 : Bsk := fun _ => none
/-- A thing is put in, if it is not there. -/
def putB (f : Bsk) (x : ByteArray) (t : Int) : Bsk := if (f x).isSome then f else fun y => if y = x then some t else f y
theorem putB0 (x y : ByteArray) (t : Int) : putB bsk0 x t y = if y = x then some t else none := rfl
/-- Is y behind x? -/
def behB (f : Bsk) (x y : ByteArray) : Bool := match f x, f y with | some a, some b => decide (a < b) | _, _ => false

structure Sc where
  done : List Bsk
  cur : Bsk
  prev : Option Int
def sc0 : Sc := ⟨[], bsk0, none⟩
/-- Does an event open a new basket? -/
def opens (g : Int) (s : Sc) (t : Int) : Bool := match s.prev with | some u => decide (g < t - u) | none => false
def scStep (g : Int) (s : Sc) (e : Ev) : Sc :=
  if opens g s e.tick then ⟨s.done ++ [s.cur], putB bsk0 e.item e.tick, some e.tick⟩ else ⟨s.done, putB s.cur e.item e.tick, some e.tick⟩
def scan (g : Int) (r : List Ev) : Sc := r.foldl (scStep g) sc0
theorem scan_snoc (g : Int) (r : List Ev) (e : Ev) : scan g (r ++ [e]) = scStep g (scan g r) e := by
  unfold scan; rw [List.foldl_append]; rfl
/-- All baskets of a row. -/
def scanAll (g : Int) (r : List Ev) : List Bsk := (scan g r).done ++ [(scan g r).cur]

/-! ### intervals -/
structure Iv where
  done : List (Int × Int)
  cur : Option (Int × Int)
def ivStep (g : Int) (s : Iv) (t : Int) : Iv := match s.cur with
  | none => ⟨s.done, some (t, t)⟩
  | some (f, u) => if g < t - u then ⟨s.done ++ [(f, u)], some (t, t)⟩ else ⟨s.done, some (f, t)⟩
def ivS (g : Int) (T : List Int) : Iv := T.foldl (ivStep g) ⟨[], none⟩
theorem ivS_snoc (g : Int) (T : List Int) (t : Int) : ivS g (T ++ [t]) = ivStep g (ivS g T) t := by
  unfold ivS; rw [List.foldl_append]; rfl
def ivs (g : Int) (T : List Int) : List (Int × Int) := (ivS g T).done ++ (ivS g T).cur.toList

theorem snocInd {α : Type} {p : List α → Prop} (l : List α) (nil : p []) (snoc : ∀ l a, p l → p (l ++ [a])) : p l := by
  have : ∀ n (l : List α), l.length = n → p l := by
    intro n
    induction n with
    | zero => intro l h; rw [List.eq_nil_of_length_eq_zero h]; exact nil
    | succ n ih =>
      intro l h
      have hne : l ≠ [] := by intro e; rw [e] at h; cases h
      have := List.dropLast_concat_getLast hne
      rw [← this]
      exact snoc _ _ (ih _ (by rw [List.length_dropLast, h]; rfl))
  exact this _ l rfl

/-- What a basket from a tick up to a tick has. -/
def basP (r : List Ev) (iv : Int × Int) : Bsk := fun x => ((r.filter fun e => decide (e.item = x ∧ iv.1 ≤ e.tick ∧ e.tick ≤ iv.2)).map (·.tick)).min?
theorem bas_some {r : List Ev} {iv : Int × Int} {x : ByteArray} {a : Int} : basP r iv x = some a ↔ (∃ e ∈ r, e.item = x ∧ iv.1 ≤ e.tick ∧ e.tick ≤ iv.2 ∧ e.tick = a) ∧ ∀ e ∈ r, e.item = x → iv.1 ≤ e.tick → e.tick ≤ iv.2 → a ≤ e.tick := by
  unfold basP
  rw [List.min?_eq_some_iff]
  constructor
  · rintro ⟨h1, h2⟩
    obtain ⟨e, he, rfl⟩ := List.mem_map.1 h1
    rw [List.mem_filter, decide_eq_true_eq] at he
    refine ⟨⟨e, he.1, he.2.1, he.2.2.1, he.2.2.2, rfl⟩, fun e' he' h3 h4 h5 => h2 _ (List.mem_map.2 ⟨e', List.mem_filter.2 ⟨he', decide_eq_true ⟨h3, h4, h5⟩⟩, rfl⟩)⟩
  · rintro ⟨⟨e, he, h3, h4, h5, rfl⟩, h2⟩
    refine ⟨List.mem_map.2 ⟨e, List.mem_filter.2 ⟨he, decide_eq_true ⟨h3, h4, h5⟩⟩, rfl⟩, fun b hb => ?_⟩
    obtain ⟨e', he', rfl⟩ := List.mem_map.1 hb
    rw [List.mem_filter, decide_eq_true_eq] at he'
    exact h2 e' he'.1 he'.2.1 he'.2.2.1 he'.2.2.2
theorem bas_none {r : List Ev} {iv : Int × Int} {x : ByteArray} : basP r iv x = none ↔ ∀ e ∈ r, ¬ (e.item = x ∧ iv.1 ≤ e.tick ∧ e.tick ≤ iv.2) := by
  unfold basP
  rw [List.min?_eq_none_iff, List.map_eq_nil_iff, List.filter_eq_nil_iff]
  simp only [decide_eq_true_eq]
/-- The same events in an interval make the same basket. -/
theorem bas_congr {r r' : List Ev} {iv iv' : Int × Int} {x : ByteArray} (h : ∀ t, (∃ e ∈ r, e.item = x ∧ iv.1 ≤ e.tick ∧ e.tick ≤ iv.2 ∧ e.tick = t) ↔ ∃ e ∈ r', e.item = x ∧ iv'.1 ≤ e.tick ∧ e.tick ≤ iv'.2 ∧ e.tick = t) : basP r iv x = basP r' iv' x := by
  cases hb : basP r' iv' x with
  | none =>
    rw [bas_none] at hb ⊢
    intro e he h1
    obtain ⟨e', he', h2, h3, h4, _⟩ := (h e.tick).1 ⟨e, he, h1.1, h1.2.1, h1.2.2, rfl⟩
    exact hb e' he' ⟨h2, h3, h4⟩
  | some a =>
    rw [bas_some] at hb ⊢
    obtain ⟨h1, h2⟩ := hb
    refine ⟨(h a).2 h1, fun e he h3 h4 h5 => ?_⟩
    obtain ⟨e', he', h6, h7, h8, h9⟩ := (h e.tick).1 ⟨e, he, h3, h4, h5, rfl⟩
    rw [← h9]
    exact h2 e' he' h6 h7 h8

/-- The ticks of a row that never falls: what the scan knows of it. -/
structure ScOk (g : Int) (r : List Ev) : Prop where
  done : (scan g r).done = (ivS g (r.map (·.tick))).done.map (basP r)
  cur : ∀ f u, (ivS g (r.map (·.tick))).cur = some (f, u) → (scan g r).cur = basP r (f, u) ∧ (scan g r).prev = some u ∧ (∀ e ∈ r, e.tick ≤ u) ∧ f ≤ u ∧ ∀ iv ∈ (ivS g (r.map (·.tick))).done, iv.2 < f
  none_ : (ivS g (r.map (·.tick))).cur = none → r = []

theorem scan_ok {g : Int} (hg : 0 ≤ g) (r : List Ev) (hs : r.Pairwise fun a b => a.tick ≤ b.tick) : ScOk g r := by
  revert hs
  refine snocInd (p := fun r => r.Pairwise (fun a b => a.tick ≤ b.tick) → ScOk g r) r (fun _ => ⟨rfl, fun f u h => (by cases h), fun _ => rfl⟩) (fun r e ih hs => ?_)
  obtain ⟨hs1, _, hs2⟩ := List.pairwise_append.1 hs
  have hle : ∀ a ∈ r, a.tick ≤ e.tick := fun a ha => hs2 a ha e (by simp)
  have h := ih hs1
  have hm : (r ++ [e]).map (·.tick) = r.map (·.tick) ++ [e.tick] := by simp
  cases hc : (ivS g (r.map (·.tick))).cur with
  | none =>
    have hr := h.none_ hc
    subst hr
    refine ⟨?_, ?_, ?_⟩
    · rfl
    · intro f u hfu
      have : (f, u) = (e.tick, e.tick) := by
        have h1 : (ivS g (([] ++ [e] : List Ev).map (·.tick))).cur = some (e.tick, e.tick) := rfl
        rw [h1] at hfu
        exact (Option.some.inj hfu).symm
      obtain ⟨rfl, rfl⟩ := Prod.mk.inj this
      refine ⟨?_, rfl, ?_, Int.le_refl _, ?_⟩
      · funext x
        show putB bsk0 e.item e.tick x = _
        rw [putB0]
        by_cases hx : x = e.item
        · subst hx
          rw [if_pos rfl]
          symm
          rw [bas_some]
          simp
        · rw [if_neg hx]
          symm
          rw [bas_none]
          intro e' he' h1
          simp at he'
          subst he'
          exact hx h1.1.symm
      · intro e' he'
        simp at he'
        subst he'
        exact Int.le_refl _
      · intro iv hiv
        cases hiv
    · intro hn; cases hn
  | some fu =>
    obtain ⟨f, u⟩ := fu
    obtain ⟨h1, h2, h3, h4, h5⟩ := h.cur f u hc
    by_cases ho : g < e.tick - u
    · have hiv : ivS g ((r ++ [e]).map (·.tick)) = ⟨(ivS g (r.map (·.tick))).done ++ [(f, u)], some (e.tick, e.tick)⟩ := by
        rw [hm, ivS_snoc]; unfold ivStep; rw [hc]; simp [ho]
      have hsc : scan g (r ++ [e]) = ⟨(scan g r).done ++ [(scan g r).cur], putB bsk0 e.item e.tick, some e.tick⟩ := by
        rw [scan_snoc]; unfold scStep opens; rw [h2]; simp [ho]
      have hold : ∀ iv : Int × Int, iv.2 < e.tick → basP (r ++ [e]) iv = basP r iv := by
        intro iv hiv2
        funext x
        refine bas_congr (fun t => ?_)
        constructor
        · rintro ⟨e', he', h6, h7, h8, h9⟩
          rcases List.mem_append.1 he' with he' | he'
          · exact ⟨e', he', h6, h7, h8, h9⟩
          · simp at he'; subst he'; omega
        · rintro ⟨e', he', h6⟩
          exact ⟨e', List.mem_append.2 (Or.inl he'), h6⟩
      refine ⟨?_, ?_, ?_⟩
      · rw [hiv, hsc]
        show (scan g r).done ++ [(scan g r).cur] = List.map (basP (r ++ [e])) ((ivS g (r.map (·.tick))).done ++ [(f, u)])
        rw [List.map_append]
        congr 1
        · rw [h.done]
          refine List.map_congr_left (fun iv hiv2 => ?_)
          have := h5 iv hiv2
          rw [hold iv (by omega)]
        · rw [h1]
          show [basP r (f, u)] = [basP (r ++ [e]) (f, u)]
          rw [hold (f, u) (by show u < e.tick; omega)]
      · intro f' u' hfu
        rw [hiv] at hfu
        obtain ⟨rfl, rfl⟩ := Prod.mk.inj (Option.some.inj hfu)
        rw [hsc, hiv]
        refine ⟨?_, rfl, ?_, Int.le_refl _, ?_⟩
        · funext x
          show putB bsk0 e.item e.tick x = _
          rw [putB0]
          by_cases hx : x = e.item
          · subst hx
            rw [if_pos rfl]
            symm
            rw [bas_some]
            refine ⟨⟨e, by simp, rfl, Int.le_refl _, Int.le_refl _, rfl⟩, fun e' _ _ h7 _ => h7⟩
          · rw [if_neg hx]
            symm
            rw [bas_none]
            intro e' he' h6
            rcases List.mem_append.1 he' with he' | he'
            · have := h3 e' he'
              have := h6.2.1
              simp at this
              omega
            · simp at he'; subst he'; exact hx h6.1.symm
        · intro e' he'
          rcases List.mem_append.1 he' with he' | he'
          · exact hle e' he'
          · simp at he'; subst he'; exact Int.le_refl _
        · intro iv hiv2
          rcases List.mem_append.1 hiv2 with hiv2 | hiv2
          · have := h5 iv hiv2; omega
          · simp at hiv2; subst hiv2; show u < e.tick; omega
      · rw [hiv]; intro hn; cases hn
    · have hiv : ivS g ((r ++ [e]).map (·.tick)) = ⟨(ivS g (r.map (·.tick))).done, some (f, e.tick)⟩ := by
        rw [hm, ivS_snoc]; unfold ivStep; rw [hc]; simp [ho]
      have hsc : scan g (r ++ [e]) = ⟨(scan g r).done, putB (scan g r).cur e.item e.tick, some e.tick⟩ := by
        rw [scan_snoc]; unfold scStep opens; rw [h2]; simp [ho]
      have hue : u ≤ e.tick := by
        by_cases hr : r = []
        · subst hr; cases hc
        · have : ∃ a ∈ r, a.tick = u := by
            have hp := h2
            obtain ⟨ys, y, hy⟩ : ∃ ys y, r = ys ++ [y] := ⟨r.dropLast, r.getLast hr, (List.dropLast_concat_getLast hr).symm⟩
            subst hy
            rw [scan_snoc] at hp
            refine ⟨y, by simp, ?_⟩
            unfold scStep at hp
            split at hp <;> exact Option.some.inj hp
          obtain ⟨a, ha, rfl⟩ := this
          exact hle a ha
      refine ⟨?_, ?_, ?_⟩
      · rw [hiv, hsc]
        show (scan g r).done = List.map (basP (r ++ [e])) (ivS g (r.map (·.tick))).done
        rw [h.done]
        refine List.map_congr_left (fun iv hiv2 => ?_)
        have h6 := h5 iv hiv2
        funext x
        refine bas_congr (fun t => ?_)
        constructor
        · rintro ⟨e', he', h7⟩
          exact ⟨e', List.mem_append.2 (Or.inl he'), h7⟩
        · rintro ⟨e', he', h7, h8, h9, h10⟩
          rcases List.mem_append.1 he' with he' | he'
          · exact ⟨e', he', h7, h8, h9, h10⟩
          · simp at he'; subst he'; omega
      · intro f' u' hfu
        rw [hiv] at hfu
        obtain ⟨rfl, rfl⟩ := Prod.mk.inj (Option.some.inj hfu)
        rw [hsc, hiv]
        refine ⟨?_, rfl, ?_, by omega, h5⟩
        · funext x
          show putB (scan g r).cur e.item e.tick x = _
          rw [h1]
          have hsame : basP r (f, u) x = basP r (f, e.tick) x := bas_congr (fun t => by
            constructor
            · rintro ⟨e', he', h7, h8, h9, h10⟩
              exact ⟨e', he', h7, h8, by have := hle e' he'; exact this, h10⟩
            · rintro ⟨e', he', h7, h8, h9, h10⟩
              exact ⟨e', he', h7, h8, h3 e' he', h10⟩)
          unfold putB
          by_cases hx : x = e.item
          · subst hx
            cases hb : basP r (f, u) e.item with
            | none =>
              rw [if_neg (by simp)]
              rw [if_pos rfl]
              symm
              rw [bas_some]
              refine ⟨⟨e, by simp, rfl, by show f ≤ e.tick; omega, Int.le_refl _, rfl⟩, fun e' he' h7 h8 h9 => ?_⟩
              rcases List.mem_append.1 he' with he' | he'
              · exact absurd ⟨h7, h8, h3 e' he'⟩ (bas_none.1 hb e' he')
              · simp at he'; subst he'; exact Int.le_refl _
            | some a =>
              rw [if_pos (by simp), hb]
              symm
              rw [bas_some] at hb ⊢
              obtain ⟨⟨e', he', h7, h8, h9, h10⟩, h11⟩ := hb
              refine ⟨⟨e', List.mem_append.2 (Or.inl he'), h7, h8, hle e' he', h10⟩, fun e2 he2 h12 h13 h14 => ?_⟩
              rcases List.mem_append.1 he2 with he2 | he2
              · exact h11 e2 he2 h12 h13 (h3 e2 he2)
              · simp at he2; subst he2; rw [← h10]; exact hle e' he'
          · have hnx : basP (r ++ [e]) (f, e.tick) x = basP r (f, e.tick) x := bas_congr (fun t => by
              constructor
              · rintro ⟨e', he', h7, h8⟩
                rcases List.mem_append.1 he' with he' | he'
                · exact ⟨e', he', h7, h8⟩
                · simp at he'; subst he'; exact absurd h7.symm hx
              · rintro ⟨e', he', h7⟩
                exact ⟨e', List.mem_append.2 (Or.inl he'), h7⟩)
            rw [hnx, ← hsame]
            split
            · rfl
            · show (if x = e.item then some e.tick else basP r (f, u) x) = _
              rw [if_neg hx]
        · intro e' he'
          rcases List.mem_append.1 he' with he' | he'
          · exact hle e' he'
          · simp at he'; subst he'; exact Int.le_refl _
      · rw [hiv]; intro hn; cases hn

/-- All baskets of a row that never falls are those of its intervals. -/
theorem scan_all {g : Int} (hg : 0 ≤ g) {r : List Ev} (hs : r.Pairwise fun a b => a.tick ≤ b.tick) (hne : r ≠ []) : scanAll g r = (ivs g (r.map (·.tick))).map (basP r) := by
  have h := scan_ok hg r hs
  unfold scanAll ivs
  cases hc : (ivS g (r.map (·.tick))).cur with
  | none => exact absurd (h.none_ hc) hne
  | some fu =>
    obtain ⟨f, u⟩ := fu
    rw [h.done, (h.cur f u hc).1]
    simp

end Go.Proofs.YtcgangmmehbdoaaDoor
