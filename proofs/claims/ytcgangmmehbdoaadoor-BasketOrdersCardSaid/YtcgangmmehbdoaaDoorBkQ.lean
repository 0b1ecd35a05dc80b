/- Baskets, plain: ticks in order, each once; the baskets of a person, in whatever order the events come; counts. -/
import Derived.Test.YtcgangmmehbdoaaDoorBkP
namespace Go.Proofs.YtcgangmmehbdoaaDoor
set_option linter.unusedVariables false

/-- A tick into rising ones, once. -/
def insT : List Int → Int → List Int
  | [], t => [t]
  | a :: T, t => if t < a then t :: a :: T else if t = a then a :: T else a :: insT T t
theorem insT_mem : ∀ (T : List Int) (t u : Int), u ∈ insT T t ↔ u ∈ T ∨ u = t
  | [], t, u => by simp [insT]
  | a :: T, t, u => by
    unfold insT
    split
    · simp only [List.mem_cons]
      constructor
      · rintro (h | h | h)
        · exact Or.inr h
        · exact Or.inl (Or.inl h)
        · exact Or.inl (Or.inr h)
      · rintro ((h | h) | h)
        · exact Or.inr (Or.inl h)
        · exact Or.inr (Or.inr h)
        · exact Or.inl h
    · split
      · rename_i h; subst h; simp only [List.mem_cons]
        constructor
        · intro h; exact Or.inl h
        · rintro (h | h)
          · exact h
          · exact Or.inl h
      · rw [List.mem_cons, insT_mem T t u, List.mem_cons, or_assoc]
theorem insT_rise : ∀ {T : List Int} (h : T.Pairwise (· < ·)) (t : Int), (insT T t).Pairwise (· < ·)
  | [], _, t => by simp [insT]
  | a :: T, h, t => by
    obtain ⟨h1, h2⟩ := List.pairwise_cons.1 h
    unfold insT
    split
    · rename_i hlt
      refine List.pairwise_cons.2 ⟨fun u hu => ?_, h⟩
      rcases List.mem_cons.1 hu with rfl | hu
      · exact hlt
      · have := h1 u hu; omega
    · split
      · exact h
      · refine List.pairwise_cons.2 ⟨fun u hu => ?_, insT_rise h2 t⟩
        rcases (insT_mem T t u).1 hu with hu | rfl
        · exact h1 u hu
        · omega
def tksP (r : List Ev) : List Int := (r.map (·.tick)).foldl insT []
theorem tks_snoc (r : List Ev) (e : Ev) : tksP (r ++ [e]) = insT (tksP r) e.tick := by
  unfold tksP; rw [List.map_append, List.foldl_append]; rfl
theorem tks_is (r : List Ev) : (tksP r).Pairwise (· < ·) ∧ ∀ t, t ∈ tksP r ↔ ∃ e ∈ r, e.tick = t := by
  refine snocInd (p := fun r => (tksP r).Pairwise (· < ·) ∧ ∀ t, t ∈ tksP r ↔ ∃ e ∈ r, e.tick = t) r ⟨List.Pairwise.nil, fun t => ⟨fun h => (by cases h), fun h => (by obtain ⟨e, he, _⟩ := h; cases he)⟩⟩ (fun r e ih => ?_)
  rw [tks_snoc]
  refine ⟨insT_rise ih.1 _, fun t => ?_⟩
  rw [insT_mem, ih.2]
  constructor
  · rintro (⟨e', he', h⟩ | rfl)
    · exact ⟨e', List.mem_append.2 (Or.inl he'), h⟩
    · exact ⟨e, by simp, rfl⟩
  · rintro ⟨e', he', h⟩
    rcases List.mem_append.1 he' with he' | he'
    · exact Or.inl ⟨e', he', h⟩
    · simp at he'; subst he'; exact Or.inr h.symm
theorem rise_one {T T' : List Int} (h : T.Pairwise (· < ·)) (h' : T'.Pairwise (· < ·)) (hm : ∀ t, t ∈ T ↔ t ∈ T') : T = T' := by
  have nd : ∀ {U : List Int}, U.Pairwise (· < ·) → U.Nodup := fun hU => by
    rw [List.nodup_iff_pairwise_ne]
    exact hU.imp (fun hab e => by subst e; omega)
  exact List.Perm.eq_of_pairwise (le := fun a b => a < b) (fun a b _ _ h1 h2 => by omega) h h' ((List.perm_ext_iff_of_nodup (nd h) (nd h')).2 hm)

theorem iv_cur (g : Int) (T : List Int) (t : Int) : ∃ f, (ivS g (T ++ [t])).cur = some (f, t) := by
  rw [ivS_snoc]
  unfold ivStep
  split
  · exact ⟨t, rfl⟩
  · rename_i f u _
    split
    · exact ⟨t, rfl⟩
    · exact ⟨f, rfl⟩
theorem iv_ticks {g : Int} (hg : 0 ≤ g) (L : List Int) (hs : L.Pairwise (· ≤ ·)) : ∃ T : List Int, T.Pairwise (· < ·) ∧ (∀ t, t ∈ T ↔ t ∈ L) ∧ ivS g T = ivS g L ∧ T.getLast? = L.getLast? := by
  revert hs
  refine snocInd (p := fun L => L.Pairwise (· ≤ ·) → ∃ T : List Int, T.Pairwise (· < ·) ∧ (∀ t, t ∈ T ↔ t ∈ L) ∧ ivS g T = ivS g L ∧ T.getLast? = L.getLast?) L (fun _ => ⟨[], List.Pairwise.nil, fun t => Iff.rfl, rfl, rfl⟩) (fun L t ih hs => ?_)
  obtain ⟨hs1, _, hs2⟩ := List.pairwise_append.1 hs
  obtain ⟨T, h1, h2, h3, h4⟩ := ih hs1
  by_cases hl : L.getLast? = some t
  · refine ⟨T, h1, fun u => ?_, ?_, ?_⟩
    · rw [h2, List.mem_append]
      constructor
      · exact Or.inl
      · rintro (h | h)
        · exact h
        · simp at h; subst h; exact List.mem_of_getLast? hl
    · obtain ⟨ys, rfl⟩ := List.getLast?_eq_some_iff.1 hl
      obtain ⟨f, hf⟩ := iv_cur g ys t
      rw [h3, ivS_snoc g (ys ++ [t]) t]
      unfold ivStep
      rw [hf]
      simp only
      rw [if_neg (by omega)]
      cases hi : ivS g (ys ++ [t])
      rw [hi] at hf
      simp at hf
      rw [hf]
    · rw [h4, hl]; simp
  · refine ⟨T ++ [t], ?_, fun u => ?_, ?_, by simp⟩
    · rw [List.pairwise_append]
      refine ⟨h1, List.pairwise_singleton _ _, fun a ha b hb => ?_⟩
      obtain rfl : b = t := by simpa using hb
      have haL := (h2 a).1 ha
      have hle := hs2 a haL b (by simp)
      rcases Int.lt_or_eq_of_le hle with h | h
      · exact h
      · exfalso
        subst h
        -- a in L, all of L up to a: the last is a
        cases hq : L.getLast? with
        | none => rw [List.getLast?_eq_none_iff] at hq; subst hq; cases haL
        | some z =>
          obtain ⟨ys, rfl⟩ := List.getLast?_eq_some_iff.1 hq
          have hz : z ≤ a := hs2 z (by simp) a (by simp)
          rcases List.mem_append.1 haL with h5 | h5
          · have := (List.pairwise_append.1 hs1).2.2 a h5 z (by simp)
            have : z = a := by omega
            subst this
            exact hl hq
          · simp at h5; subst h5; exact hl hq
    · rw [List.mem_append, List.mem_append, h2]
    · rw [ivS_snoc, ivS_snoc, h3]

/-- The baskets of a person. -/
def BL (g : Int) (l : List Ev) (p : ByteArray) : List Bsk := (ivs g (tksP (ownB l p))).map (basP (ownB l p))
theorem bas_mem {r r' : List Ev} (h : ∀ e, e ∈ r ↔ e ∈ r') : basP r = basP r' := by
  funext iv x
  refine bas_congr (fun t => ?_)
  constructor
  · rintro ⟨e, he, h1⟩; exact ⟨e, (h e).1 he, h1⟩
  · rintro ⟨e, he, h1⟩; exact ⟨e, (h e).2 he, h1⟩
theorem tks_mem {r r' : List Ev} (h : ∀ e, e ∈ r ↔ e ∈ r') : tksP r = tksP r' := by
  refine rise_one (tks_is r).1 (tks_is r').1 (fun t => ?_)
  rw [(tks_is r).2, (tks_is r').2]
  constructor
  · rintro ⟨e, he, h1⟩; exact ⟨e, (h e).1 he, h1⟩
  · rintro ⟨e, he, h1⟩; exact ⟨e, (h e).2 he, h1⟩
theorem BL_mem {g : Int} {l l' : List Ev} {p : ByteArray} (h : ∀ e, e ∈ ownB l p ↔ e ∈ ownB l' p) : BL g l p = BL g l' p := by
  unfold BL
  rw [bas_mem h, tks_mem h]
/-- Whatever row of a person's buys that never falls is scanned: the baskets are the person's. -/
theorem scan_BL {g : Int} (hg : 0 ≤ g) {l r : List Ev} {p : ByteArray} (hs : r.Pairwise fun a b => a.tick ≤ b.tick) (hm : ∀ e, e ∈ r ↔ e ∈ ownB l p) (hne : r ≠ []) : scanAll g r = BL g l p := by
  rw [scan_all hg hs hne]
  unfold BL
  obtain ⟨T, h1, h2, h3, _⟩ := iv_ticks hg (r.map (·.tick)) (List.pairwise_map.2 hs)
  have hT : T = tksP (ownB l p) := rise_one h1 (tks_is _).1 (fun t => by
    rw [h2, (tks_is _).2, List.mem_map]
    constructor
    · rintro ⟨e, he, h⟩; exact ⟨e, (hm e).1 he, h⟩
    · rintro ⟨e, he, h⟩; exact ⟨e, (hm e).2 he, h⟩)
  have hiv : ivs g (r.map (·.tick)) = ivs g (tksP (ownB l p)) := by
    unfold ivs
    rw [← h3, hT]
  rw [hiv, bas_mem hm]

/-! ### counts -/
def nS (B : List Bsk) (x : ByteArray) : Nat := B.countP fun f => (f x).isSome
def nC (B : List Bsk) (x y : ByteArray) : Nat := B.countP fun f => behB f x y
/-- Who has buys. -/
def IsPpl (l : List Ev) (D : List ByteArray) : Prop := D.Nodup ∧ ∀ p, p ∈ D ↔ ∃ e ∈ l, buyB e = true ∧ e.person = p
/-- All baskets of people. -/
def BD (g : Int) (l : List Ev) (D : List ByteArray) : List Bsk := D.flatMap (BL g l)
theorem IsPpl.perm {l : List Ev} {D D' : List ByteArray} (h : IsPpl l D) (h' : IsPpl l D') : D.Perm D' :=
  (List.perm_ext_iff_of_nodup h.1 h'.1).2 (fun p => by rw [h.2, h'.2])
theorem BD_perm {g : Int} {l : List Ev} {D D' : List ByteArray} (h : D.Perm D') : (BD g l D).Perm (BD g l D') := h.flatMap_right _
theorem BD_len {g : Int} {l : List Ev} {D D' : List ByteArray} (h : IsPpl l D) (h' : IsPpl l D') : (BD g l D).length = (BD g l D').length := (BD_perm (h.perm h')).length_eq
theorem BD_S {g : Int} {l : List Ev} {D D' : List ByteArray} (h : IsPpl l D) (h' : IsPpl l D') (x : ByteArray) : nS (BD g l D) x = nS (BD g l D') x := (BD_perm (h.perm h')).countP_eq _
theorem BD_C {g : Int} {l : List Ev} {D D' : List ByteArray} (h : IsPpl l D) (h' : IsPpl l D') (x y : ByteArray) : nC (BD g l D) x y = nC (BD g l D') x y := (BD_perm (h.perm h')).countP_eq _

end Go.Proofs.YtcgangmmehbdoaaDoor
