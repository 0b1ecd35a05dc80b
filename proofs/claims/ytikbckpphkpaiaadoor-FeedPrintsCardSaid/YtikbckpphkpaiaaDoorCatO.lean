/- The order of events; which lists are taken whole; what a part of the events makes. Plain. -/
import Derived.Test.YtikbckpphkpaiaaDoorLawAwake
import Derived.Test.YtikbckpphkpaiaaDoorWhich
namespace Go.Proofs.YtikbckpphkpaiaaDoor
set_option linter.unusedVariables false

theorem cmpL_lt : ∀ (a b : List UInt8), Lib.compareBytes a b = if a < b then -1 else if a = b then 0 else 1
  | [], [] => by simp [Lib.compareBytes]
  | [], _ :: _ => by simp [Lib.compareBytes]
  | _ :: _, [] => by simp [Lib.compareBytes]
  | x :: a, y :: b => by
    have ih := cmpL_lt a b
    unfold Lib.compareBytes
    by_cases h1 : x < y
    · rw [if_pos h1, if_pos (List.cons_lt_cons_iff.2 (Or.inl h1))]
    · by_cases h2 : y < x
      · have hxy : x ≠ y := fun e => by subst e; exact h1 h2
        rw [if_neg h1, if_pos h2, if_neg (fun h => by rcases List.cons_lt_cons_iff.1 h with h | ⟨h, _⟩; exact h1 h; exact hxy h), if_neg (fun h => hxy (List.cons.inj h).1)]
      · have hxy : x = y := UInt8.le_antisymm (UInt8.not_lt.1 h2) (UInt8.not_lt.1 h1)
        subst hxy
        rw [if_neg h1, if_neg h1, ih]
        simp
theorem cmpB_one (a b : ByteArray) : cmpB a b = 1 ↔ ltN b a := by
  unfold cmpB
  rw [cmpL_lt]
  by_cases h1 : a.data.toList < b.data.toList
  · rw [if_pos h1]
    exact ⟨fun h => (by cases h), fun h => absurd (List.lt_trans h1 h) (List.lt_irrefl _)⟩
  · rw [if_neg h1]
    by_cases h2 : a.data.toList = b.data.toList
    · rw [if_pos h2]
      exact ⟨fun h => (by cases h), fun h => by unfold ltN at h; rw [h2] at h; exact absurd h (List.lt_irrefl _)⟩
    · rw [if_neg h2]
      exact ⟨fun _ => ltN_of (a := a) (b := b) h1 (fun e => h2 (by rw [e])), fun _ => rfl⟩
theorem cmpB_zero (a b : ByteArray) : cmpB a b = 0 ↔ a = b := by
  unfold cmpB
  rw [cmpL_lt]
  by_cases h1 : a.data.toList < b.data.toList
  · rw [if_pos h1]
    exact ⟨fun h => (by cases h), fun h => by subst h; exact absurd h1 (List.lt_irrefl _)⟩
  · rw [if_neg h1]
    by_cases h2 : a.data.toList = b.data.toList
    · rw [if_pos h2]
      exact ⟨fun _ => ba_eq h2, fun _ => rfl⟩
    · rw [if_neg h2]
      exact ⟨fun h => (by cases h), fun h => absurd (by rw [h]) h2⟩
theorem cmpI_one (a b : Int) : cmpI a b = 1 ↔ b < a := by
  unfold cmpI
  split
  · constructor <;> intro h <;> omega
  · split <;> constructor <;> intro h <;> omega
theorem cmpI_zero (a b : Int) : cmpI a b = 0 ↔ a = b := by
  unfold cmpI
  split
  · constructor <;> intro h <;> omega
  · split <;> constructor <;> intro h <;> omega
/-- One stands ahead of the other. -/
def ltE (a b : Ev) : Prop := a.tick < b.tick ∨ (a.tick = b.tick ∧ (ltN a.src b.src ∨ (a.src = b.src ∧ a.num < b.num)))
theorem cmpE_one (x y : Ev) : cmpE x y = 1 ↔ ltE y x := by
  unfold cmpE ltE
  simp only [orL]
  by_cases h1 : cmpI x.tick y.tick = 0
  · rw [if_pos h1]
    have e1 := (cmpI_zero _ _).1 h1
    by_cases h2 : cmpB x.src y.src = 0
    · rw [if_pos h2]
      have e2 := (cmpB_zero _ _).1 h2
      by_cases h3 : cmpI x.num y.num = 0
      · rw [if_pos h3]
        have e3 := (cmpI_zero _ _).1 h3
        rw [e1, e2, e3]
        constructor
        · intro h; cases h
        · rintro (h | ⟨_, h | ⟨_, h⟩⟩)
          · omega
          · exact absurd h (ltN_irr _)
          · omega
      · rw [if_neg h3, cmpI_one, e1, e2]
        constructor
        · intro h; exact Or.inr ⟨rfl, Or.inr ⟨rfl, h⟩⟩
        · rintro (h | ⟨_, h | ⟨_, h⟩⟩)
          · omega
          · exact absurd h (ltN_irr _)
          · exact h
    · rw [if_neg h2, cmpB_one, e1]
      have hne : ¬ x.src = y.src := fun e => h2 ((cmpB_zero _ _).2 e)
      constructor
      · intro h; exact Or.inr ⟨rfl, Or.inl h⟩
      · rintro (h | ⟨_, h | ⟨h, _⟩⟩)
        · omega
        · exact h
        · exact absurd h.symm hne
  · rw [if_neg h1, cmpI_one]
    have hne : ¬ x.tick = y.tick := fun e => h1 ((cmpI_zero _ _).2 e)
    constructor
    · intro h; exact Or.inl h
    · rintro (h | ⟨h, _⟩)
      · exact h
      · exact absurd h.symm hne
theorem ltE_irr (a : Ev) : ¬ ltE a a := by
  rintro (h | ⟨_, h | ⟨_, h⟩⟩)
  · omega
  · exact ltN_irr _ h
  · omega
theorem ltE_trans {a b c : Ev} (h : ltE a b) (k : ltE b c) : ltE a c := by
  rcases h with h | ⟨h1, h⟩
  · rcases k with k | ⟨k1, _⟩
    · exact Or.inl (by omega)
    · exact Or.inl (by omega)
  · rcases k with k | ⟨k1, k⟩
    · exact Or.inl (by omega)
    · refine Or.inr ⟨by omega, ?_⟩
      rcases h with h | ⟨h2, h⟩
      · rcases k with k | ⟨k2, k⟩
        · exact Or.inl (ltN_trans h k)
        · exact Or.inl (by rw [← k2]; exact h)
      · rcases k with k | ⟨k2, k⟩
        · exact Or.inl (by rw [h2]; exact k)
        · exact Or.inr ⟨h2.trans k2, by omega⟩
theorem takes_iff (es : List Ev) (e : Ev) : takesB es e = true ↔ catB e = true ∧ ∀ l, es.getLast? = some l → ltE l e := by
  unfold takesB
  rw [Bool.and_eq_true]
  cases es.getLast? with
  | none => simp
  | some l => simp [cmpE_one]

theorem madeFrom_iff : ∀ (l es : List Ev), es.Pairwise ltE → (madeFrom es l = true ↔ (∀ e ∈ l, catB e = true) ∧ (es ++ l).Pairwise ltE)
  | [], es, hes => by simp [madeFrom, hes]
  | e :: l, es, hes => by
    unfold madeFrom
    rw [Bool.and_eq_true, takes_iff]
    constructor
    · rintro ⟨⟨h1, h2⟩, h3⟩
      have hes' : (es ++ [e]).Pairwise ltE := by
        rw [List.pairwise_append]
        refine ⟨hes, List.pairwise_singleton _ _, fun a ha b hb => ?_⟩
        obtain rfl : b = e := by simpa using hb
        cases hl : es.getLast? with
        | none => rw [List.getLast?_eq_none_iff] at hl; rw [hl] at ha; cases ha
        | some m =>
          have hm := h2 m hl
          obtain ⟨ys, rfl⟩ := List.getLast?_eq_some_iff.1 hl
          rcases List.mem_append.1 ha with h4 | h4
          · exact ltE_trans ((List.pairwise_append.1 hes).2.2 a h4 m (by simp)) hm
          · obtain rfl : a = m := by simpa using h4
            exact hm
      have h4 := (madeFrom_iff l (es ++ [e]) hes').1 h3
      refine ⟨fun x hx => ?_, by simpa using h4.2⟩
      rcases List.mem_cons.1 hx with rfl | hx
      · exact h1
      · exact h4.1 x hx
    · rintro ⟨h1, h2⟩
      have h3 : ((es ++ [e]) ++ l).Pairwise ltE := by simpa using h2
      have hes' := (List.pairwise_append.1 h3).1
      refine ⟨⟨h1 e (by simp), fun m hm => ?_⟩, (madeFrom_iff l (es ++ [e]) hes').2 ⟨fun x hx => h1 x (List.mem_cons_of_mem _ hx), h3⟩⟩
      exact (List.pairwise_append.1 hes').2.2 m (List.mem_of_getLast? hm) e (by simp)
theorem made_iff (l : List Ev) : madeB l = true ↔ (∀ e ∈ l, catB e = true) ∧ l.Pairwise ltE := by
  unfold madeB
  rw [madeFrom_iff l [] List.Pairwise.nil]
  rfl
theorem made_sub {l l' : List Ev} (h : madeB l = true) (hs : List.Sublist l' l) : madeB l' = true := by
  rw [made_iff] at h ⊢
  exact ⟨fun e he => h.1 e (hs.subset he), h.2.sublist hs⟩

/-- The events that are taken, one by one. -/
def takeAll : List Ev → List Ev → List Ev
  | es, [] => es
  | es, e :: l => takeAll (aftP es e) l
theorem takeAll_snoc : ∀ (l es : List Ev) (e : Ev), takeAll es (l ++ [e]) = aftP (takeAll es l) e
  | [], es, e => rfl
  | x :: l, es, e => takeAll_snoc l (aftP es x) e
theorem takeAll_len : ∀ (l es : List Ev), (takeAll es l).length ≤ es.length + l.length
  | [], es => by simp [takeAll]
  | x :: l, es => by
    have := takeAll_len l (aftP es x)
    unfold takeAll
    have h2 : (aftP es x).length ≤ es.length + 1 := by unfold aftP; split <;> simp
    simp
    omega
theorem refused_stays {es : List Ev} {e x : Ev} (h : takesB es e = false) : takesB (aftP es x) e = false := by
  unfold aftP
  cases hx : takesB es x with
  | false => simpa using h
  | true =>
    rw [if_pos rfl]
    cases hq : takesB (es ++ [x]) e with
    | false => rfl
    | true =>
      rw [takes_iff] at hq hx
      have h1 := hq.2 x (by rw [List.getLast?_concat])
      have h2 : takesB es e = true := by
        rw [takes_iff]
        exact ⟨hq.1, fun l hl => ltE_trans (hx.2 l hl) h1⟩
      rw [h] at h2
      cases h2
theorem taken_stays (es : List Ev) (e : Ev) : takesB (aftP es e) e = false := by
  cases hx : takesB es e with
  | false => unfold aftP; rw [hx]; simpa using hx
  | true =>
    unfold aftP
    rw [hx, if_pos rfl]
    cases hq : takesB (es ++ [e]) e with
    | false => rfl
    | true =>
      rw [takes_iff] at hq
      exact absurd (hq.2 e (by rw [List.getLast?_concat])) (ltE_irr _)
theorem all_refused : ∀ (l es : List Ev), (∀ e, takesB es e = false → takesB (takeAll es l) e = false) ∧ ∀ e ∈ l, takesB (takeAll es l) e = false
  | [], es => ⟨fun _ h => h, fun e he => by cases he⟩
  | x :: l, es => by
    obtain ⟨h1, h2⟩ := all_refused l (aftP es x)
    refine ⟨fun e he => h1 e (refused_stays he), fun e he => ?_⟩
    rcases List.mem_cons.1 he with rfl | he
    · exact h1 e (taken_stays es e)
    · exact h2 e he

/-! ### what a part makes -/
theorem ofN_filter (l : List Ev) (n : ByteArray) : ofN (l.filter fun e => decide (e.item = n)) n = ofN l n := by
  unfold ofN
  rw [List.filter_filter]
  congr 1
  funext e
  simp
theorem at_own (l : List Ev) (n : ByteArray) (t : Int) : atP (l.filter fun e => decide (e.item = n)) n t = atP l n t := by
  unfold atP rowOf
  rw [ofN_filter]
theorem chg_own (l : List Ev) (n : ByteArray) : chgP (l.filter fun e => decide (e.item = n)) n = chgP l n := by
  unfold chgP rowOf
  rw [ofN_filter]
theorem ofN_app (a b : List Ev) (n : ByteArray) : ofN (a ++ b) n = ofN a n ++ ofN b n := by
  unfold ofN; rw [List.filter_append]
theorem foldl_pre (l : List Ev) : ∀ r : List St, ∃ s, l.foldl rowStep r = r ++ s ∧ s.map (·.tick) = l.map (·.tick) := by
  induction l with
  | nil => intro r; exact ⟨[], by simp, rfl⟩
  | cons e l ih =>
    intro r
    rw [List.foldl_cons]
    obtain ⟨s, h1, h2⟩ := ih (rowStep r e)
    refine ⟨stepSt (r.getLast?.getD (st0 e.item)) e :: s, by rw [h1]; unfold rowStep; simp, by simp [h2, stepSt_tick]⟩
theorem upto_app {r s : List St} {t : Int} (h1 : ∀ x ∈ r, x.tick ≤ t) (h2 : ∀ x ∈ s, t < x.tick) : uptoP (r ++ s) t = r := by
  induction r with
  | nil =>
    cases s with
    | nil => rfl
    | cons x s =>
      have := h2 x (by simp)
      simp only [uptoP, List.nil_append]
      rw [List.takeWhile_cons_of_neg (by simpa using this)]
  | cons x r ih =>
    have h0 := h1 x (by simp)
    simp only [uptoP, List.cons_append]
    rw [List.takeWhile_cons_of_pos (by simpa using h0)]
    have := ih (fun y hy => h1 y (List.mem_cons_of_mem _ hy))
    simp only [uptoP] at this
    rw [this]
theorem rise_split {l : List Ev} (h : Rising l) (t : Int) : ∃ b, l = (l.filter fun e => decide (e.tick ≤ t)) ++ b ∧ ∀ e ∈ b, t < e.tick := by
  induction l with
  | nil => exact ⟨[], rfl, fun e he => by cases he⟩
  | cons e l ih =>
    have hp := List.pairwise_cons.1 h
    by_cases he : e.tick ≤ t
    · obtain ⟨b, h1, h2⟩ := ih hp.2
      refine ⟨b, ?_, h2⟩
      rw [List.filter_cons_of_pos (by simpa using he), List.cons_append, ← h1]
    · refine ⟨e :: l, ?_, fun x hx => ?_⟩
      · have : (e :: l).filter (fun e => decide (e.tick ≤ t)) = [] := by
          rw [List.filter_eq_nil_iff]
          intro x hx
          rcases List.mem_cons.1 hx with rfl | hx
          · simpa using he
          · have := hp.1 x hx
            simp; omega
        rw [this]; rfl
      · rcases List.mem_cons.1 hx with rfl | hx
        · omega
        · have := hp.1 x hx
          omega
theorem row_in {es : List Ev} {n : ByteArray} {s : St} (h : s ∈ rowOf es n) : ∃ e ∈ es, e.tick = s.tick := by
  have h1 : s.tick ∈ (rowOf es n).map (·.tick) := List.mem_map.2 ⟨s, h, rfl⟩
  rw [rowOf_ticks] at h1
  obtain ⟨e, he, h2⟩ := List.mem_map.1 h1
  exact ⟨e, (List.mem_filter.1 he).1, h2⟩
/-- As of a tick just the events up to it play a part. -/
theorem at_ahead {l : List Ev} (h : Rising l) (n : ByteArray) (t : Int) : atP l n t = ((rowOf (l.filter fun e => decide (e.tick ≤ t)) n).getLast?).map (·.item) := by
  obtain ⟨b, h1, h2⟩ := rise_split h t
  generalize hf : (l.filter fun e => decide (e.tick ≤ t)) = a at *
  have ha : ∀ e ∈ a, e.tick ≤ t := fun e he => by rw [← hf] at he; simpa using (List.mem_filter.1 he).2
  unfold atP
  congr 1
  rw [h1]
  unfold rowOf
  rw [ofN_app, List.foldl_append]
  obtain ⟨s, h3, h4⟩ := foldl_pre (ofN b n) ((ofN a n).foldl rowStep [])
  rw [h3, upto_app]
  · intro x hx
    obtain ⟨e, he, h5⟩ := row_in (es := a) (n := n) hx
    rw [← h5]; exact ha e he
  · intro x hx
    have h5 : x.tick ∈ s.map (·.tick) := List.mem_map.2 ⟨x, hx, rfl⟩
    rw [h4] at h5
    obtain ⟨e, he, h6⟩ := List.mem_map.1 h5
    rw [← h6]
    exact h2 e (List.mem_filter.1 he).1
theorem at_all {l : List Ev} {t : Int} (h : ∀ e ∈ l, e.tick ≤ t) (n : ByteArray) : atP l n t = ((rowOf l n).getLast?).map (·.item) := by
  unfold atP
  congr 1
  have := upto_app (r := rowOf l n) (s := []) (t := t) (fun x hx => by
    obtain ⟨e, he, h5⟩ := row_in hx
    rw [← h5]; exact h e he) (fun x hx => by cases hx)
  rw [List.append_nil] at this
  rw [this]
theorem cat_tick {e : Ev} (h : catB e = true) : e.tick ≤ 1099511627776 := by
  unfold catB at h
  rw [Bool.and_eq_true] at h
  have h1 := h.1
  unfold mayB at h1
  simp only [Bool.and_eq_true, decide_eq_true_eq] at h1
  exact h1.2.2.1.2

end Go.Proofs.YtikbckpphkpaiaaDoor
