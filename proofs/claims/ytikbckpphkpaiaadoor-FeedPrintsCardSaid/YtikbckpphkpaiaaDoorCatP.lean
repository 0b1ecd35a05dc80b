/- The catalog as a list of events: what it holds of each thing. Plain. -/
import Derived.Test.YtikbckpphkpaiaaDoorEvMay
namespace Go.Proofs.YtikbckpphkpaiaaDoor
set_option linter.unusedVariables false

structure It where
  name : ByteArray
  maker : ByteArray
  tags : ByteArray
  stock : Int
  price : Int
  born : Int
  listed : Bool
structure St where
  tick : Int
  isborn : Bool
  item : It
def it0 : It := ⟨⟨#[]⟩, ⟨#[]⟩, ⟨#[]⟩, 0, 0, 0, false⟩
def st0 (n : ByteArray) : St := ⟨0, false, ⟨n, ⟨#[]⟩, ⟨#[]⟩, 0, 0, 0, false⟩⟩
/-- A thing behind an event. -/
def stepSt (s : St) (e : Ev) : St :=
  if e.kind = 11 then ⟨e.tick, true, ⟨s.item.name, headP e.text, restP e.text, s.item.stock, e.value, if s.isborn then s.item.born else e.tick, true⟩⟩
  else if e.kind = 12 then ⟨e.tick, s.isborn, ⟨s.item.name, s.item.maker, s.item.tags, e.value, s.item.price, s.item.born, s.item.listed⟩⟩
  else ⟨e.tick, s.isborn, ⟨s.item.name, s.item.maker, s.item.tags, s.item.stock, s.item.price, s.item.born, false⟩⟩
theorem stepSt_tick (s : St) (e : Ev) : (stepSt s e).tick = e.tick := by unfold stepSt; split; rfl; split <;> rfl
theorem stepSt_name (s : St) (e : Ev) : (stepSt s e).item.name = s.item.name := by unfold stepSt; split; rfl; split <;> rfl
def rowStep (row : List St) (e : Ev) : List St := row ++ [stepSt (row.getLast?.getD (st0 e.item)) e]
/-- The events of a thing. -/
def ofN (es : List Ev) (n : ByteArray) : List Ev := es.filter fun e => decide (e.item = n)
/-- A thing behind each of its events. -/
def rowOf (es : List Ev) (n : ByteArray) : List St := (ofN es n).foldl rowStep []

theorem ofN_snoc (es : List Ev) (e : Ev) (n : ByteArray) : ofN (es ++ [e]) n = if e.item = n then ofN es n ++ [e] else ofN es n := by
  unfold ofN
  rw [List.filter_append]
  by_cases h : e.item = n
  · rw [if_pos h]; simp [h]
  · rw [if_neg h]; simp [h]
theorem rowOf_snoc (es : List Ev) (e : Ev) (n : ByteArray) : rowOf (es ++ [e]) n = if e.item = n then rowStep (rowOf es n) e else rowOf es n := by
  unfold rowOf
  rw [ofN_snoc]
  split
  · rw [List.foldl_append]; rfl
  · rfl
theorem row_ticks (l : List Ev) : ∀ r : List St, (l.foldl rowStep r).map (·.tick) = r.map (·.tick) ++ l.map (·.tick) := by
  induction l with
  | nil => intro r; simp
  | cons e l ih =>
    intro r
    rw [List.foldl_cons, ih]
    simp [rowStep, stepSt_tick]
theorem rowOf_ticks (es : List Ev) (n : ByteArray) : (rowOf es n).map (·.tick) = (ofN es n).map (·.tick) := by
  have := row_ticks (ofN es n) []
  simpa [rowOf] using this
theorem rowOf_len (es : List Ev) (n : ByteArray) : (rowOf es n).length = (ofN es n).length := by
  have := congrArg List.length (rowOf_ticks es n)
  simpa using this
theorem rowOf_le (es : List Ev) (n : ByteArray) : (rowOf es n).length ≤ es.length := by
  rw [rowOf_len]
  exact List.length_filter_le _ _

/-- Is an event a catalog's? -/
def catB (e : Ev) : Bool := mayB e && decide (e.kind = 11 ∨ e.kind = 12 ∨ e.kind = 13)
/-- Does a catalog take it? -/
def takesB (es : List Ev) (e : Ev) : Bool := catB e && (match es.getLast? with | none => true | some l => decide (cmpE e l = 1))
/-- Rising ticks. -/
def Rising (es : List Ev) : Prop := es.Pairwise fun a b => a.tick ≤ b.tick
theorem cmpE_tick {x y : Ev} (h : cmpE x y = 1) : y.tick ≤ x.tick := by
  unfold cmpE at h
  simp only [orL] at h
  unfold cmpI at h
  split at h <;> first | omega | (split at h <;> first | omega | (split at h <;> omega))
theorem Rising.snoc {es : List Ev} (h : Rising es) {e : Ev} (ht : takesB es e = true) : Rising (es ++ [e]) := by
  unfold Rising
  rw [List.pairwise_append]
  refine ⟨h, List.pairwise_singleton _ _, ?_⟩
  intro a ha b hb
  obtain rfl : b = e := by simpa using hb
  unfold takesB at ht
  rw [Bool.and_eq_true] at ht
  obtain ⟨_, h2⟩ := ht
  cases hl : es.getLast? with
  | none => rw [List.getLast?_eq_none_iff] at hl; subst hl; cases ha
  | some l =>
    rw [hl] at h2
    have h3 := cmpE_tick (of_decide_eq_true h2)
    obtain ⟨ys, rfl⟩ := List.getLast?_eq_some_iff.1 hl
    rcases List.mem_append.1 ha with h4 | h4
    · have := (List.pairwise_append.1 h).2.2 a h4 l (by simp)
      omega
    · obtain rfl : a = l := by simpa using h4
      exact h3
theorem Rising.row {es : List Ev} (h : Rising es) (n : ByteArray) : (rowOf es n).Pairwise fun a b => a.tick ≤ b.tick := by
  have h1 : (ofN es n).Pairwise fun a b => a.tick ≤ b.tick := List.Pairwise.sublist List.filter_sublist h
  have h2 : ((ofN es n).map (·.tick)).Pairwise (· ≤ ·) := List.pairwise_map.2 h1
  rw [← rowOf_ticks] at h2
  exact List.pairwise_map.1 h2

/-- A thing's states up to a tick. -/
def uptoP (r : List St) (t : Int) : List St := r.takeWhile fun s => decide (s.tick ≤ t)
/-- A thing as of a tick. -/
def atP (es : List Ev) (n : ByteArray) (t : Int) : Option It := (uptoP (rowOf es n) t).getLast?.map (·.item)
theorem upto_of {r : List St} {t : Int} {k : Nat} (hk : k ≤ r.length) (h1 : ∀ j s, j < k → r[j]? = some s → s.tick ≤ t) (h2 : ∀ s, r[k]? = some s → t < s.tick) : uptoP r t = r.take k := by
  induction r generalizing k with
  | nil => simp [uptoP]
  | cons s r ih =>
    rcases k with _ | k
    · have := h2 s rfl
      simp only [uptoP, List.take_zero]
      rw [List.takeWhile_cons_of_neg]
      simpa using this
    · have h3 := h1 0 s (by omega) rfl
      simp only [uptoP]
      rw [List.takeWhile_cons_of_pos (by simpa using h3)]
      have := ih (k := k) (by simpa using hk) (fun j s hj hs => h1 (j + 1) s (by omega) (by simpa using hs)) (fun s hs => h2 s (by simpa using hs))
      rw [List.take_succ_cons, ← this]
      rfl

end Go.Proofs.YtikbckpphkpaiaaDoor
