/- Rows of a list, plain: which may be; what has to be told. -/
import Derived.Test.YtikbckpphkpaiaaGreatDoorFindsP
namespace Go.Proofs.YtikbckpphkpaiaaGreatDoor
open Go.Shelf Go.RowKit Go.Maps
set_option linter.unusedVariables false

/-- A row of a list. -/
structure Ro where
  name : ByteArray
  maker : ByteArray
  tags : ByteArray
  price : Int
  stock : Int
def roC (r : Ro) : List Value := [.string r.name, .string r.maker, .string r.tags, .int .i64 r.price, .int .i64 r.stock]
theorem roC_len (r : Ro) : (roC r).length = 5 := rfl
/-- A row of a thing. -/
def roOf (x : It) : Ro := ⟨x.name, x.maker, x.tags, x.price, x.stock⟩
/-- A number within the bounds of values? -/
def withB (n : Int) : Bool := decide (0 ≤ n ∧ n ≤ 1048576)
def tagsOkB (t : ByteArray) : Bool := decide ((tagsOf t).length ≤ 8) && riseB (tagsOf t)
/-- May a row be? -/
def mayR (r : Ro) : Bool := nameB r.name && (nameB r.maker && (withB r.price && (withB r.stock && tagsOkB r.tags)))
theorem tagsOf_eq (t : ByteArray) : tagsOf t = if t = ⟨#[]⟩ then [] else parts t := by
  unfold tagsOf evTags
  rw [semi_rest]

/-- The row with a name. -/
def findR (l : List Ro) (n : ByteArray) : Option Ro := l.find? fun r => decide (r.name = n)
/-- May a list be? -/
def okL (l : List Ro) : Bool := l.all mayR && decide ((l.map (·.name)).Nodup) && decide (l.length ≤ 4096)
theorem okL_iff (l : List Ro) : okL l = true ↔ (∀ r ∈ l, mayR r = true) ∧ (l.map (·.name)).Nodup ∧ l.length ≤ 4096 := by
  unfold okL
  rw [Bool.and_eq_true, Bool.and_eq_true, List.all_eq_true, decide_eq_true_iff, decide_eq_true_iff, and_assoc]

/-! ### what has to be told -/
/-- Of one name. -/
def tell1 (x : It) (r : Option Ro) : List (Int × Int × ByteArray) := match r with
  | none => [(13, 0, ⟨#[]⟩)]
  | some r => (if x.listed = true ∧ x.maker = r.maker ∧ x.tags = r.tags ∧ x.price = r.price then [] else [(11, r.price, r.maker ++ ⟨#[59]⟩ ++ r.tags)]) ++ (if x.stock = r.stock then [] else [(12, r.stock, ⟨#[]⟩)])
def tellsOf (es : List Ev) (t : Int) (l : List Ro) (n : ByteArray) : List (Int × Int × ByteArray) := tell1 ((atP es n t).getD it0) (findR l n)
def mkE (src : ByteArray) (num t : Int) (n : ByteArray) (p : Int × Int × ByteArray) : Ev := ⟨src, num, t, p.1, ⟨#[]⟩, n, p.2.1, p.2.2⟩
/-- All of them, without numbers. -/
def rawD (es : List Ev) (t : Int) (src : ByteArray) (l : List Ro) (ns : List ByteArray) : List Ev := ns.flatMap fun n => (tellsOf es t l n).map (mkE src 0 t n)
theorem rawD_snoc (es : List Ev) (t : Int) (src : ByteArray) (l : List Ro) (ns : List ByteArray) (n : ByteArray) : rawD es t src l (ns ++ [n]) = rawD es t src l ns ++ (tellsOf es t l n).map (mkE src 0 t n) := by
  unfold rawD; rw [List.flatMap_append]; simp
def setNum (e : Ev) (n : Int) : Ev := ⟨e.src, n, e.tick, e.kind, e.person, e.item, e.value, e.text⟩
/-- Numbers, one behind the other. -/
def numD (n : Int) (L : List Ev) : List Ev := L.mapIdx fun i e => setNum e (IntKind.i64.wrap (n + i))
theorem numD_len (n : Int) (L : List Ev) : (numD n L).length = L.length := by unfold numD; simp
theorem numD_snoc (n : Int) (L : List Ev) (e : Ev) : numD n (L ++ [e]) = numD n L ++ [setNum e (IntKind.i64.wrap (n + L.length))] := by
  unfold numD; simp
/-- Numbers as far as the i-th. -/
def midN (n : Int) (L : List Ev) (i : Nat) : List Ev := L.mapIdx fun j e => if j < i then setNum e (IntKind.i64.wrap (n + j)) else e
theorem mid_zero (n : Int) (L : List Ev) : midN n L 0 = L := by
  unfold midN
  apply List.ext_getElem? 
  intro i
  rw [List.getElem?_mapIdx]
  cases L[i]? <;> simp
theorem mid_all (n : Int) (L : List Ev) : midN n L L.length = numD n L := by
  unfold midN numD
  apply List.ext_getElem?
  intro i
  rw [List.getElem?_mapIdx, List.getElem?_mapIdx]
  cases h : L[i]? with
  | none => rfl
  | some e =>
    have := (List.getElem?_eq_some_iff.1 h).1
    simp [this]
theorem mid_at {n : Int} {L : List Ev} {i : Nat} {e : Ev} (h : L[i]? = some e) : (midN n L i)[i]? = some e := by
  unfold midN
  rw [List.getElem?_mapIdx, h]
  simp
theorem mid_set (n : Int) {L : List Ev} {i : Nat} {e : Ev} (h : L[i]? = some e) (hb : -9223372036854775808 ≤ n + i ∧ n + i ≤ 9223372036854775807) : (midN n L i).set i (setNum e (n + i)) = midN n L (i + 1) := by
  unfold midN
  apply List.ext_getElem?
  intro j
  rw [List.getElem?_set, List.getElem?_mapIdx, List.getElem?_mapIdx, List.length_mapIdx]
  by_cases hj : i = j
  · subst hj
    rw [if_pos rfl, if_pos (List.getElem?_eq_some_iff.1 h).1, h]
    simp [IntWalk.i64_in _ hb]
  · rw [if_neg hj]
    cases L[j]? with
    | none => rfl
    | some x =>
      have : (j < i) ↔ (j < i + 1) := by omega
      simp [this]
theorem flat_set {l : List Ev} {k : Nat} {e : Ev} (h : l[k]? = some e) {n : Int} : (l.flatMap evC).set (k * 8 + 1) (.int .i64 n) = (l.set k (setNum e n)).flatMap evC := by
  induction l generalizing k with
  | nil => simp at h
  | cons a l ih =>
    cases k with
    | zero =>
      simp at h
      subst h
      rfl
    | succ k =>
      rw [List.set_cons_succ, List.flatMap_cons, List.flatMap_cons, ← ih (by simpa using h), List.set_append, if_neg (by rw [evC_len]; omega), evC_len]
      congr 2
      omega
/-- The names that a catalog and a list have. -/
def NamesD (es : List Ev) (t : Int) (l : List Ro) (ns : List ByteArray) : Prop := IsNames (fun y => whB es t (fun _ => true) y || (findR l y).isSome) ns
/-- May it be told at all? -/
def goesD (l : List Ro) (src : ByteArray) (t n : Int) : Bool := okL l && (nameB src && (decide (0 ≤ t) && (decide (t ≤ 1099511627776) && decide (1 ≤ n))))
/-- What has to be told. -/
def IsDiff (es : List Ev) (t : Int) (src : ByteArray) (n : Int) (l : List Ro) (out : List Ev) : Prop :=
  (goesD l src t n = false → out = []) ∧ (goesD l src t n = true → ∀ ns, NamesD es t l ns → out = if 0 < (rawD es t src l ns).length ∧ 1099511627777 - (rawD es t src l ns).length < n then [] else numD n (rawD es t src l ns))

end Go.Proofs.YtikbckpphkpaiaaGreatDoor
