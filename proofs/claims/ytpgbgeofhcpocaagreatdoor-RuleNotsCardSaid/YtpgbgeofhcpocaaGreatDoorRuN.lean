/- Nodes in memory, and rows of them made flat: the plain part. -/
import Derived.Test.YtpgbgeofhcpocaaGreatDoorTok
namespace Go.Proofs.YtpgbgeofhcpocaaGreatDoor
open Go.RowKit Go.Maps Go.Shelf
set_option linter.unusedVariables false

/-- The type of a row: 0 or, 1 and. -/
def rowT (k : Nat) : TypeId := if k = 0 then 73 else 75
theorem rowT_inj {k j : Nat} (hk : k < 2) (hj : j < 2) (h : rowT k = rowT j) : k = j := by
  unfold rowT at h
  by_cases h1 : k = 0
  · by_cases h2 : j = 0
    · omega
    · rw [if_pos h1, if_neg h2] at h; exact absurd h (by decide)
  · by_cases h2 : j = 0
    · rw [if_neg h1, if_pos h2] at h; exact absurd h (by decide)
    · omega
def leafV : Leaf → Value
  | .follows => .iface 84 (.agg #[.string followsW])
  | .done => .iface 84 (.agg #[.string doneW])
  | .tag x => .iface 79 (.agg #[.string tagW, .string x])
  | .maker x => .iface 79 (.agg #[.string makerW, .string x])
  | .num k less n => .iface 81 (.agg #[.string (whatW k), .bool less, .int .i64 n])
/-- A row of values, in blocks from B on. -/
structure RowV (w : World) (B : Nat) (A : Option Addr) (m c : Nat) (xs : List Value) : Prop where
  row : RowIn w w.heap.size 1 A m xs
  len : xs.length = m
  far : ∀ g o, A = some ⟨g, o, none⟩ → B ≤ g
  nc : A = none → c = 0
  one : ∀ u ∈ xs, u.oneCell' = true
theorem RowV.keep {w w' : World} {B m c : Nat} {A : Option Addr} {xs : List Value} (h : RowV w B A m c xs) (hs : w.heap.size ≤ w'.heap.size) (hb : ∀ i, i < w.heap.size → B ≤ i → w'.heap[i]? = w.heap[i]?) : RowV w' B A m c xs := by
  refine ⟨⟨h.row.1, ?_⟩, h.len, h.far, h.nc, h.one⟩
  rcases h.row.2 with h0 | ⟨b, off, e, hbl, hc⟩
  · exact Or.inl h0
  · refine Or.inr ⟨b, off, e, by omega, fun j u hu => ?_⟩
    exact (World.cell?_of_block (hb b hbl (h.far b off e))).trans (hc j u hu)
theorem RowV.eq {w : World} {B B' m c c' : Nat} {A : Option Addr} {xs ys : List Value} (h : RowV w B A m c xs) (k : RowV w B' A m c' ys) : xs = ys := by
  refine List.ext_getElem? (fun j => ?_)
  by_cases hj : j < m
  · obtain ⟨g, o, rfl, _, hc⟩ := h.row.at (by omega)
    obtain ⟨g', o', e, _, hc'⟩ := k.row.at (by omega)
    injection e with e
    injection e with e1 e2
    subst e1 e2
    obtain ⟨x, hx⟩ : ∃ x, xs[j]? = some x := ⟨_, List.getElem?_eq_getElem (by rw [h.len]; exact hj)⟩
    obtain ⟨y, hy⟩ : ∃ y, ys[j]? = some y := ⟨_, List.getElem?_eq_getElem (by rw [k.len]; exact hj)⟩
    have h1 := hc j x hx
    rw [hc' j y hy] at h1
    rw [hx, hy]
    exact h1.symm
  · rw [List.getElem?_eq_none (by rw [h.len]; omega), List.getElem?_eq_none (by rw [k.len]; omega)]
/-- A node lies in a value, its rows in blocks from B on. -/
inductive NdAt (w : World) (B : Nat) : Nd → Value → Prop
  | atom (a : Leaf) : NdAt w B (.atom a) (leafV a)
  | no {n : Nd} {v : Value} (h : NdAt w B n v) : NdAt w B (.no n) (.iface 77 (.agg #[v]))
  | row {k : Nat} {l : List Nd} {A : Option Addr} {m c : Nat} {xs : List Value} (hr : RowV w B A m c xs) (hl : l.length = m) (h : ∀ (i : Nat) n v, l[i]? = some n → xs[i]? = some v → NdAt w B n v) : NdAt w B (.row k l) (.iface (rowT k) (.agg #[.slice A m c]))
theorem NdAt.keep {w w' : World} {B : Nat} {n : Nd} {v : Value} (h : NdAt w B n v) (hs : w.heap.size ≤ w'.heap.size) (hb : ∀ i, i < w.heap.size → B ≤ i → w'.heap[i]? = w.heap[i]?) : NdAt w' B n v := by
  induction h with
  | atom a => exact .atom a
  | no h ih => exact .no ih
  | row hr hl h ih => exact .row (hr.keep hs hb) hl ih
theorem NdAt.under {w w' : World} {B : Nat} {n : Nd} {v : Value} (h : NdAt w B n v) (k : Below w.heap.size w w') : NdAt w' B n v := h.keep k.size (fun i hi _ => k.block i hi)
theorem NdAt.kept {w w' : World} {B : Nat} {n : Nd} {v : Value} {S : Nat → Prop} (h : NdAt w B n v) (k : Kept S w w') (hS : ∀ i, S i → i < B) : NdAt w' B n v := h.keep k.size (fun i hi hB => k.block i hi (fun hs => by have := hS i hs; omega))
theorem NdAt.one {w : World} {B : Nat} {n : Nd} {v : Value} (h : NdAt w B n v) : v.oneCell' = true := by
  cases h with
  | atom a => cases a <;> rfl
  | no h => rfl
  | row hr hl h => rfl
/-- What any part of a rule is, whether parsing went well or not; at most N parts lie in it. -/
def Okv (w : World) (B N : Nat) (v : Value) : Prop := 1 ≤ N ∧ v.oneCell' = true ∧ (v = .nilIface ∨ (∃ t x, v = .iface t x ∧ t ≠ rowT 0 ∧ t ≠ rowT 1) ∨ ∃ k A m c xs, k < 2 ∧ v = .iface (rowT k) (.agg #[.slice A m c]) ∧ RowV w B A m c xs ∧ 2 ≤ m ∧ m ≤ N)
theorem Okv.keep {w w' : World} {B N : Nat} {v : Value} (h : Okv w B N v) (hs : w.heap.size ≤ w'.heap.size) (hb : ∀ i, i < w.heap.size → B ≤ i → w'.heap[i]? = w.heap[i]?) : Okv w' B N v := by
  obtain ⟨h0, h1, h2 | h2 | ⟨k, A, m, c, xs, hk, e, hr, hm⟩⟩ := h
  · exact ⟨h0, h1, Or.inl h2⟩
  · exact ⟨h0, h1, Or.inr (Or.inl h2)⟩
  · exact ⟨h0, h1, Or.inr (Or.inr ⟨k, A, m, c, xs, hk, e, hr.keep hs hb, hm⟩)⟩
theorem Okv.mono {w : World} {B N N' : Nat} {v : Value} (h : Okv w B N v) (hn : N ≤ N') : Okv w B N' v := by
  obtain ⟨h0, h1, h2 | h2 | ⟨k, A, m, c, xs, hk, e, hr, hm, hm2⟩⟩ := h
  · exact ⟨by omega, h1, Or.inl h2⟩
  · exact ⟨by omega, h1, Or.inr (Or.inl h2)⟩
  · exact ⟨by omega, h1, Or.inr (Or.inr ⟨k, A, m, c, xs, hk, e, hr, hm, by omega⟩)⟩
theorem Okv.nil (w : World) (B : Nat) : Okv w B 1 .nilIface := ⟨Nat.le_refl _, rfl, Or.inl rfl⟩
theorem Okv.leaf (w : World) (B : Nat) (a : Leaf) : Okv w B 1 (leafV a) := by
  refine ⟨Nat.le_refl _, by cases a <;> rfl, Or.inr (Or.inl ?_)⟩
  cases a <;> exact ⟨_, _, rfl, by decide, by decide⟩
theorem Okv.no {w : World} {B : Nat} (v : Value) : Okv w B 1 (.iface 77 (.agg #[v])) := ⟨Nat.le_refl _, rfl, Or.inr (Or.inl ⟨_, _, rfl, by decide, by decide⟩)⟩
/-- Parts, and how many lie in them. -/
inductive PartsOk (w : World) (B : Nat) : List Value → Nat → Prop
  | nil : PartsOk w B [] 0
  | snoc {vs : List Value} {M N : Nat} {v : Value} (h : PartsOk w B vs M) (hv : Okv w B N v) : PartsOk w B (vs ++ [v]) (M + N)
theorem PartsOk.keep {w w' : World} {B M : Nat} {vs : List Value} (h : PartsOk w B vs M) (hs : w.heap.size ≤ w'.heap.size) (hb : ∀ i, i < w.heap.size → B ≤ i → w'.heap[i]? = w.heap[i]?) : PartsOk w' B vs M := by
  induction h with
  | nil => exact .nil
  | snoc h hv ih => exact .snoc ih (hv.keep hs hb)
/-- A row made flat. -/
inductive Flat (w : World) (B k : Nat) : List Value → List Value → Prop
  | nil : Flat w B k [] []
  | row {vs us xs : List Value} {A : Option Addr} {m c : Nat} (h : Flat w B k vs us) (hr : RowV w B A m c xs) : Flat w B k (vs ++ [.iface (rowT k) (.agg #[.slice A m c])]) (us ++ xs)
  | one {vs us : List Value} {v : Value} (h : Flat w B k vs us) (hv : ∀ x, v ≠ .iface (rowT k) x) : Flat w B k (vs ++ [v]) (us ++ [v])
theorem snoc_inj {α : Type} {a b : List α} {x y : α} (h : a ++ [x] = b ++ [y]) : a = b ∧ x = y := by
  have := List.append_inj' h rfl
  exact ⟨this.1, by simpa using this.2⟩
theorem Flat.few {w : World} {B k : Nat} {vs us : List Value} (h : Flat w B k vs us) (hk : k < 2) : ∀ {M}, PartsOk w B vs M → us.length ≤ M ∧ vs.length ≤ us.length ∧ vs.length ≤ M := by
  induction h with
  | nil =>
    intro M hp
    simp
  | @row vs us xs A m c h hr ih =>
    intro M hp
    generalize hg : vs ++ [Value.iface (rowT k) (.agg #[.slice A m c])] = gs at hp
    cases hp with
    | nil => simp at hg
    | @snoc vs' M' N v h' hv =>
      obtain ⟨rfl, rfl⟩ := snoc_inj hg
      obtain ⟨i1, i2, i3⟩ := ih h'
      obtain ⟨h0, _, h2 | ⟨t, x, e, h3, h4⟩ | ⟨k', A', m', c', xs', hk', e, hr', hm, hm2⟩⟩ := hv
      · cases h2
      · injection e with e1 e2
        rcases (show k = 0 ∨ k = 1 by omega) with rfl | rfl
        · exact absurd e1.symm h3
        · exact absurd e1.symm h4
      · injection e with e1 e2
        have e3 : (#[Value.slice A m c] : Array Value) = #[.slice A' m' c'] := by injection e2
        have e4 : Value.slice A m c = .slice A' m' c' := by simpa using e3
        injection e4 with e5 e6 e7
        subst e6
        simp only [List.length_append, List.length_singleton, hr.len]
        omega
  | @one vs us v h hv' ih =>
    intro M hp
    generalize hg : vs ++ [v] = gs at hp
    cases hp with
    | nil => simp at hg
    | @snoc vs' M' N v' h' hv =>
      obtain ⟨rfl, rfl⟩ := snoc_inj hg
      obtain ⟨i1, i2, i3⟩ := ih h'
      have := hv.1
      simp only [List.length_append, List.length_singleton]
      omega
/-- Parts that are nodes: the flat row is of their parts. -/
theorem Flat.nodes {w : World} {B k : Nat} {vs us : List Value} (h : Flat w B k vs us) (hk : k < 2) : ∀ {ns : List Nd}, ns.length = vs.length → (∀ n ∈ ns, NF n) → (∀ (i : Nat) n v, ns[i]? = some n → vs[i]? = some v → NdAt w B n v) → (ns.flatMap (parts' k)).length = us.length ∧ ∀ (i : Nat) n v, (ns.flatMap (parts' k))[i]? = some n → us[i]? = some v → NdAt w B n v := by
  have split : ∀ {ns : List Nd} {vs : List Value} {v : Value}, ns.length = (vs ++ [v]).length → ∃ ns' n, ns = ns' ++ [n] ∧ ns'.length = vs.length := fun {ns vs v} hl => by
    have hne : ns ≠ [] := by rintro rfl; simp at hl
    exact ⟨ns.dropLast, ns.getLast hne, (List.dropLast_concat_getLast hne).symm, by simp at hl; simp; omega⟩
  have glue : ∀ {xs : List Nd} {ys : List Value} {xs' : List Nd} {ys' : List Value}, xs.length = ys.length → (∀ (i : Nat) n v, xs[i]? = some n → ys[i]? = some v → NdAt w B n v) → (∀ (i : Nat) n v, xs'[i]? = some n → ys'[i]? = some v → NdAt w B n v) → ∀ (i : Nat) n v, (xs ++ xs')[i]? = some n → (ys ++ ys')[i]? = some v → NdAt w B n v := fun {xs ys xs' ys'} hl h1 h2 i n v hn hv => by
    by_cases hi : i < xs.length
    · rw [List.getElem?_append_left hi] at hn
      rw [List.getElem?_append_left (by omega)] at hv
      exact h1 i n v hn hv
    · rw [List.getElem?_append_right (by omega)] at hn
      rw [List.getElem?_append_right (by omega), ← hl] at hv
      exact h2 _ n v hn hv
  induction h with
  | nil =>
    intro ns hl _ _
    obtain rfl := List.length_eq_zero_iff.1 hl
    simp
  | @row vs us xs A m c h hr ih =>
    intro ns hl hnf hat
    obtain ⟨ns', n, rfl, hl'⟩ := split hl
    obtain ⟨j1, j2⟩ := ih hl' (fun x hx => hnf x (by simp [hx])) (fun i x v hx hv => hat i x v (by rw [List.getElem?_append_left (List.getElem?_eq_some_iff.1 hx).1]; exact hx) (by rw [List.getElem?_append_left (List.getElem?_eq_some_iff.1 hv).1]; exact hv))
    have hn := hat ns'.length n (.iface (rowT k) (.agg #[.slice A m c])) (by simp) (by rw [hl']; simp)
    generalize hg : Value.iface (rowT k) (.agg #[.slice A m c]) = gv at hn
    cases hn with
    | atom a => cases a <;> (simp only [leafV] at hg; injection hg with e1 _; unfold rowT at e1; split at e1 <;> exact absurd e1 (by decide))
    | no h => injection hg with e1 _; unfold rowT at e1; split at e1 <;> exact absurd e1 (by decide)
    | @row k' l A' m' c' xs' hr' hl2 h2 =>
      injection hg with e1 e2
      have hnf2 := hnf (.row k' l) (by simp)
      have hk' : k' < 2 := by cases hnf2; assumption
      obtain rfl := rowT_inj hk hk' e1
      have e3 : (#[Value.slice A m c] : Array Value) = #[.slice A' m' c'] := by injection e2
      have e4 : Value.slice A m c = .slice A' m' c' := by simpa using e3
      injection e4 with e5 e6 e7
      subst e5 e6 e7
      obtain rfl := hr.eq hr'
      rw [List.flatMap_append, List.flatMap_singleton]
      have hp : parts' k (.row k l) = l := if_pos rfl
      rw [hp]
      refine ⟨by rw [List.length_append, List.length_append, j1, hl2, hr.len], glue j1 j2 h2⟩
  | @one vs us v h hv ih =>
    intro ns hl hnf hat
    obtain ⟨ns', n, rfl, hl'⟩ := split hl
    obtain ⟨j1, j2⟩ := ih hl' (fun x hx => hnf x (by simp [hx])) (fun i x v hx hv => hat i x v (by rw [List.getElem?_append_left (List.getElem?_eq_some_iff.1 hx).1]; exact hx) (by rw [List.getElem?_append_left (List.getElem?_eq_some_iff.1 hv).1]; exact hv))
    have hn := hat ns'.length n v (by simp) (by rw [hl']; simp)
    have hp : parts' k n = [n] := by
      cases hn with
      | atom a => rfl
      | no h => rfl
      | @row k' l A' m' c' xs' hr' hl2 h2 =>
        by_cases e : k' = k
        · subst e; exact absurd rfl (hv _)
        · exact if_neg e
    rw [List.flatMap_append, List.flatMap_singleton, hp]
    refine ⟨by rw [List.length_append, List.length_append, j1]; rfl, glue j1 j2 (fun i x y hx hy => ?_)⟩
    cases i with
    | zero => simp at hx hy; subst hx hy; exact hn
    | succ i => simp at hx
end Go.Proofs.YtpgbgeofhcpocaaGreatDoor
