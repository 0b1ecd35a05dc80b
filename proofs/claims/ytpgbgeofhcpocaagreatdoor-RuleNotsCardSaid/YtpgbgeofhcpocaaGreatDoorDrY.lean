/- The document of rules: a row's parts in memory: plain. -/
import Derived.Test.YtpgbgeofhcpocaaGreatDoorDrX
namespace Go.Proofs.YtpgbgeofhcpocaaGreatDoor
open Go.RowKit Go.Maps Go.Shelf
set_option linter.unusedVariables false

/-- Where a row stands behind a part. -/
structure RowDp (k Bn d : Nat) (g : Option Nat) (all : List Tk) (I : Nat) (w w' : World) (xs : List DV) (ok : Bool) (J : Nat) (ms : List Nd) : Prop where
  last : ok = false ∨ hd (tx (all.drop J)) ≠ wordOf k → P k d (tx (all.drop I)) ok (tx (all.drop J)) ms
  more : ok = true → hd (tx (all.drop J)) = wordOf k → ∀ ok2 L2 ns2, P k d (tx (all.drop (J + 1))) ok2 L2 ns2 → P k d (tx (all.drop I)) ok2 L2 (ms ++ ns2)
  le : I ≤ J
  lt : J < all.length
  few : xs.length ≤ 1 + J - I
  below : Below w.heap.size w w'
  own : ∀ j, g = some j → Bn ≤ j
  mem : ok = true → ∀ W : World, w'.heap.size ≤ W.heap.size → (∀ i, i < w'.heap.size → Bn ≤ i → some i ≠ g → W.heap[i]? = w'.heap[i]?) → (ms.flatMap (parts' k)).length = xs.length ∧ ∀ (i : Nat) n v, (ms.flatMap (parts' k))[i]? = some n → xs[i]? = some v → DNd W Bn n v
theorem glueD {W : World} {B : Nat} {xs xs' : List Nd} {ys ys' : List DV} (hl : xs.length = ys.length) (h1 : ∀ (i : Nat) n v, xs[i]? = some n → ys[i]? = some v → DNd W B n v) (h2 : ∀ (i : Nat) n v, xs'[i]? = some n → ys'[i]? = some v → DNd W B n v) : ∀ (i : Nat) n v, (xs ++ xs')[i]? = some n → (ys ++ ys')[i]? = some v → DNd W B n v := fun i n v hn hv => by
  by_cases hi : i < xs.length
  · rw [List.getElem?_append_left hi] at hn
    rw [List.getElem?_append_left (by omega)] at hv
    exact h1 i n v hn hv
  · rw [List.getElem?_append_right (by omega)] at hn
    rw [List.getElem?_append_right (by omega), ← hl] at hv
    exact h2 _ n v hn hv
theorem DNd.parts {W : World} {B k : Nat} {n : Nd} {v : DV} {pv : List DV} (hk : k < 2) (h : DNd W B n v) (hp : (v.k = k + 1 ∧ RowD W B v.A v.m v.c pv) ∨ (v.k ≠ k + 1 ∧ pv = [v])) : (parts' k n).length = pv.length ∧ ∀ (i : Nat) x u, (parts' k n)[i]? = some x → pv[i]? = some u → DNd W B x u := by
  have one : ∀ (i : Nat) x u, [n][i]? = some x → [v][i]? = some u → DNd W B x u := fun i x u hx hu => by
    cases i with
    | zero => simp at hx hu; subst hx hu; exact h
    | succ i => simp at hx
  cases h with
  | atom a =>
    rcases hp with ⟨e, _⟩ | ⟨_, rfl⟩
    · exact absurd e (by show ¬ 4 = k + 1; omega)
    · exact ⟨rfl, one⟩
  | no hr h =>
    rcases hp with ⟨e, _⟩ | ⟨_, rfl⟩
    · exact absurd e (by show ¬ 3 = k + 1; omega)
    · exact ⟨rfl, one⟩
  | @row k' l A m c xs hr hl h =>
    rcases hp with ⟨e, hr2⟩ | ⟨e, rfl⟩
    · have e2 : k' = k := by have : k' + 1 = k + 1 := e; omega
      subst e2
      obtain rfl := hr.eq hr2
      have hp : parts' k' (.row k' l) = l := if_pos rfl
      rw [hp]
      exact ⟨by rw [hl, hr.len], h⟩
    · have hp : parts' k (.row k' l) = [.row k' l] := if_neg (fun e2 => e (by show k' + 1 = k + 1; omega))
      rw [hp]
      exact ⟨rfl, one⟩
theorem RowDp.of {k Bn B1 d I J J' b4 b11 : Nat} {g g7 : Option Nat} {all : List Tk} {w w1 w0 w2 w3 w3' w7 : World} {xs pv : List DV} {ms ns : List Nd} {v : DV} {ok : Bool} (hk : k < 2) (hlen : all.length = all.length) (hBn : w.heap.size ≤ Bn) (hBw : Bn ≤ w1.heap.size)
    (h : RowDs k Bn d g all I w w1 xs J ms) (hown : ∀ j, g = some j → Bn ≤ j ∧ j < w1.heap.size) (h10 : Below w1.heap.size w1 w0) (hp : DrIs (k + 1) B1 d all J w0 w2 v ok J' ns) (hB1 : w1.heap.size ≤ B1) (h23 : Kept (fun i => i = b4 ∨ i = b11) w2 w3) (hb4 : w.heap.size ≤ b4) (hb4' : b4 < Bn) (hb11 : w1.heap.size ≤ b11) (hb11' : b11 < B1)
    (h33 : Below w3.heap.size w3 w3') (hg7 : w3'.grownBy w7 g) (hv7 : g7 = g ∨ g7 = some w3'.heap.size) (hpv : (v.k = k + 1 ∧ RowD w2 B1 v.A v.m v.c pv) ∨ (v.k ≠ k + 1 ∧ pv = [v])) (hpl : pv.length ≤ 1 + J' - J) :
    RowDp k Bn d g7 all I w w7 (xs ++ pv) ok J' (ms ++ [nodeOf (k + 1) ns]) := by
  obtain ⟨i1, i2, i3, i4, i5, i6⟩ := hp
  have s10 := h10.size
  have s02 := i6.size
  have s23 := h23.size
  have s33 := h33.size
  have s7 := hg7.size
  have hl1 := h.le
  have hl2 := h.few
  refine ⟨fun hn => h.go _ _ _ (.rlast hk i1 hn), fun ho hw ok2 L2 ns2 h2 => ?_, by omega, i3, by rw [List.length_append]; omega, ?_, fun j hj => ?_, fun ho W hs hW => ?_⟩
  · subst ho
    rw [List.append_assoc]
    exact h.go _ _ _ (.rmore hk i1 hw (by rw [tail_drop]; exact h2))
  · have hb := h.below
    have hb2 : Below w.heap.size w w2 := (hb.trans (h10.mono hb.size)).trans (i6.mono (by have := hb.size; omega))
    have hb3 : Below w.heap.size w w3 := hb2.trans (h23.toBelow (fun i hi => by omega) hb2.size)
    exact (hb3.trans (h33.mono hb3.size)).grown hg7 (by have := hb3.size; omega) (fun j hj => Nat.le_trans hBn (hown j hj).1)
  · rcases hv7 with e | e
    · exact (hown j (e.symm.trans hj)).1
    · rw [e] at hj
      injection hj with hj
      omega
  · have c7 : ∀ i, i < w3'.heap.size → some i ≠ g → some i ≠ g7 := fun i hi hg e => by
      rcases hv7 with e7 | e7
      · exact hg (e.trans e7)
      · rw [e7] at e; injection e with e; omega
    have a3 : ∀ i, i < w3.heap.size → Bn ≤ i → some i ≠ g → W.heap[i]? = w3.heap[i]? := fun i hi hB hg => ((hW i (by omega) hB (c7 i (by omega) hg)).trans (hg7.block i (by omega) hg)).trans (h33.block i hi)
    have a2 : ∀ i, i < w2.heap.size → Bn ≤ i → some i ≠ g → i ≠ b11 → W.heap[i]? = w2.heap[i]? := fun i hi hB hg hn => (a3 i (by omega) hB hg).trans (h23.block i hi (fun h => by omega))
    have a1 : ∀ i, i < w1.heap.size → Bn ≤ i → some i ≠ g → W.heap[i]? = w1.heap[i]? := fun i hi hB hg => ((a2 i (by omega) hB hg (by omega)).trans (i6.block i (by omega))).trans (h10.block i hi)
    have aB : ∀ i, i < w2.heap.size → B1 ≤ i → W.heap[i]? = w2.heap[i]? := fun i hi hB => a2 i hi (by omega) (fun e => by have := hown i e.symm; omega) (by omega)
    obtain ⟨m1, m2⟩ := h.mem W (by omega) a1
    have hnd := ((i5 ho).keep (by omega) aB).low (B' := Bn) (by omega)
    have hpv' : (v.k = k + 1 ∧ RowD W Bn v.A v.m v.c pv) ∨ (v.k ≠ k + 1 ∧ pv = [v]) := by
      rcases hpv with ⟨e, hr⟩ | h
      · exact Or.inl ⟨e, (hr.keep (by omega) aB).low (by omega)⟩
      · exact Or.inr h
    obtain ⟨p1, p2⟩ := hnd.parts hk hpv'
    rw [List.flatMap_append, List.flatMap_singleton]
    exact ⟨by rw [List.length_append, List.length_append, m1, p1], glueD m1 m2 p2⟩
/-- A row that goes on. -/
theorem RowDp.next {k Bn d I J b4 : Nat} {g : Option Nat} {all : List Tk} {w w7 w8 : World} {xs : List DV} {ms : List Nd} (hBn : w.heap.size ≤ Bn) (h : RowDp k Bn d g all I w w7 xs true J ms) (hw : hd (tx (all.drop J)) = wordOf k) (hJ : J + 1 < all.length) (h78 : Kept (fun i => i = b4) w7 w8) (hb4 : w.heap.size ≤ b4) (hb4' : b4 < Bn) : RowDs k Bn d g all I w w8 xs (J + 1) ms :=
  ⟨h.more rfl hw, Nat.le_succ_of_le h.le, hJ, by have := h.few; have := h.le; omega, h.below.trans (h78.toBelow (fun i hi => by omega) h.below.size), fun j hj => Nat.le_trans hBn (h.own j hj), fun W hs hW => h.mem rfl W (Nat.le_trans h78.size hs) (fun i hi hB hg => (hW i (Nat.lt_of_lt_of_le hi h78.size) hB hg).trans (h78.block i hi (fun e => by omega)))⟩
/-- A row's end, of two parts or more. -/
theorem RowDp.fin2 {k B Bn d I J : Nat} {g : Option Nat} {all : List Tk} {w w7 w8 : World} {xs : List DV} {ok : Bool} {ms : List Nd} (hk : k < 2) (hB : B ≤ Bn) (h : RowDp k Bn d g all I w w7 xs ok J ms) (hn : ok = false ∨ hd (tx (all.drop J)) ≠ wordOf k) (h78 : Kept (fun i => w.heap.size ≤ i ∧ i < Bn) w7 w8) {A' : Option Addr} {m' c' : Nat} (hr : RowD w7 Bn A' m' c' xs) (hm : 2 ≤ m') : DrIs k B d all I w w8 ⟨k + 1, A', m', c', ⟨#[]⟩⟩ ok J ms := by
  have hr8 : RowD w8 Bn A' m' c' xs := hr.keep h78.size (fun i hi hBi => h78.block i hi (fun e => by omega))
  have hl := hr.len
  have hf := h.few
  refine ⟨h.last hn, h.le, h.lt, ⟨by have := h.le; omega, ⟨xs, hr8.low hB⟩, by show m' ≤ _; omega, by show k + 1 ≤ 4; omega, fun _ => hm⟩, fun ho => ?_, h.below.trans (h78.toBelow (fun i hi => hi.1) h.below.size)⟩
  obtain ⟨m1, m2⟩ := h.mem ho w8 h78.size (fun i hi hBi _ => h78.block i hi (fun e => by omega))
  have e : nodeOf k ms = mkRow k (ms.flatMap (parts' k)) := if_pos hk
  rw [e]
  generalize ms.flatMap (parts' k) = l at m1 m2
  have hm2 : mkRow k l = .row k l := by
    match l, m1 with
    | [], h3 => rfl
    | [n], h3 => simp at h3; omega
    | a :: b :: r, _ => rfl
  rw [hm2]
  exact (DNd.row hr8 (by omega) m2).low hB
/-- A row's end, of one part. -/
theorem RowDp.fin1 {k B Bn d I J : Nat} {g : Option Nat} {all : List Tk} {w w7 w8 : World} {v : DV} {ok : Bool} {ms : List Nd} (hk : k < 2) (hB : B ≤ Bn) (h : RowDp k Bn d g all I w w7 [v] ok J ms) (hn : ok = false ∨ hd (tx (all.drop J)) ≠ wordOf k) (h78 : Kept (fun i => w.heap.size ≤ i ∧ i < Bn) w7 w8) (hv : DOk w8 B (1 + J - I) v) : DrIs k B d all I w w8 v ok J ms := by
  refine ⟨h.last hn, h.le, h.lt, hv, fun ho => ?_, h.below.trans (h78.toBelow (fun i hi => hi.1) h.below.size)⟩
  obtain ⟨m1, m2⟩ := h.mem ho w8 h78.size (fun i hi hBi _ => h78.block i hi (fun e => by omega))
  have e : nodeOf k ms = mkRow k (ms.flatMap (parts' k)) := if_pos hk
  rw [e]
  generalize ms.flatMap (parts' k) = l at m1 m2
  match l, m1 with
  | [n], _ => exact (m2 0 n v rfl rfl).low hB
/-- How many tokens are left, by the state in a box. -/
def mesD (b n : Nat) (w : World) : Nat := match w.cell? ⟨b, 1, none⟩ with | some (.int _ j) => n - j.toNat | _ => 0
theorem mesD_is {w : World} {b n J : Nat} {t : TypeId} {x z : Value} (h : Blk w b t #[x, .int .i64 J, z]) : mesD b n w = n - J := by
  have c1 : w.cell? ⟨b, 1, none⟩ = some (.int .i64 J) := h.cell 1
  unfold mesD
  rw [c1]
  simp
theorem RowD.of_own {w : World} {Bn : Nat} {e : TypeId} {A : Option Addr} {m c : Nat} {xs : List DV} (h : w.ownsRow Bn e 3 (.slice A m c) m (xs.flatMap DV.cs)) (hl : xs.length = m) : RowD w Bn A m c xs := by
  refine ⟨RowIn.of_own h, hl, fun g o e => (h.lt g (by rw [e]; rfl)).1, fun e => ?_⟩
  rcases h.2 with ⟨e2, _⟩ | ⟨g, cap, cur, e2, _⟩
  · injection e2
  · rw [e] at e2; injection e2 with e3; cases e3
end Go.Proofs.YtpgbgeofhcpocaaGreatDoor
