/- The document of rules: its nodes in memory: plain. -/
import Derived.Test.YtpgbgeofhcpocaaGreatDoorDrT
namespace Go.Proofs.YtpgbgeofhcpocaaGreatDoor
open Go.RowKit Go.Maps Go.Shelf
set_option linter.unusedVariables false

/-- A node of the document, as a value. -/
structure DV where
  k : Nat
  A : Option Addr
  m : Nat
  c : Nat
  s : ByteArray
def DV.cs (d : DV) : List Value := [.int .i64 d.k, .slice d.A d.m d.c, .string d.s]
def DV.v (d : DV) : Value := .agg #[.int .i64 d.k, .slice d.A d.m d.c, .string d.s]
theorem DV.cs_len (d : DV) : d.cs.length = 3 := rfl
theorem dv_one (d : DV) : ∀ u ∈ d.cs, u.oneCell' = true := fun u hu => by simp [DV.cs] at hu; rcases hu with rfl | rfl | rfl <;> rfl
/-- A row of nodes, in blocks from B on. -/
structure RowD (w : World) (B : Nat) (A : Option Addr) (m c : Nat) (xs : List DV) : Prop where
  row : RowIn w w.heap.size 3 A m (xs.flatMap DV.cs)
  len : xs.length = m
  far : ∀ g o, A = some ⟨g, o, none⟩ → B ≤ g
  nc : A = none → c = 0
theorem RowD.keep {w w' : World} {B m c : Nat} {A : Option Addr} {xs : List DV} (h : RowD w B A m c xs) (hs : w.heap.size ≤ w'.heap.size) (hb : ∀ i, i < w.heap.size → B ≤ i → w'.heap[i]? = w.heap[i]?) : RowD w' B A m c xs := by
  refine ⟨⟨h.row.1, ?_⟩, h.len, h.far, h.nc⟩
  rcases h.row.2 with h0 | ⟨b, off, e, hbl, hc⟩
  · exact Or.inl h0
  · refine Or.inr ⟨b, off, e, by omega, fun j u hu => ?_⟩
    exact (World.cell?_of_block (hb b hbl (h.far b off e))).trans (hc j u hu)
theorem RowD.low {w : World} {B B' m c : Nat} {A : Option Addr} {xs : List DV} (h : RowD w B A m c xs) (hB : B' ≤ B) : RowD w B' A m c xs := ⟨h.row, h.len, fun g o e => Nat.le_trans hB (h.far g o e), h.nc⟩
theorem RowD.nil (w : World) (B : Nat) : RowD w B none 0 0 [] := ⟨⟨rfl, Or.inl rfl⟩, rfl, fun g o e => (by cases e), fun _ => rfl⟩
theorem DV.ext {x y : DV} (h : x.cs = y.cs) : x = y := by
  cases x; cases y
  simp only [DV.cs, List.cons.injEq, Value.int.injEq, Value.slice.injEq, Value.string.injEq, and_true, true_and] at h
  obtain ⟨h1, ⟨h2, h3, h4⟩, h5⟩ := h
  subst h2 h3 h4 h5
  congr 1
  omega
theorem RowD.get {w : World} {B m c : Nat} {A : Option Addr} {xs : List DV} (h : RowD w B A m c xs) {i : Nat} {x : DV} (hx : xs[i]? = some x) : ∃ g o, A = some ⟨g, o, none⟩ ∧ g < w.heap.size ∧ ∀ (j : Nat) u, x.cs[j]? = some u → w.cell? ⟨g, o + (i * 3 + j), none⟩ = some u := by
  have hi := (List.getElem?_eq_some_iff.1 hx).1
  obtain ⟨g, o, e, hg, hc⟩ := h.row.at (by have := h.len; omega)
  refine ⟨g, o, e, hg, fun j u hu => hc _ u ?_⟩
  have hj := (List.getElem?_eq_some_iff.1 hu).1
  rw [DV.cs_len] at hj
  rw [flat_get DV.cs 3 DV.cs_len xs i j x hx hj]
  exact hu
theorem RowD.eq {w : World} {B B' m c c' : Nat} {A : Option Addr} {xs ys : List DV} (h : RowD w B A m c xs) (k : RowD w B' A m c' ys) : xs = ys := by
  refine List.ext_getElem? (fun j => ?_)
  by_cases hj : j < m
  · obtain ⟨x, hx⟩ : ∃ x, xs[j]? = some x := ⟨_, List.getElem?_eq_getElem (by rw [h.len]; exact hj)⟩
    obtain ⟨y, hy⟩ : ∃ y, ys[j]? = some y := ⟨_, List.getElem?_eq_getElem (by rw [k.len]; exact hj)⟩
    obtain ⟨g, o, rfl, _, hc⟩ := h.get hx
    obtain ⟨g', o', e, _, hc'⟩ := k.get hy
    injection e with e
    injection e with e1 e2
    subst e1 e2
    rw [hx, hy]
    congr 1
    refine DV.ext (List.ext_getElem? (fun q => ?_))
    by_cases hq : q < 3
    · obtain ⟨u, hu⟩ : ∃ u, x.cs[q]? = some u := ⟨_, List.getElem?_eq_getElem (by rw [DV.cs_len]; exact hq)⟩
      obtain ⟨v, hv⟩ : ∃ v, y.cs[q]? = some v := ⟨_, List.getElem?_eq_getElem (by rw [DV.cs_len]; exact hq)⟩
      have h1 := hc q u hu
      rw [hc' q v hv] at h1
      rw [hu, hv]
      exact h1.symm
    · rw [List.getElem?_eq_none (by rw [DV.cs_len]; omega), List.getElem?_eq_none (by rw [DV.cs_len]; omega)]
  · rw [List.getElem?_eq_none (by rw [h.len]; omega), List.getElem?_eq_none (by rw [k.len]; omega)]
/-- A node lies in a value, its rows in blocks from B on. -/
inductive DNd (w : World) (B : Nat) : Nd → DV → Prop
  | atom (a : Leaf) : DNd w B (.atom a) ⟨4, none, 0, 0, leafT a⟩
  | no {n : Nd} {v : DV} {A : Option Addr} {c : Nat} (hr : RowD w B A 1 c [v]) (h : DNd w B n v) : DNd w B (.no n) ⟨3, A, 1, c, ⟨#[]⟩⟩
  | row {k : Nat} {l : List Nd} {A : Option Addr} {m c : Nat} {xs : List DV} (hr : RowD w B A m c xs) (hl : l.length = m) (h : ∀ (i : Nat) n v, l[i]? = some n → xs[i]? = some v → DNd w B n v) : DNd w B (.row k l) ⟨k + 1, A, m, c, ⟨#[]⟩⟩
theorem DNd.keep {w w' : World} {B : Nat} {n : Nd} {v : DV} (h : DNd w B n v) (hs : w.heap.size ≤ w'.heap.size) (hb : ∀ i, i < w.heap.size → B ≤ i → w'.heap[i]? = w.heap[i]?) : DNd w' B n v := by
  induction h with
  | atom a => exact .atom a
  | no hr h ih => exact .no (hr.keep hs hb) ih
  | row hr hl h ih => exact .row (hr.keep hs hb) hl ih
theorem DNd.low {w : World} {B B' : Nat} {n : Nd} {v : DV} (h : DNd w B n v) (hB : B' ≤ B) : DNd w B' n v := by
  induction h with
  | atom a => exact .atom a
  | no hr h ih => exact .no (hr.low hB) ih
  | row hr hl h ih => exact .row (hr.low hB) hl ih
theorem DNd.under {w w' : World} {B : Nat} {n : Nd} {v : DV} (h : DNd w B n v) (k : Below w.heap.size w w') : DNd w' B n v := h.keep k.size (fun i hi _ => k.block i hi)
/-- What any node is, whether parsing went well or not; at most N parts lie in it. -/
structure DOk (w : World) (B N : Nat) (v : DV) : Prop where
  pos : 1 ≤ N
  row : ∃ xs, RowD w B v.A v.m v.c xs
  few : v.m ≤ N
  kind : v.k ≤ 4
  many : v.k = 1 ∨ v.k = 2 → 2 ≤ v.m
theorem DOk.keep {w w' : World} {B N : Nat} {v : DV} (h : DOk w B N v) (hs : w.heap.size ≤ w'.heap.size) (hb : ∀ i, i < w.heap.size → B ≤ i → w'.heap[i]? = w.heap[i]?) : DOk w' B N v := by
  obtain ⟨xs, hr⟩ := h.row
  exact ⟨h.pos, ⟨xs, hr.keep hs hb⟩, h.few, h.kind, h.many⟩
theorem DOk.low {w : World} {B B' N : Nat} {v : DV} (h : DOk w B N v) (hB : B' ≤ B) : DOk w B' N v := by
  obtain ⟨xs, hr⟩ := h.row
  exact ⟨h.pos, ⟨xs, hr.low hB⟩, h.few, h.kind, h.many⟩
theorem DOk.mono {w : World} {B N N' : Nat} {v : DV} (h : DOk w B N v) (hn : N ≤ N') : DOk w B N' v := ⟨by have := h.pos; omega, h.row, by have := h.few; omega, h.kind, h.many⟩
theorem DOk.zero (w : World) (B N : Nat) (h : 1 ≤ N) : DOk w B N ⟨0, none, 0, 0, ⟨#[]⟩⟩ := ⟨h, ⟨[], .nil w B⟩, Nat.zero_le _, by show 0 ≤ 4; omega, fun h => by rcases h with h | h <;> cases h⟩
/-- The tokens in memory: the last one is empty. -/
structure Env (w : World) (A : Option Addr) (n c : Nat) (all : List Tk) : Prop where
  row : RowIn w w.heap.size 2 A n (all.flatMap tkC)
  len : all.length = n
  last : ∃ T z, all = T ++ [(⟨#[]⟩, z)]
  sz : ∀ t ∈ all, t.1.size ≤ 3000
  few : n ≤ 3001
theorem Env.below {w w' : World} {A : Option Addr} {n c : Nat} {all : List Tk} (h : Env w A n c all) (k : Below w.heap.size w w') : Env w' A n c all := by
  refine ⟨⟨h.row.1, ?_⟩, h.len, h.last, h.sz, h.few⟩
  rcases h.row.2 with h0 | ⟨b, off, e, hbl, hc⟩
  · exact Or.inl h0
  · refine Or.inr ⟨b, off, e, Nat.lt_of_lt_of_le hbl k.size, fun j u hu => ?_⟩
    exact (World.cell?_of_block (k.block b hbl)).trans (hc j u hu)
theorem hd_drop {all : List Tk} {J : Nat} {t : Tk} (h : all[J]? = some t) : hd (tx (all.drop J)) = t.1 := by
  obtain ⟨h1, rfl⟩ := List.getElem?_eq_some_iff.1 h
  rw [List.drop_eq_getElem_cons h1]
  rfl
theorem tail_drop {all : List Tk} {J : Nat} : (tx (all.drop J)).tail = tx (all.drop (J + 1)) := by
  unfold tx
  rw [← List.map_tail, List.tail_drop]
/-- The token at a place. -/
theorem Env.at {w : World} {A : Option Addr} {n c : Nat} {all : List Tk} (h : Env w A n c all) {J : Nat} (hJ : J < n) : ∃ t g o, all[J]? = some t ∧ hd (tx (all.drop J)) = t.1 ∧ t.1.size ≤ 3000 ∧ (t.1 ≠ ⟨#[]⟩ → J + 1 < n) ∧ A = some ⟨g, o, none⟩ ∧ g < w.heap.size ∧ w.cell? ⟨g, o + J * 2, none⟩ = some (.string t.1) ∧ w.cell? ⟨g, o + J * 2 + 1, none⟩ = some (.int .i64 t.2) := by
  obtain ⟨t, ht⟩ : ∃ t, all[J]? = some t := ⟨_, List.getElem?_eq_getElem (by rw [h.len]; exact hJ)⟩
  obtain ⟨g, o, e, hg, hc⟩ := h.row.at (by omega)
  refine ⟨t, g, o, ht, hd_drop ht, h.sz t (List.mem_of_getElem? ht), fun hne => ?_, e, hg, ?_, ?_⟩
  · obtain ⟨T, z, hT⟩ := h.last
    rcases Nat.lt_or_ge (J + 1) n with h1 | h1
    · exact h1
    · exfalso
      have hl := h.len
      rw [hT] at ht hl
      simp at hl
      rw [List.getElem?_append_right (by omega), show J - T.length = 0 by omega] at ht
      injection ht with ht
      exact hne (by rw [← ht])
  · have := hc (J * 2 + 0) (.string t.1) (by rw [flat_get tkC 2 tkC_len all J 0 t ht (by omega)]; rfl)
    exact this
  · have := hc (J * 2 + 1) (.int .i64 t.2) (by rw [flat_get tkC 2 tkC_len all J 1 t ht (by omega)]; rfl)
    exact this
/-- What a level of the document's parser does: from token I to token J. -/
structure DrIs (k B d : Nat) (all : List Tk) (I : Nat) (w w' : World) (v : DV) (ok : Bool) (J : Nat) (ns : List Nd) : Prop where
  par : P k d (tx (all.drop I)) ok (tx (all.drop J)) ns
  le : I ≤ J
  lt : J < all.length
  okd : DOk w' B (1 + J - I) v
  nd : ok = true → DNd w' B (nodeOf k ns) v
  below : Below w.heap.size w w'
def stV (A : Option Addr) (n c J : Nat) (ok : Bool) : Value := .agg #[.slice A n c, .int .i64 J, .bool ok]
def DrPost (k B d : Nat) (A : Option Addr) (n c : Nat) (all : List Tk) (I : Nat) (w : World) (e : Ending) (w' : World) : Prop := ∃ v ok J ns, e = .returned (.tuple #[.agg #[.slice A n c, .int .i64 (J : Nat), .bool ok], .agg #[.int .i64 v.k, .slice v.A v.m v.c, .string v.s]]) ∧ DrIs k B d all I w w' v ok J ns
/-- A level of the document's parser, where m tokens are left. -/
def DrOk (f : FuncId) (args : Value → Value → Array Value) (k m : Nat) : Prop := ∀ (A : Option Addr) (n c : Nat) (all : List Tk) (I B d : Nat) (i e : Int) (w : World), i = I → e = d → Env w A n c all → I < n → n - I = m → d ≤ 40 → B ≤ w.heap.size → Calls Tryz.prog f (args (.agg #[.slice A n c, .int .i64 i, .bool true]) (.int .i64 e)) w fun e w' => DrPost k B d A n c all I w e w'
def args2 (x y : Value) : Array Value := #[x, y]
def argsR (k : Nat) (x y : Value) : Array Value := #[x, y, .string (wordOf k), .int .i64 (k + 1)]
/-- Where a row stands in memory, ahead of a part; g: the block of its own. -/
structure RowDs (k B d : Nat) (g : Option Nat) (all : List Tk) (I : Nat) (w w' : World) (xs : List DV) (J : Nat) (ms : List Nd) : Prop where
  go : ∀ ok L2 ns2, P k d (tx (all.drop J)) ok L2 ns2 → P k d (tx (all.drop I)) ok L2 (ms ++ ns2)
  le : I ≤ J
  lt : J < all.length
  few : xs.length ≤ J - I
  below : Below w.heap.size w w'
  own : ∀ j, g = some j → w.heap.size ≤ j
  mem : ∀ W : World, w'.heap.size ≤ W.heap.size → (∀ i, i < w'.heap.size → B ≤ i → some i ≠ g → W.heap[i]? = w'.heap[i]?) → (ms.flatMap (parts' k)).length = xs.length ∧ ∀ (i : Nat) n v, (ms.flatMap (parts' k))[i]? = some n → xs[i]? = some v → DNd W B n v
theorem RowDs.start (k B d : Nat) (g : Option Nat) (all : List Tk) (I : Nat) (w w' : World) (hI : I < all.length) (hb : Below w.heap.size w w') (hg : ∀ j, g = some j → w.heap.size ≤ j) : RowDs k B d g all I w w' [] I [] :=
  ⟨fun ok L2 ns2 h => h, Nat.le_refl _, hI, Nat.zero_le _, hb, hg, fun W _ _ => ⟨rfl, fun i n v h => by simp at h⟩⟩
end Go.Proofs.YtpgbgeofhcpocaaGreatDoor
