/- Frames ('Kept': of the blocks that were there only those of S have turned) and maps ('MapIs': a block is a map that holds just what a function from keys says). Nothing of the program. Slices as rows of cells, nil let in; append from such a slice onto a row of the call's own. Nothing of the program. A region that draws its order, walked once in the text's order: between the operations that turn the world ('fs', each forced: nothing else can run there) stand operations that leave the world alone. Nothing of the program. The laws on maps at the operations, for the walk. Nothing of the program. Maps whose number of entries is known. Nothing of the program. A struct that is stored into a block that is known. Nothing of the program. A region that draws its order, walked by a plan: each operation is the only one that can come up, or yields the same in every world of S. Nothing of the program. A region that draws its order, walked by a plan that forks: each operation yields the same in every world of S, or is one of those (one, two) that alone can come up. Nothing of the program. A region that draws its order, walked by a plan of four kinds: 1: yields the same in every world of S; 2: the only one that can come up, behind it S is shown anew; 3: the only one that can come up, all ahead of it in the plan have come up then, S is dropped; 0: yields the same in whatever world. Nothing of the program. A region that draws its order, walked by a plan that forks (two, three ways); what is kept of the world is chosen anew behind each turn. Nothing of the program. -/
import Derived.WalkKit
import Derived.Maps.OwnSet
import Derived.Maps.RangeWalk
import Derived.Lib.Hide
import Derived.Deep.Draws
import Derived.Laws.Rows
import Derived.StillTailTactics
import Derived.Laws.OwnMore
import Derived.Deep.AppendLies
import Derived.Maps.AppendAt
import Derived.RegionTactic
import Derived.OwnWalk
import Derived.Deep.MidRow
import Derived.OrdersHeld
import Derived.Deep.RegionHeld3
namespace Go.Proofs.YtdcinodbgbkobaaGreatDoor
section
open Go.RowKit Go.Maps
open Go.WideElems (Fit rd rg rd_val rd_key rg_of)

/-- Of the blocks that were there only those of S may have turned. -/
structure Kept (S : Nat → Prop) (a w : World) : Prop where
  os : w.os = a.os
  tape : w.tape = a.tape
  output : w.output = a.output
  size : a.heap.size ≤ w.heap.size
  block : ∀ i, i < a.heap.size → ¬ S i → w.heap[i]? = a.heap[i]?

section
variable {S T : Nat → Prop} {a w w' : World}
theorem Kept.refl (S : Nat → Prop) (w : World) : Kept S w w := ⟨rfl, rfl, rfl, Nat.le_refl _, fun _ _ _ => rfl⟩
theorem Kept.trans (h : Kept S a w) (k : Kept S w w') : Kept S a w' :=
  ⟨k.os.trans h.os, k.tape.trans h.tape, k.output.trans h.output, Nat.le_trans h.size k.size, fun i hi hn => (k.block i (Nat.lt_of_lt_of_le hi h.size) hn).trans (h.block i hi hn)⟩
theorem Kept.mono (h : Kept S a w) (hs : ∀ i, i < a.heap.size → S i → T i) : Kept T a w :=
  ⟨h.os, h.tape, h.output, h.size, fun i hi hn => h.block i hi (fun hS => hn (hs i hi hS))⟩
theorem Kept.trans' (h : Kept S a w) (k : Kept T w w') (hs : ∀ i, i < a.heap.size → T i → S i) : Kept S a w' :=
  ⟨k.os.trans h.os, k.tape.trans h.tape, k.output.trans h.output, Nat.le_trans h.size k.size, fun i hi hn => (k.block i (Nat.lt_of_lt_of_le hi h.size) (fun ht => hn (hs i hi ht))).trans (h.block i hi hn)⟩
theorem Kept.drew (h : Kept S a w) : Kept S a w.drew := ⟨h.os, h.tape, h.output, h.size, h.block⟩
theorem Kept.drewN (h : Kept S a w) (n : Nat) : Kept S a (w.drewN n) := ⟨h.os, h.tape, h.output, h.size, h.block⟩
theorem Kept.alloc (h : Kept S a w) (o : Obj) : Kept S a (w.alloc o) :=
  ⟨h.os, h.tape, h.output, Nat.le_trans h.size (by simp), fun i hi hn => (Below.heap_alloc w o i (Nat.lt_of_lt_of_le hi h.size)).trans (h.block i hi hn)⟩
theorem Kept.setCell (h : Kept S a w) {p : Addr} (hp : S p.block ∨ a.heap.size ≤ p.block) (u : Value) : Kept S a (w.setCell p u) :=
  ⟨h.os, h.tape, h.output, by simpa [World.setCell] using h.size, fun i hi hn => (Below.heap_setCell w p u i (by
    rintro rfl
    rcases hp with hp | hp
    · exact hn hp
    · omega)).trans (h.block i hi hn)⟩
theorem Kept.grown {row : Option Nat} (h : Kept S a w) (hg : w.grownBy w' row) (hr : ∀ j, row = some j → S j ∨ a.heap.size ≤ j) : Kept S a w' :=
  ⟨hg.os.trans h.os, hg.tape.trans h.tape, hg.output.trans h.output, Nat.le_trans h.size hg.size, fun i hi hn => (hg.block i (Nat.lt_of_lt_of_le hi h.size) (fun e => by
    rcases hr i e.symm with h1 | h1
    · exact hn h1
    · omega)).trans (h.block i hi hn)⟩
theorem Kept.below (h : Kept S a w) {B : Nat} (hb : Below B w w') (hB : a.heap.size ≤ B) : Kept S a w' :=
  ⟨hb.os.trans h.os, hb.tape.trans h.tape, hb.output.trans h.output, Nat.le_trans h.size hb.size, fun i hi hn => (hb.block i (by omega)).trans (h.block i hi hn)⟩
theorem Kept.toBelow (h : Kept S a w) {B : Nat} (hB : ∀ i, S i → B ≤ i) (hs : B ≤ a.heap.size) : Below B a w :=
  ⟨h.os, h.tape, h.output, h.size, fun i hi => h.block i (by omega) (fun hS => by have := hB i hS; omega)⟩
theorem Kept.cell (h : Kept S a w) {p : Addr} (hp : p.block < a.heap.size) (hn : ¬ S p.block) : w.cell? p = a.cell? p := World.cell?_of_block (h.block _ hp hn)
theorem Kept.frozen (h : Kept S a w) {p : Addr} (hp : p.block < a.heap.size) (hn : ¬ S p.block) : w.frozen? p = a.frozen? p := World.frozen?_of_block (h.block _ hp hn)
end

/-- Block g is just the cells cs of element type t, none frozen. -/
def Blk (w : World) (g : Nat) (t : TypeId) (cs : Array Value) : Prop := w.heap[g]? = some (.cells cs t (0, 0))
section
variable {w w' a : World} {g : Nat} {t : TypeId} {cs : Array Value} {S : Nat → Prop}
theorem Blk.lt (h : Blk w g t cs) : g < w.heap.size := by
  rcases Nat.lt_or_ge g w.heap.size with hlt | hge
  · exact hlt
  · unfold Blk at h; rw [Array.getElem?_eq_none hge] at h; cases h
theorem Blk.cell (h : Blk w g t cs) (i : Nat) : w.cell? ⟨g, i, none⟩ = cs[i]? := cell_of_row w g i cs t (0, 0) h
theorem Blk.frozen (h : Blk w g t cs) (i : Nat) : w.frozen? ⟨g, i, none⟩ = false := by
  unfold Blk at h
  simp [World.frozen?, h]
theorem Blk.new (w : World) (t : TypeId) (cs : Array Value) : Blk (w.alloc (.cells cs t)) w.heap.size t cs := heap_alloc_new w _
theorem Blk.drew (h : Blk w g t cs) : Blk w.drew g t cs := h
theorem Blk.drewN (h : Blk w g t cs) (n : Nat) : Blk (w.drewN n) g t cs := h
theorem Blk.alloc (h : Blk w g t cs) (o : Obj) : Blk (w.alloc o) g t cs := (Below.heap_alloc w o g h.lt).trans h
theorem Blk.set_ (h : Blk w g t cs) (i : Nat) (u : Value) : Blk (w.setCell ⟨g, i, none⟩ u) g t (cs.setIfInBounds i u) := by
  unfold Blk at h ⊢
  simp [World.setCell, Array.getElem?_modify, h]
theorem Blk.far (h : Blk w g t cs) {p : Addr} (hp : g ≠ p.block) (u : Value) : Blk (w.setCell p u) g t cs := (Below.heap_setCell w p u g hp).trans h
theorem Blk.kept (h : Blk w g t cs) (k : Kept S w w') (hn : ¬ S g) : Blk w' g t cs := (k.block g h.lt hn).trans h
theorem Blk.grown {row : Option Nat} (h : Blk w g t cs) (hb : w.grownBy w' row) (hg : some g ≠ row) : Blk w' g t cs := (hb.block g h.lt hg).trans h
end

/-- A region that draws its order: quiet operations, then a tail that is forced. -/
theorem wp_tail {P : Program} {id : Nat} {Q : Exit → Act → World → Prop} {a : Act} {w : World} {l : List Oper} (n : Nat) (hm : P.follows .mixedOrders = true) (hB : Region.lexTailB .any l.toArray n = true)
    (h : wpStill P l.toArray w.drew (fun a' => wpList P l.toArray Q (l.drop n) a' w.drew) (l.take n) a) : (Code.region id l.toArray true).wp P Q a w :=
  wp_region_still_tail n hm hB h

theorem still_of {P : Program} {f : FuncId} {args : Array Value} {w : World} {v : Value} (h : Calls P f args w fun e w' => e = .returned v ∧ w = w') : Calls P f args w fun e w' => e = .returned v ∧ w' = w :=
  h.mono fun _ _ ⟨he, hw⟩ => ⟨he, hw.symm⟩

/-! ### maps -/
/-- An element reads as itself, where it is of the shape that ok asks for. -/
def heldElem (ok : Value → Bool) (v : Value) : Option (DataW Value × List MemPlace) := if ok v then some (.held v, []) else none
theorem heldElem_mk {ok : Value → Bool} {v : Value} (h : ok v = true) : heldElem ok v = some (.held v, []) := by simp [heldElem, h]
theorem heldElem_inv {ok : Value → Bool} {v : Value} {y : DataW Value × List MemPlace} (h : heldElem ok v = some y) : ok v = true ∧ y = (.held v, []) := by
  unfold heldElem at h
  split at h
  · rename_i hk; cases h; exact ⟨hk, rfl⟩
  · cases h

def unheld : DataW Value → Option Value
  | .held v => some v
  | _ => none
/-- What a map as read holds at a key. -/
def view (D : DataW Value) (kl : Lit) : Option Value := unheld (D.atKey kl .nil)

/-- Block b is a map of at most n entries that holds just what M says. -/
def MapIs (P : Program) (k : TypeId) (ok : Value → Bool) (w : World) (b n : Nat) (M : Lit → Option Value) : Prop :=
  ∃ D : DataW Value, w.ownsMap P k (heldElem ok) b n D ∧ ∀ kl, view D kl = M kl

section
variable {P : Program} {k : TypeId} {ok : Value → Bool} {w w' : World} {b n : Nat} {M : Lit → Option Value}

theorem held_all {D : DataW Value} (h : w.ownsMap P k (heldElem ok) b n D) : ∃ es, D = .map es ∧ ∀ p ∈ es, ∃ v, ok v = true ∧ p.2 = .held v := by
  obtain ⟨es, clock, _, F, _, rfl⟩ := h
  refine ⟨_, rfl, fun p hp => ?_⟩
  rw [mem_sorted] at hp
  obtain ⟨x, hx, rfl⟩ := List.mem_map.1 hp
  obtain ⟨y, hy⟩ := F.reads x hx
  obtain ⟨z, hz, hz2⟩ := rd_val hy
  obtain ⟨h1, rfl⟩ := heldElem_inv hz
  exact ⟨x.val, h1, by rw [rg_of hy, hz2]⟩

theorem view_cases {D : DataW Value} (h : w.ownsMap P k (heldElem ok) b n D) (kl : Lit) :
    (Maps.has D kl = false ∧ view D kl = none ∧ ∀ z, D.atKey kl z = z) ∨ ∃ v, ok v = true ∧ Maps.has D kl = true ∧ view D kl = some v ∧ ∀ z, D.atKey kl z = .held v := by
  obtain ⟨es, rfl, hall⟩ := held_all h
  cases hf : es.find? (fun p => p.1.sameKey kl) with
  | none =>
    refine Or.inl ⟨?_, by simp [view, DataW.atKey, hf, unheld], fun z => by simp [DataW.atKey, hf]⟩
    simp only [Maps.has]
    rw [List.any_eq_false]
    intro p hp
    have := List.find?_eq_none.1 hf p hp
    simpa using this
  | some p =>
    obtain ⟨v, hv, hp2⟩ := hall p (List.mem_of_find?_eq_some hf)
    refine Or.inr ⟨v, hv, ?_, by simp [view, DataW.atKey, hf, hp2, unheld], fun z => by simp [DataW.atKey, hf, hp2]⟩
    simp only [Maps.has]
    rw [List.any_eq_true]
    exact ⟨p, List.mem_of_find?_eq_some hf, by have := List.find?_some hf; simpa using this⟩

theorem MapIs.ok_of (h : MapIs P k ok w b n M) {kl : Lit} {v : Value} (hv : M kl = some v) : ok v = true := by
  obtain ⟨D, hD, hM⟩ := h
  rcases view_cases hD kl with ⟨_, h2, _⟩ | ⟨v', h1, _, h2, _⟩
  · rw [hM, hv] at h2; cases h2
  · rw [hM, hv] at h2; cases h2; exact h1

theorem MapIs.lt (h : MapIs P k ok w b n M) : b < w.heap.size := by obtain ⟨D, hD, _⟩ := h; exact hD.lt
theorem MapIs.mono (h : MapIs P k ok w b n M) {n' : Nat} (hn : n ≤ n') : MapIs P k ok w b n' M := by obtain ⟨D, hD, hM⟩ := h; exact ⟨D, hD.mono hn, hM⟩
theorem MapIs.grown {row : Option Nat} (h : MapIs P k ok w b n M) (hg : w.grownBy w' row) (hne : some b ≠ row) : MapIs P k ok w' b n M := by obtain ⟨D, hD, hM⟩ := h; exact ⟨D, hD.kept hg hne, hM⟩
theorem MapIs.alloc (h : MapIs P k ok w b n M) (o : Obj) : MapIs P k ok (w.alloc o) b n M := by obtain ⟨D, hD, hM⟩ := h; exact ⟨D, hD.alloc o, hM⟩
theorem MapIs.drew (h : MapIs P k ok w b n M) : MapIs P k ok w.drew b n M := h
theorem MapIs.drewN (h : MapIs P k ok w b n M) (q : Nat) : MapIs P k ok (w.drewN q) b n M := h
theorem MapIs.setCell (h : MapIs P k ok w b n M) {p : Addr} (hp : b ≠ p.block) (u : Value) : MapIs P k ok (w.setCell p u) b n M := by obtain ⟨D, hD, hM⟩ := h; exact ⟨D, hD.setCell hp u, hM⟩
theorem MapIs.kept {S : Nat → Prop} (h : MapIs P k ok w b n M) (hk : Kept S w w') (hn : ¬ S b) : MapIs P k ok w' b n M := by
  obtain ⟨D, ⟨es, clock, hb, r⟩, hM⟩ := h
  exact ⟨D, ⟨es, clock, (hk.block b (Array.getElem?_eq_some_iff.1 hb).1 hn).trans hb, r⟩, hM⟩
theorem MapIs.congr (h : MapIs P k ok w b n M) {M' : Lit → Option Value} (he : ∀ kl, M kl = M' kl) : MapIs P k ok w b n M' := by obtain ⟨D, hD, hM⟩ := h; exact ⟨D, hD, fun kl => (hM kl).trans (he kl)⟩
theorem MapIs.ne_blk {g : Nat} {t : TypeId} {cs : Array Value} (h : MapIs P k ok w b n M) (hg : Blk w g t cs) : b ≠ g := by
  rintro rfl
  obtain ⟨D, ⟨es, clock, hb, _⟩, _⟩ := h
  unfold Blk at hg
  rw [hb] at hg
  cases hg

theorem MapIs.made (w : World) (P : Program) (k : TypeId) (ok : Value → Bool) : MapIs P k ok (w.alloc (.map #[] 0)) w.heap.size 0 (fun _ => none) :=
  ⟨_, World.ownsMap_made w P k _, fun kl => by simp [view, DataW.atKey, unheld]⟩

/-- M with v at kl. -/
def upd (M : Lit → Option Value) (kl : Lit) (v : Value) : Lit → Option Value := fun x => if x.sameKey kl then some v else M x
/-- M without kl. -/
def gone (M : Lit → Option Value) (kl : Lit) : Lit → Option Value := fun x => if x.sameKey kl then none else M x

theorem MapIs.look {t e : TypeId} (h : MapIs P k ok w b n M) (K : Keyed P k) (ht : P.underlying t = some (.map k e)) {z : Value} (hz : (zeroValue e).run P w = .ok z w) (hzo : ok z = true) {key : Value} {kl : Lit} (hkey : keyOf P k key = some kl) :
    (Instr.lookup t (.map (some b)) key false).run P w = .ok ((M kl).getD z) w := by
  obtain ⟨D, hD, hM⟩ := h
  obtain ⟨v, ps, hrun, hv⟩ := hD.lookup K ht hz (heldElem_mk hzo) hkey
  obtain ⟨_, hv2⟩ := heldElem_inv hv
  rw [hrun, ← hM]
  rcases view_cases hD kl with ⟨_, h2, h3⟩ | ⟨v', _, _, h2, h3⟩
  · rw [h3] at hv2; cases hv2; rw [h2]; rfl
  · rw [h3] at hv2; cases hv2; rw [h2]; rfl

theorem MapIs.look_ok {t e : TypeId} (h : MapIs P k ok w b n M) (K : Keyed P k) (ht : P.underlying t = some (.map k e)) {z : Value} (hz : (zeroValue e).run P w = .ok z w) (hzo : ok z = true) {key : Value} {kl : Lit} (hkey : keyOf P k key = some kl) :
    (Instr.lookup t (.map (some b)) key true).run P w = .ok (.tuple #[(M kl).getD z, .bool (M kl).isSome]) w := by
  obtain ⟨D, hD, hM⟩ := h
  obtain ⟨v, ps, hrun, hv⟩ := hD.look_ok K ht hz (heldElem_mk hzo) hkey
  obtain ⟨_, hv2⟩ := heldElem_inv hv
  rw [hrun, ← hM]
  rcases view_cases hD kl with ⟨h1, h2, h3⟩ | ⟨v', _, h1, h2, h3⟩
  · rw [h3] at hv2; cases hv2; rw [h1, h2]; rfl
  · rw [h3] at hv2; cases hv2; rw [h1, h2]; rfl

theorem MapIs.store {t e : TypeId} (h : MapIs P k ok w b n M) (K : Keyed P k) (ht : P.underlying t = some (.map k e)) (hn : n < maxLen) {key val : Value} {kl : Lit} (hkey : keyOf P k key = some kl) (hv : ok val = true) :
    ∃ w', (Instr.mapUpdate t (.map (some b)) key val).run P w = .ok () w' ∧ MapIs P k ok w' b (n + 1) (upd M kl val) ∧ w.grownBy w' (some b) ∧ w'.heap.size = w.heap.size := by
  obtain ⟨D, hD, hM⟩ := h
  obtain ⟨w', hrun, h1, h2⟩ := hD.store K ht hn hkey (heldElem_mk hv)
  refine ⟨w', hrun, ⟨_, h1, fun x => ?_⟩, h2.grown, ?_⟩
  · unfold upd view
    by_cases hx : x = kl
    · subst hx
      rw [WideAt.sameKey_self (K.key hkey), if_pos rfl, atKey_put_same hD.isMap (K.key hkey)]; rfl
    · rw [sameKey_ne hx, if_neg (by simp), atKey_put_other hx]; exact hM x
  · obtain ⟨es, c, es', c', _, rfl⟩ := h2
    simp [Go.ChangeMaps.setBlock]

theorem MapIs.drop {t e : TypeId} (h : MapIs P k ok w b n M) (K : Keyed P k) (ht : P.underlying t = some (.map k e)) {key : Value} {kl : Lit} (hkey : keyOf P k key = some kl) (ty : TypeId) :
    ∃ w', (Builtin.delete_ #[t, k] ty #[.map (some b), key]).run P w = .ok (.tuple #[]) w' ∧ MapIs P k ok w' b n (gone M kl) ∧ w.grownBy w' (some b) ∧ w'.heap.size = w.heap.size := by
  obtain ⟨D, hD, hM⟩ := h
  obtain ⟨w', hrun, h1, h2⟩ := hD.drop K ht hkey ty
  refine ⟨w', hrun, ⟨_, h1, fun x => ?_⟩, h2.grown, ?_⟩
  · unfold gone view
    by_cases hx : x = kl
    · subst hx
      rw [WideAt.sameKey_self (K.key hkey), if_pos rfl, atKey_del_same]; rfl
    · rw [sameKey_ne hx, if_neg (by simp), atKey_del_other hx]; exact hM x
  · obtain ⟨es, c, es', c', _, rfl⟩ := h2
    simp [Go.ChangeMaps.setBlock]

/-- A range over the map is under way; 'left': is the entry at this key still to come? -/
def MapGoes (P : Program) (k : TypeId) (ok : Value → Bool) (w : World) (b r n : Nat) (M : Lit → Option Value) (left : Lit → Bool) (cnt : Nat) : Prop :=
  ∃ D : DataW Value, w.ranges P k (heldElem ok) b r n D left cnt ∧ ∀ kl, view D kl = M kl
variable {r cnt : Nat} {left : Lit → Bool}
theorem MapGoes.map (h : MapGoes P k ok w b r n M left cnt) : MapIs P k ok w b n M := by obtain ⟨D, hD, hM⟩ := h; exact ⟨D, hD.owns, hM⟩
theorem MapGoes.left_eq (h : MapGoes P k ok w b r n M left cnt) : w.rangeLeft b r = cnt := by obtain ⟨D, hD, hM⟩ := h; exact hD.left_eq
theorem MapGoes.ne (h : MapGoes P k ok w b r n M left cnt) : r ≠ b := by obtain ⟨D, hD, hM⟩ := h; exact hD.ne
theorem MapGoes.lt (h : MapGoes P k ok w b r n M left cnt) : r < w.heap.size := by obtain ⟨D, hD, hM⟩ := h; exact hD.lt
theorem MapGoes.grown {row : Option Nat} (h : MapGoes P k ok w b r n M left cnt) (hg : w.grownBy w' row) (hb : some b ≠ row) (hr : some r ≠ row) : MapGoes P k ok w' b r n M left cnt := by obtain ⟨D, hD, hM⟩ := h; exact ⟨D, hD.kept hg hb hr, hM⟩
theorem MapGoes.alloc (h : MapGoes P k ok w b r n M left cnt) (o : Obj) : MapGoes P k ok (w.alloc o) b r n M left cnt := by obtain ⟨D, hD, hM⟩ := h; exact ⟨D, hD.alloc o, hM⟩
theorem MapGoes.drew (h : MapGoes P k ok w b r n M left cnt) : MapGoes P k ok w.drew b r n M left cnt := h
theorem MapGoes.drewN (h : MapGoes P k ok w b r n M left cnt) (q : Nat) : MapGoes P k ok (w.drewN q) b r n M left cnt := h
theorem MapGoes.kept {S : Nat → Prop} (h : MapGoes P k ok w b r n M left cnt) (hk : Kept S w w') (hb : ¬ S b) (hr : ¬ S r) : MapGoes P k ok w' b r n M left cnt := by
  have hlt := h.lt
  have hlb := h.map.lt
  obtain ⟨D, ⟨es, clock, since, seen, c0, h1, h2, h3, h4, h5, h6⟩, hM⟩ := h
  exact ⟨D, ⟨es, clock, since, seen, c0, (hk.block b hlb hb).trans h1, h2, h3, h4, (hk.block r hlt hr).trans h5, h6⟩, hM⟩

theorem view_some_has {D : DataW Value} (h : w.ownsMap P k (heldElem ok) b n D) (kl : Lit) : (view D kl).isSome = Maps.has D kl := by
  rcases view_cases h kl with ⟨h1, h2, _⟩ | ⟨v, _, h1, h2, _⟩ <;> rw [h1, h2] <;> rfl

theorem MapIs.range {t e : TypeId} (h : MapIs P k ok w b n M) (K : Keyed P k) (ht : P.underlying t = some (.map k e)) :
    ∃ w' cnt, (Instr.range t (.map (some b))).run P w = .ok (.pointer (some ⟨w.heap.size, 0, none⟩)) w' ∧ MapGoes P k ok w' b w.heap.size n M (fun kl => (M kl).isSome) cnt ∧ w.grownBy w' none ∧ w'.heap.size = w.heap.size + 1 ∧ cnt ≤ n := by
  obtain ⟨D, hD, hM⟩ := h
  obtain ⟨w', hrun, r1, r2, r3⟩ := hD.range K ht
  refine ⟨w', _, hrun, ⟨D, ?_, hM⟩, r2, r3, hD.size_le⟩
  have : (fun kl => (M kl).isSome) = Maps.has D := by
    funext kl
    rw [← hM, view_some_has hD]
  rw [this]
  exact r1

theorem MapGoes.next (h : MapGoes P k ok w b r n M left cnt) (K : Keyed P k) (ty : TypeId) :
    (cnt = 0 ∧ (∀ kl, left kl = false) ∧ (Instr.next (.pointer (some ⟨r, 0, none⟩)) false ty).run P w = .ok (.tuple #[.bool false]) w) ∨
    ∃ key v kl w' cnt', keyOf P k key = some kl ∧ left kl = true ∧ ok v = true ∧ M kl = some v ∧ (Instr.next (.pointer (some ⟨r, 0, none⟩)) false ty).run P w = .ok (.tuple #[.bool true, key, v]) w' ∧
      MapGoes P k ok w' b r n M (fun x => left x && !x.sameKey kl) cnt' ∧ cnt' < cnt ∧ w.grownBy w' (some r) ∧ w'.heap.size = w.heap.size ∧ (Instr.entry (.pointer (some ⟨r, 0, none⟩))).run P w' = .ok (.tuple #[key, v]) w' := by
  obtain ⟨D, hD, hM⟩ := h
  rcases hD.next K ty with ⟨h0, hl, hrun⟩ | ⟨key, v, kl, y, w', cnt', hkey, hlk, hv, hat, hrun, hrg, hlt, hgr, hsz, hen⟩
  · exact Or.inl ⟨h0, hl, hrun⟩
  · obtain ⟨h1, rfl⟩ := heldElem_inv hv
    refine Or.inr ⟨key, v, kl, w', cnt', hkey, hlk, h1, ?_, hrun, ⟨D, ?_, hM⟩, hlt, hgr, hsz, hen⟩
    · rw [← hM]; unfold view; rw [hat]; rfl
    · exact hrg
end

end

section
open Go.RowKit
set_option linter.unusedVariables false

/-- The slice with the address A, of n elements of 'size' cells each, holds the cells xs, below block B. -/
def RowIn (w : World) (B size : Nat) (A : Option Addr) (n : Nat) (xs : List Value) : Prop :=
  xs.length = n * size ∧ (n = 0 ∨ ∃ b off, A = some ⟨b, off, none⟩ ∧ b < B ∧ ∀ j u, xs[j]? = some u → w.cell? ⟨b, off + j, none⟩ = some u)

theorem at_add (b off k : Nat) : (⟨b, off, none⟩ : Addr).add k = ⟨b, off + k, none⟩ := by
  unfold Addr.add
  split
  · rename_i h; subst h; rfl
  · rfl

section
variable {w w' a : World} {B B' size n : Nat} {A : Option Addr} {xs : List Value}
theorem RowIn.nil (w : World) (B size : Nat) (A : Option Addr) : RowIn w B size A 0 [] := ⟨by simp, Or.inl rfl⟩
theorem RowIn.keep (h : RowIn w B size A n xs) (hk : ∀ p : Addr, p.block < B → w'.cell? p = w.cell? p) : RowIn w' B size A n xs := by
  refine ⟨h.1, h.2.elim Or.inl fun hx => Or.inr ?_⟩
  obtain ⟨b, off, e, hb, hc⟩ := hx
  exact ⟨b, off, e, hb, fun j u hu => (hk ⟨b, off + j, none⟩ hb).trans (hc j u hu)⟩
theorem RowIn.more (h : RowIn w B size A n xs) (hB : B ≤ B') : RowIn w B' size A n xs := by
  refine ⟨h.1, h.2.elim Or.inl fun hx => Or.inr ?_⟩
  obtain ⟨b, off, e, hb, hc⟩ := hx
  exact ⟨b, off, e, by omega, hc⟩
theorem RowIn.below (h : RowIn w B size A n xs) (hb : Below B w w') : RowIn w' B size A n xs := h.keep fun _ hp => hb.cell hp
theorem RowIn.drew (h : RowIn w B size A n xs) : RowIn w.drew B size A n xs := h
theorem RowIn.drewN (h : RowIn w B size A n xs) (q : Nat) : RowIn (w.drewN q) B size A n xs := h
theorem RowIn.alloc (h : RowIn w B size A n xs) (hB : B ≤ w.heap.size) (o : Obj) : RowIn (w.alloc o) B size A n xs := h.keep fun p hp => World.cell?_alloc_lt w o p (by omega)
theorem RowIn.kept {S : Nat → Prop} (h : RowIn w B size A n xs) (k : Kept S w w') (hB : B ≤ w.heap.size) (hS : ∀ i, i < B → ¬ S i) : RowIn w' B size A n xs := h.keep fun p hp => k.cell (by omega) (hS _ hp)
theorem RowIn.at (h : RowIn w B size A n xs) (hn : 0 < n) : ∃ b off, A = some ⟨b, off, none⟩ ∧ b < B ∧ ∀ j u, xs[j]? = some u → w.cell? ⟨b, off + j, none⟩ = some u := by
  rcases h.2 with h0 | h1
  · omega
  · exact h1
theorem RowIn.of_own {base : Nat} {e : TypeId} {c : Nat} (h : w.ownsRow base e size (.slice A n c) n xs) : RowIn w w.heap.size size A n xs := by
  refine ⟨h.1, ?_⟩
  rcases Nat.eq_zero_or_pos n with h0 | h0
  · exact Or.inl h0
  · obtain ⟨g, cap, hv, _, hlt⟩ := h.form h0
    injection hv with hA
    subst hA
    refine Or.inr ⟨g, 0, rfl, hlt, fun j u hu => ?_⟩
    have := h.cells (g := g) rfl j u hu
    rwa [at_add] at this
/-- 'xs[k:]'. -/
theorem RowIn.cut (h : RowIn w B size A n xs) {k cap : Nat} (hk : k ≤ n) (hc : n ≤ cap) : RowIn w B size (if cap = k then A else A.map (·.add (k * size))) (n - k) (xs.drop (k * size)) := by
  refine ⟨by rw [List.length_drop, h.1, Nat.sub_mul], ?_⟩
  rcases Nat.eq_zero_or_pos (n - k) with h0 | h0
  · exact Or.inl h0
  · obtain ⟨b, off, rfl, hb, hcell⟩ := h.at (by omega)
    rw [if_neg (by omega)]
    refine Or.inr ⟨b, off + k * size, by simp [at_add], hb, fun j u hu => ?_⟩
    rw [Nat.add_assoc]
    exact hcell _ u (by rw [← hu, List.getElem?_drop])
/-- 'xs[:k]'. -/
theorem RowIn.front (h : RowIn w B size A n xs) {k : Nat} (hk : k ≤ n) : RowIn w B size A k (xs.take (k * size)) := by
  refine ⟨by rw [List.length_take, h.1]; exact Nat.min_eq_left (Nat.mul_le_mul_right _ hk), ?_⟩
  rcases Nat.eq_zero_or_pos k with h0 | h0
  · exact Or.inl h0
  · obtain ⟨b, off, rfl, hb, hcell⟩ := h.at (by omega)
    refine Or.inr ⟨b, off, rfl, hb, fun j u hu => hcell j u ?_⟩
    rw [List.getElem?_take] at hu
    split at hu
    · exact hu
    · cases hu
end

section
variable {P : Program} (w : World)
/-- 'append(v, x...)', v a row of the call's own, x whatever. -/
theorem run_append_row (base : Nat) (t ty e : TypeId) (i : TypeInfo) (z : Value) (size bytes : Nat) (ht : P.underlying t = some (.slice e)) (hi : P.info? e = some i) (hz : i.zero = some z)
    (hsize : i.size = size) (hby : i.bytes = bytes) (hzs : z.cells.size = size) (hsz : 0 < size) (v : Value) (n : Nat) (xs : List Value) (hown : w.ownsRow base e size v n xs)
    (B : Nat) (A : Option Addr) (m c : Nat) (news : List Value) (hr : RowIn w B size A m news) (hnc : A = none → c = 0) (h1 : ∀ u ∈ news, u.oneCell' = true)
    (h63 : n + m ≤ maxLen) (hbytes : (n + m) * bytes ≤ 140737488355328) (hbase : base ≤ w.heap.size) :
    ∃ v' w', (Builtin.append_ #[t, t] ty #[v, .slice A m c]).run P w = .ok v' w' ∧ w'.ownsRow base e size v' (n + m) (xs ++ news) ∧ w.grownBy w' v.ownBlock ∧ (v'.ownBlock = v.ownBlock ∨ v'.ownBlock = some w.heap.size) := by
  cases A with
  | none =>
    have hm : m = 0 := by
      rcases hr.2 with h | ⟨b, off, h, _⟩
      · exact h
      · cases h
    subst hm
    obtain rfl : news = [] := List.eq_nil_of_length_eq_zero (by simpa using hr.1)
    rw [hnc rfl]
    exact ⟨v, w, run_append_owned_none w base t ty e i size ht hi v n xs hown, by simpa using hown, World.grownBy.refl w _, Or.inl rfl⟩
  | some ad =>
    have hcells : ∀ j u, news[j]? = some u → w.cell? (ad.add j) = some u := by
      intro j u hu
      rcases hr.2 with h0 | ⟨b, off, h, _, hc⟩
      · subst h0
        obtain rfl : news = [] := List.eq_nil_of_length_eq_zero (by simpa using hr.1)
        simp at hu
      · injection h with h
        subst h
        rw [at_add]
        exact hc j u hu
    obtain ⟨v', w', r1, r2, r3, _, r4⟩ := run_append_own_at (P := P) w base t ty e i z size bytes ht hi hz hsize hby hzs hsz v n xs hown ad m c news hr.1 hcells h1 h63 hbytes hbase
    exact ⟨v', w', r1, r2, r3, r4⟩

theorem wp_append_row {o : Oper} {a : Act} {K : Act → World → Prop} {Q : Exit → Act → World → Prop} (s x : Operand) (t : TypeId) (ho : o.op = .call { callee := .builtin .append, args := #[s, x], argTypes := #[t, t] })
    (base : Nat) (e : TypeId) (i : TypeInfo) (z : Value) (size bytes : Nat) (ht : P.underlying t = some (.slice e)) (hi : P.info? e = some i) (hz : i.zero = some z)
    (hsize : i.size = size) (hby : i.bytes = bytes) (hzs : z.cells.size = size) (hsz : 0 < size) (v : Value) (n : Nat) (xs : List Value) (hs : a.eval s = v) (hown : w.ownsRow base e size v n xs)
    (B : Nat) (A : Option Addr) (m c : Nat) (news : List Value) (hx : a.eval x = .slice A m c) (hr : RowIn w B size A m news) (hnc : A = none → c = 0) (h1 : ∀ u ∈ news, u.oneCell' = true)
    (h63 : n + m ≤ maxLen) (hbytes : (n + m) * bytes ≤ 140737488355328) (hbase : base ≤ w.heap.size)
    (h : ∀ v' w', w'.ownsRow base e size v' (n + m) (xs ++ news) → w.grownBy w' v.ownBlock → (v'.ownBlock = v.ownBlock ∨ v'.ownBlock = some w.heap.size) → K (a.put o.dst v') w') : o.wp P a w K Q := by
  obtain ⟨v', w', r1, r2, r3, r4⟩ := run_append_row (P := P) w base t o.type e i z size bytes ht hi hz hsize hby hzs hsz v n xs hown B A m c news hr hnc h1 h63 hbytes hbase
  unfold Oper.wp execOp
  simp only [ho, resolve, invoke, builtin, Sem.run_bind, Sem.run_pure, Result.andThen_ok, List.map_toArray, List.map_cons, List.map_nil, hs, hx, r1]
  exact h v' w' r2 r3 r4

/-- At a plain region's operation. -/
theorem wpList_append_row {ops : Array Oper} {rest : List Oper} {o : Oper} {a : Act} {Q : Exit → Act → World → Prop} (hgd : o.guard = none) (s x : Operand) (t : TypeId) (ho : o.op = .call { callee := .builtin .append, args := #[s, x], argTypes := #[t, t] })
    (base : Nat) (e : TypeId) (i : TypeInfo) (z : Value) (size bytes : Nat) (ht : P.underlying t = some (.slice e)) (hi : P.info? e = some i) (hz : i.zero = some z)
    (hsize : i.size = size) (hby : i.bytes = bytes) (hzs : z.cells.size = size) (hsz : 0 < size) (v : Value) (n : Nat) (xs : List Value) (hs : a.eval s = v) (hown : w.ownsRow base e size v n xs)
    (B : Nat) (A : Option Addr) (m c : Nat) (news : List Value) (hx : a.eval x = .slice A m c) (hr : RowIn w B size A m news) (hnc : A = none → c = 0) (h1 : ∀ u ∈ news, u.oneCell' = true)
    (h63 : n + m ≤ maxLen) (hbytes : (n + m) * bytes ≤ 140737488355328) (hbase : base ≤ w.heap.size)
    (h : ∀ v' w', w'.ownsRow base e size v' (n + m) (xs ++ news) → w.grownBy w' v.ownBlock → (v'.ownBlock = v.ownBlock ∨ v'.ownBlock = some w.heap.size) → wpList P ops Q rest (a.put o.dst v') w') : wpList P ops Q (o :: rest) a w :=
  wpList_plain hgd fun _ hK => wp_append_row w s x t ho base e i z size bytes ht hi hz hsize hby hzs hsz v n xs hs hown B A m c news hx hr hnc h1 h63 hbytes hbase fun v' w' h2 h3 h4 => hK _ _ (h v' w' h2 h3 h4)

/-- At a step of a region that draws. -/
theorem step_append_row {ops : Array Oper} {o : Oper} {a : Act} {K : Act → World → Prop} {Q : Exit → Act → World → Prop} {E : Prop} (hgd : o.guard = none) (s x : Operand) (t : TypeId) (ho : o.op = .call { callee := .builtin .append, args := #[s, x], argTypes := #[t, t] })
    (base : Nat) (e : TypeId) (i : TypeInfo) (z : Value) (size bytes : Nat) (ht : P.underlying t = some (.slice e)) (hi : P.info? e = some i) (hz : i.zero = some z)
    (hsize : i.size = size) (hby : i.bytes = bytes) (hzs : z.cells.size = size) (hsz : 0 < size) (v : Value) (n : Nat) (xs : List Value) (hs : a.eval s = v) (hown : w.ownsRow base e size v n xs)
    (B : Nat) (A : Option Addr) (m c : Nat) (news : List Value) (hx : a.eval x = .slice A m c) (hr : RowIn w B size A m news) (hnc : A = none → c = 0) (h1 : ∀ u ∈ news, u.oneCell' = true)
    (h63 : n + m ≤ maxLen) (hbytes : (n + m) * bytes ≤ 140737488355328) (hbase : base ≤ w.heap.size)
    (h : ∀ v' w', w'.ownsRow base e size v' (n + m) (xs ++ news) → w.grownBy w' v.ownBlock → (v'.ownBlock = v.ownBlock ∨ v'.ownBlock = some w.heap.size) → K (a.put o.dst v') w') :
    if Region.wanted o (yielded ops a.tmps) = true then Oper.wp P o a w K Q else E := by
  rw [if_pos (by simp [Region.wanted, hgd])]
  exact wp_append_row w s x t ho base e i z size bytes ht hi hz hsize hby hzs hsz v n xs hs hown B A m c news hx hr hnc h1 h63 hbytes hbase h
end

/-! ### lists of equal pieces -/
theorem flat_len {α : Type} (f : α → List Value) (k : Nat) (hf : ∀ x, (f x).length = k) : ∀ l : List α, (l.flatMap f).length = l.length * k
  | [] => by simp
  | x :: l => by simp [List.flatMap_cons, hf, flat_len f k hf l, Nat.add_mul, Nat.add_comm]
theorem flat_get {α : Type} (f : α → List Value) (k : Nat) (hf : ∀ x, (f x).length = k) : ∀ (l : List α) (i j : Nat) (x : α), l[i]? = some x → j < k → (l.flatMap f)[i * k + j]? = (f x)[j]?
  | [], i, j, x, h, _ => by simp at h
  | y :: l, 0, j, x, h, hj => by
    simp at h
    subst h
    rw [List.flatMap_cons, Nat.zero_mul, Nat.zero_add, List.getElem?_append_left (by rw [hf]; exact hj)]
  | y :: l, i + 1, j, x, h, hj => by
    rw [List.flatMap_cons, List.getElem?_append_right (by rw [hf, Nat.add_mul]; omega), hf]
    rw [show (i + 1) * k + j - k = i * k + j from by rw [Nat.add_mul]; omega]
    exact flat_get f k hf l i j x (by simpa using h) hj
theorem flat_drop {α : Type} (f : α → List Value) (k : Nat) (hf : ∀ x, (f x).length = k) : ∀ (l : List α) (i : Nat), (l.flatMap f).drop (i * k) = (l.drop i).flatMap f
  | l, 0 => by simp
  | [], i + 1 => by simp
  | y :: l, i + 1 => by
    rw [List.flatMap_cons, List.drop_append, List.drop_of_length_le (by rw [hf, Nat.add_mul]; omega), List.nil_append, hf, show (i + 1) * k - k = i * k from by rw [Nat.add_mul]; omega, flat_drop f k hf l i]
    simp
theorem flat_take {α : Type} (f : α → List Value) (k : Nat) (hf : ∀ x, (f x).length = k) : ∀ (l : List α) (i : Nat), (l.flatMap f).take (i * k) = (l.take i).flatMap f
  | l, 0 => by simp
  | [], i + 1 => by simp
  | y :: l, i + 1 => by
    rw [List.flatMap_cons, List.take_append, List.take_of_length_le (by rw [hf, Nat.add_mul]; omega), hf, show (i + 1) * k - k = i * k from by rw [Nat.add_mul]; omega, flat_take f k hf l i]
    simp

end

section
set_option linter.unusedVariables false

/-- The first k operations have run. -/
def upTo (m : Nat) : Nat → Array Bool
  | 0 => Array.replicate m false
  | k + 1 => (upTo m k).setIfInBounds k true
theorem upTo_size (m : Nat) : ∀ k, (upTo m k).size = m
  | 0 => by simp [upTo]
  | k + 1 => by simp [upTo, upTo_size m k]
theorem upTo_past (m : Nat) : ∀ k i, k ≤ i → i < m → (upTo m k).getD i true = false
  | 0, i, _, hi => by simp [upTo, hi]
  | k + 1, i, hk, hi => by
    unfold upTo
    rw [getD_set_ne true (by omega)]
    exact upTo_past m k i (by omega) hi
theorem upTo_false (m : Nat) : ∀ k i, (upTo m k).getD i false = true → i < k
  | 0, i, h => by unfold upTo at h; rw [getD_replicate_false] at h; cases h
  | k + 1, i, h => by
    by_cases hi : k = i
    · omega
    · unfold upTo at h
      rw [getD_set_ne false hi] at h
      have := upTo_false m k i h
      omega
theorem upTo_done (m : Nat) : ∀ k i, i < k → i < m → (upTo m k).getD i false = true
  | 0, i, h, _ => by omega
  | k + 1, i, h, hm => by
    unfold upTo
    by_cases hi : k = i
    · subst hi
      simp [upTo_size, hm]
    · exact getD_set_true (upTo_done m k i (by omega) hm)

section
variable {P : Program} {ops : Array Oper} {md : Region.Mode} {w : World}

/-- Each of the operations from k to n is waited for, up to n; each one behind n waits for one from n on. -/
def fanB (md : Region.Mode) (ops : Array Oper) (k n : Nat) : Bool :=
  ((List.range n).all fun i => decide (i < k) || (List.range (n + 1)).any fun j => decide (i < j) && Region.waitsFor md ops j i) &&
  ((List.range ops.size).all fun t => decide (t ≤ n) || (List.range t).any fun s => decide (n ≤ s) && Region.waitsFor md ops t s)
/-- What has run waited for nothing that has not. -/
def shutB (md : Region.Mode) (ops : Array Oper) (k : Nat) : Bool :=
  (List.range k).all fun j => match ops[j]? with | some o => o.after.all fun e => !Region.binds md e || decide (e.on < k ∧ e.on < ops.size) | none => true

theorem head_start {k n : Nat} (hs : shutB md ops k = true) (hkn : k ≤ n) : HeadInv md ops n (upTo ops.size k) := by
  refine ⟨upTo_size _ _, fun j oj hj hl e he hb => ?_, fun t ht hm => upTo_past _ k t (by omega) hm⟩
  have hjk := upTo_false _ _ _ hl
  have h1 := List.all_eq_true.1 hs j (List.mem_range.2 hjk)
  rw [hj] at h1
  have h2 := Array.all_eq_true_iff_forall_mem.1 h1 e he
  rw [hb] at h2
  simp at h2
  exact upTo_done _ _ _ h2.1 h2.2

/-- While one of the head has not run nothing behind it can. -/
theorem fan_waits {k n : Nat} (hf : fanB md ops k n = true) {listed : Array Bool} (inv : HeadInv md ops n listed) :
    ∀ (d i : Nat), n - i ≤ d → k ≤ i → i < n → listed.getD i true = false → ∀ t, n ≤ t → t ∉ Region.ready md ops listed := by
  unfold fanB at hf
  rw [Bool.and_eq_true] at hf
  obtain ⟨f1, f2⟩ := hf
  intro d
  induction d with
  | zero => intro i hd _ hi; omega
  | succ d ih =>
    intro i hd hki hin hun t ht hr
    obtain ⟨_, ot, hot, hall⟩ := mem_ready.1 hr
    have htm : t < ops.size := (Array.getElem?_eq_some_iff.1 hot).1
    rcases Nat.lt_or_ge n t with hnt | hnt
    · have h1 := List.all_eq_true.1 f2 t (List.mem_range.2 htm)
      rw [Bool.or_eq_true, decide_eq_true_eq] at h1
      rcases h1 with h1 | h1
      · omega
      · obtain ⟨s, hs, hs2⟩ := List.any_eq_true.1 h1
        rw [Bool.and_eq_true, decide_eq_true_eq] at hs2
        obtain ⟨o', ho', e, he, hb, hon⟩ := Region.waitsFor_spec hs2.2
        obtain rfl : o' = ot := Option.some.inj (ho'.symm.trans hot)
        have h3 := hall e he hb
        have hsl := List.mem_range.1 hs
        rw [hon, getD_both (inv.tail s hs2.1 (by omega))] at h3
        cases h3
    · have h1 := List.all_eq_true.1 f1 i (List.mem_range.2 hin)
      rw [Bool.or_eq_true, decide_eq_true_eq] at h1
      rcases h1 with h1 | h1
      · omega
      · obtain ⟨j, hj, hj2⟩ := List.any_eq_true.1 h1
        rw [Bool.and_eq_true, decide_eq_true_eq] at hj2
        obtain ⟨oj, hoj, e, he, hb, hon⟩ := Region.waitsFor_spec hj2.2
        have hjn := List.mem_range.1 hj
        rcases Nat.lt_or_ge j n with hlt | hge
        · cases hl : listed.getD j false with
          | true =>
            have h3 := inv.closed j oj hoj hl e he hb
            rw [hon, getD_both hun] at h3
            cases h3
          | false => exact ih j (by omega) (by omega) hlt (getD_in (by rw [inv.size]; exact (Array.getElem?_eq_some_iff.1 hoj).1) hl) t ht hr
        · obtain rfl : j = t := by omega
          obtain rfl : oj = ot := Option.some.inj (hoj.symm.trans hot)
          have h3 := hall e he hb
          rw [hon, getD_both hun] at h3
          cases h3

/-- An operation of the head that leaves the world alone may be taken as the first. -/
theorem head_first {n i : Nat} {oi : Oper} {v : Value} {L : Array Bool → Act → Prop} (hi : ops[i]? = some oi) (hsel : ∀ (j : Nat) (o : Oper) cs b, ops[j]? = some o → o.op ≠ .select cs b) (hin : i < n)
    (hW : ∀ listed, HeadInv md ops n listed → listed.getD i true = false → ∀ t ∈ Region.ready md ops listed, t < n) (hL : ∀ listed a, L listed a → ∀ j ∈ Region.ready md ops listed, n ≤ j) :
    ∀ (f : Nat) (listed : Array Bool) (a : Act), HeadInv md ops n listed →
      (∀ j oj, ops[j]? = some oj → j ≠ i → listed.getD j true = false → (∀ e ∈ oj.after, Region.binds md e = true → e.on ≠ i) → oi.apart ops oj = true) →
      i ∈ Region.ready md ops listed → YieldsAt P ops w oi v a → wpAnyL P md ops w n L f (listed.setIfInBounds i true) (a.put oi.dst v) → wpAnyL P md ops w n L (f + 1) listed a := by
  intro f
  induction f with
  | zero =>
    intro listed a inv _ hr hy H
    refine ⟨List.ne_nil_of_mem hr, fun j hj => ?_⟩
    have hjn := hW listed inv (mem_ready.1 hr).1 j hj
    by_cases hji : j = i
    · subst hji; exact ⟨hjn, hy.stOp hi H⟩
    · have := hL _ _ H j (ready_mono hj hji); omega
  | succ f ih =>
    intro listed a inv hfree hr hy H
    refine ⟨List.ne_nil_of_mem hr, fun j hj => ?_⟩
    have hun := (mem_ready.1 hr).1
    have hjn := hW listed inv hun j hj
    by_cases hji : j = i
    · subst hji; exact ⟨hjn, hy.stOp hi H⟩
    · obtain ⟨hjun, oj, hoj, hall⟩ := mem_ready.1 hj
      have hno : ∀ e ∈ oj.after, Region.binds md e = true → e.on ≠ i := by
        rintro e he hb rfl
        have h1 := hall e he hb
        rw [getD_both hun] at h1
        cases h1
      refine ⟨hjn, stOp_mono (fun a' h3 => ih _ a' (inv.set hj hjn) (fun k ok hk hki hunk hnok => hfree k ok hk hki ?_ hnok) (ready_mono hr (Ne.symm hji)) h3.1 ?_)
        (stOp_put hoj (hfree j oj hoj hji hjun hno) (fun cs b => hsel i oi cs b hi) (fun cs b => hsel j oj cs b hoj) hy (H.2 j (ready_mono hj hji)).2)⟩
      · by_cases hjk : j = k
        · subst hjk; exact hjun
        · rw [getD_set_ne true hjk] at hunk; exact hunk
      · rw [Array.setIfInBounds_comm _ _ hji]; exact h3.2

/-- The operations from k to n in the text's order; then just n can run. -/
def lexB (md : Region.Mode) (ops : Array Oper) (n : Nat) : Nat → Nat → Bool
  | 0, k => decide (k = n) && decide (Region.ready md ops (upTo ops.size n) = [n])
  | f + 1, k => (Region.ready md ops (upTo ops.size k)).contains k && Region.free md ops (upTo ops.size k) k && lexB md ops n f (k + 1)

theorem head_lex {n : Nat} {Lq : Act → Prop} (hsel : Region.noSelect ops = true) (k0 : Nat) (hf : fanB md ops k0 n = true) :
    ∀ (l : List Oper) (k : Nat) (a : Act), (∀ j, j < l.length → l[j]? = ops[k + j]?) → k + l.length = n → k0 ≤ k → HeadInv md ops n (upTo ops.size k) → lexB md ops n l.length k = true → wpStill P ops w Lq l a →
    wpAnyL P md ops w n (fun listed' a' => listed' = upTo ops.size n ∧ Lq a') l.length (upTo ops.size k) a
  | [], k, a, _, hk, _, _, hB, h => by
    obtain rfl : k = n := by simpa using hk
    exact ⟨rfl, h⟩
  | o :: l, k, a, hl, hk, hk0, inv, hB, h => by
    have h0 : ops[k]? = some o := by simpa using (hl 0 (by simp)).symm
    simp only [List.length_cons, lexB, Bool.and_eq_true] at hB
    obtain ⟨⟨hr, hfr⟩, hB'⟩ := hB
    have hkn : k < n := by simp only [List.length_cons] at hk; omega
    have hr' : k ∈ Region.ready md ops (upTo ops.size k) := by simpa using hr
    have hst : stOp P ops w k (wpStill P ops w Lq l) a := by unfold stOp; simp only [h0]; exact h
    obtain ⟨v, hy, hK⟩ := yieldsAt_of_stOp h0 hst
    have hend : Region.ready md ops (upTo ops.size n) = [n] := by
      clear hst hy hK h hl inv hr hfr hr' h0
      have : ∀ (f k : Nat), lexB md ops n f k = true → Region.ready md ops (upTo ops.size n) = [n] := by
        intro f
        induction f with
        | zero => intro k h; simp only [lexB, Bool.and_eq_true, decide_eq_true_eq] at h; exact h.2
        | succ f ih => intro k h; simp only [lexB, Bool.and_eq_true] at h; exact ih _ h.2
      exact this _ _ hB'
    refine head_first h0 (Region.noSelect_spec hsel) hkn (fun listed inv' hun t ht => ?_) (fun listed a hL j hj => ?_) l.length _ a inv (Region.free_spec h0 hfr) hr' hy
      (head_lex hsel k0 hf l (k + 1) _ (fun j hj => by have := hl (j + 1) (by simp; omega); simpa [Nat.add_assoc, Nat.add_comm 1 j] using this) (by simp only [List.length_cons] at hk; omega) (by omega) (inv.set hr' hkn) hB' hK)
    · rcases Nat.lt_or_ge t n with h1 | h1
      · exact h1
      · exact absurd ht (fan_waits hf inv' (n - k) k (Nat.le_refl _) hk0 hkn hun t h1)
    · rw [hL.1, hend] at hj
      simp at hj
      omega

/-- May the region be walked so from k on, its world turning at fs alone? -/
def textB (md : Region.Mode) (ops : Array Oper) : List Nat → Nat → Bool
  | [], k => Region.lexFrom md ops (ops.size - k) k (upTo ops.size k)
  | n :: fs, k => decide (k ≤ n) && decide (n < ops.size) && fanB md ops k n && shutB md ops k && lexB md ops n (n - k) k && textB md ops fs (n + 1)

/-- What is to be shown then. -/
def wpText (P : Program) (ops : Array Oper) (Q : Exit → Act → World → Prop) : List Nat → Nat → List Oper → Act → World → Prop
  | [], _, l, a, w => wpStill P ops w (fun a' => Q .normal a' w) l a
  | n :: fs, k, l, a, w => wpStill P ops w (fun a' => wpList P ops (Exit.then (fun a'' w'' => wpText P ops Q fs (n + 1) (l.drop (n - k + 1)) a'' w'') Q) ((l.drop (n - k)).take 1) a' w) (l.take (n - k)) a

theorem wpAny_text {Q : Exit → Act → World → Prop} (hsel : Region.noSelect ops = true) : ∀ (fs : List Nat) (k : Nat) (l : List Oper) (a : Act) (w : World), (∀ j, l[j]? = ops[k + j]?) → k + l.length = ops.size → textB md ops fs k = true →
    wpText P ops Q fs k l a w → wpAny P md ops Q (ops.size - k) (upTo ops.size k) a w
  | [], k, l, a, w, hl, hk, hB, h => by
    have hlen : ops.size - k = l.length := by omega
    rw [hlen]
    refine wpAny_of_still (Q := fun a' => Q .normal a' w) (fun _ h => h) _ _ _ ?_
    exact wpAnyS_lex hsel l k _ a hl (by rw [← hlen]; exact hB) h
  | n :: fs, k, l, a, w, hl, hk, hB, h => by
    simp only [textB, Bool.and_eq_true, decide_eq_true_eq] at hB
    obtain ⟨⟨⟨⟨⟨hkn, hnm⟩, hf⟩, hs⟩, hlex⟩, hB'⟩ := hB
    have htl : (l.take (n - k)).length = n - k := by simp; omega
    have hn0 : ops[n]? = some (ops[n]'hnm) := Array.getElem?_eq_getElem hnm
    have H := head_lex (P := P) (w := w) hsel k hf (l.take (n - k)) k a (fun j hj => by
      rw [htl] at hj
      rw [List.getElem?_take_of_lt hj]; exact hl j) (by rw [htl]; omega) (Nat.le_refl _) (head_start hs hkn) (by rw [htl]; exact hlex) h
    have hend : Region.ready md ops (upTo ops.size n) = [n] := by
      have : ∀ (f k : Nat), lexB md ops n f k = true → Region.ready md ops (upTo ops.size n) = [n] := by
        intro f
        induction f with
        | zero => intro k h; simp only [lexB, Bool.and_eq_true, decide_eq_true_eq] at h; exact h.2
        | succ f ih => intro k h; simp only [lexB, Bool.and_eq_true] at h; exact ih _ h.2
      exact this _ _ hlex
    have hd : (l.drop (n - k)).take 1 = [ops[n]'hnm] := by
      have h1 : l[n - k]? = some (ops[n]'hnm) := by rw [hl, show k + (n - k) = n from by omega]; exact hn0
      obtain ⟨hlt, h2⟩ := List.getElem?_eq_some_iff.1 h1
      rw [List.drop_eq_getElem_cons hlt, h2]
      rfl
    have := wpAny_of_head (Q' := Q) (g := ops.size - n) (fun listed a' hL => by
      obtain ⟨rfl, hw⟩ := hL
      rw [show ops.size - n = (ops.size - (n + 1)) + 1 from by omega]
      refine ⟨(fun h0 => by rw [hend] at h0; cases h0), fun i hi => ?_⟩
      rw [hend] at hi
      obtain rfl : i = n := by simpa using hi
      rw [hd] at hw
      have hw' : wpOp P ops Q i (fun a'' w'' => wpText P ops Q fs (i + 1) (l.drop (i - k + 1)) a'' w'') a' w := by
        unfold wpOp
        rw [hn0]
        exact hw
      exact wpOp_mono (fun a'' w'' h3 => wpAny_text hsel fs (i + 1) _ a'' w'' (fun j => by
        rw [List.getElem?_drop, hl]; congr 1; omega) (by simp; omega) hB' h3) hw') _ _ _ H
    rw [htl, show n - k + (ops.size - n) = ops.size - k from by omega] at this
    exact this

/-- A REGION THAT DRAWS ITS ORDER, walked in the text's order. -/
theorem wp_text {id : Nat} {Q : Exit → Act → World → Prop} {a : Act} {w : World} {l : List Oper} (fs : List Nat) (hm : P.follows .mixedOrders = true) (hB : (Region.noSelect l.toArray && textB .any l.toArray fs 0) = true)
    (h : wpText P l.toArray Q fs 0 l a w.drew) : (Code.region id l.toArray true).wp P Q a w := by
  rw [Bool.and_eq_true] at hB
  refine wp_region_any hm ?_
  have := wpAny_text (md := .any) (Q := Q) hB.1 fs 0 l a w.drew (by simp) (by simp) hB.2 h
  simpa [upTo] using this
end

end

section
open Go.RowKit Go.Maps

section
variable {P : Program} (w : World) {ops : Array Oper} {rest : List Oper} {o : Oper} {a : Act} {Q : Exit → Act → World → Prop}

/-- 'm[k]'. -/
theorem wpList_lookM (hg : o.guard = none) (m x : Operand) (t : TypeId) (hop : o.op = Op.lookup t m x false)
    (k e : TypeId) (K : Keyed P k) (ht : P.underlying t = some (.map k e)) (ok : Value → Bool) (z : Value) (hz : (zeroValue e).run P w = .ok z w) (hzo : ok z = true) (b n : Nat) (M : Lit → Option Value)
    (hm : a.eval m = .map (some b)) (hM : MapIs P k ok w b n M) (key : Value) (kl : Lit) (hx : a.eval x = key) (hkey : keyOf P k key = some kl) (v : Value) (hv : (M kl).getD z = v)
    (hK : wpList P ops Q rest (a.put o.dst v) w) : wpList P ops Q (o :: rest) a w := by
  refine wpList_plain hg fun K' hK' => ?_
  have hrun := hM.look K ht hz hzo hkey
  rw [hv] at hrun
  unfold Oper.wp
  simp [execOp, hop, hm, hx, hrun, Result.andThen]
  exact hK' _ _ hK

/-- 'v, ok := m[k]'. -/
theorem wpList_look_okM (hg : o.guard = none) (m x : Operand) (t : TypeId) (hop : o.op = Op.lookup t m x true)
    (k e : TypeId) (K : Keyed P k) (ht : P.underlying t = some (.map k e)) (ok : Value → Bool) (z : Value) (hz : (zeroValue e).run P w = .ok z w) (hzo : ok z = true) (b n : Nat) (M : Lit → Option Value)
    (hm : a.eval m = .map (some b)) (hM : MapIs P k ok w b n M) (key : Value) (kl : Lit) (hx : a.eval x = key) (hkey : keyOf P k key = some kl) (v : Value) (hv : (M kl).getD z = v) (is : Bool) (hi : (M kl).isSome = is)
    (hK : wpList P ops Q rest (a.put o.dst (.tuple #[v, .bool is])) w) : wpList P ops Q (o :: rest) a w := by
  refine wpList_plain hg fun K' hK' => ?_
  have hrun := hM.look_ok K ht hz hzo hkey
  rw [hv, hi] at hrun
  unfold Oper.wp
  simp [execOp, hop, hm, hx, hrun, Result.andThen]
  exact hK' _ _ hK

/-- 'm[k] = v'. -/
theorem wpList_storeM (hg : o.guard = none) (m x v : Operand) (t : TypeId) (hop : o.op = Op.mapUpdate t m x v)
    (k e : TypeId) (K : Keyed P k) (ht : P.underlying t = some (.map k e)) (ok : Value → Bool) (b n : Nat) (M : Lit → Option Value)
    (hm : a.eval m = .map (some b)) (hM : MapIs P k ok w b n M) (hn : n < maxLen) (key val : Value) (kl : Lit) (hx : a.eval x = key) (hv : a.eval v = val) (hkey : keyOf P k key = some kl) (hval : ok val = true)
    (hK : ∀ w', MapIs P k ok w' b (n + 1) (upd M kl val) → w.grownBy w' (some b) → w'.heap.size = w.heap.size → wpList P ops Q rest (a.put o.dst undef) w') :
    wpList P ops Q (o :: rest) a w := by
  refine wpList_plain hg fun K' hK' => ?_
  obtain ⟨w', hrun, r1, r2, r3⟩ := hM.store K ht hn hkey hval
  unfold Oper.wp
  simp [execOp, hop, hm, hx, hv, hrun, Result.andThen]
  exact hK' _ _ (hK w' r1 r2 r3)

/-- 'range m'. -/
theorem wpList_rangeM (hg : o.guard = none) (m : Operand) (t : TypeId) (hop : o.op = Op.range t m) (k e : TypeId) (K : Keyed P k) (ht : P.underlying t = some (.map k e)) (ok : Value → Bool) (b n : Nat) (M : Lit → Option Value)
    (hm : a.eval m = .map (some b)) (hM : MapIs P k ok w b n M)
    (hK : ∀ w' cnt, MapGoes P k ok w' b w.heap.size n M (fun kl => (M kl).isSome) cnt → w.grownBy w' none → w'.heap.size = w.heap.size + 1 → cnt ≤ n → wpList P ops Q rest (a.put o.dst (.pointer (some ⟨w.heap.size, 0, none⟩))) w') :
    wpList P ops Q (o :: rest) a w := by
  refine wpList_plain hg fun K' hK' => ?_
  obtain ⟨w', cnt, hrun, r1, r2, r3, r4⟩ := hM.range K ht
  unfold Oper.wp
  simp [execOp, hop, hm, hrun, Result.andThen]
  exact hK' _ _ (hK w' cnt r1 r2 r3 r4)

/-- The step, keys that are strings, elements of one shape. -/
theorem wpList_nextS {β : Type} (hg : o.guard = none) (it : Operand) (hop : o.op = Op.next it false) (k : TypeId) (hk : P.underlying k = some .string) (ok : Value → Bool) (mkV : β → Value) (invV : ∀ v, ok v = true → ∃ c, v = mkV c) (b r n : Nat) (M : Lit → Option Value) (left : Lit → Bool) (cnt : Nat)
    (hit : a.eval it = .pointer (some ⟨r, 0, none⟩)) (h : MapGoes P k ok w b r n M left cnt)
    (hDone : cnt = 0 → (∀ kl, left kl = false) → wpList P ops Q rest (a.put o.dst (.tuple #[.bool false])) w)
    (hMore : ∀ (s : ByteArray) (c : β) (w' : World) (cnt' : Nat), s.size ≤ maxLen → left (.string s.data.toList) = true → ok (mkV c) = true → M (.string s.data.toList) = some (mkV c) → MapGoes P k ok w' b r n M (fun z => left z && !z.sameKey (.string s.data.toList)) cnt' → cnt' < cnt →
      w.grownBy w' (some r) → w'.heap.size = w.heap.size → (Instr.entry (.pointer (some ⟨r, 0, none⟩))).run P w' = .ok (.tuple #[.string s, mkV c]) w' → wpList P ops Q rest (a.put o.dst (.tuple #[.bool true, .string s, mkV c])) w') :
    wpList P ops Q (o :: rest) a w := by
  refine wpList_plain hg fun K' hK' => ?_
  unfold Oper.wp
  rcases h.next (string_keyed hk) o.type with ⟨h0, hl, hrun⟩ | ⟨key, v, kl, w', cnt', hkey, hlk, hv, hat, hrun, hrg, hlt, hgr, hsz, hen⟩
  · simp [execOp, hop, hit, hrun, Result.andThen]
    exact hK' _ _ (hDone h0 hl)
  · obtain ⟨s, rfl, rfl, hs⟩ := WideMaps.string_of_keyOf hk hkey
    obtain ⟨c, rfl⟩ := invV v hv
    simp [execOp, hop, hit, hrun, Result.andThen]
    exact hK' _ _ (hMore s c w' cnt' hs hlk hv hat hrg hlt hgr hsz hen)
end

end

section
open Go.RowKit Go.Maps
set_option linter.unusedVariables false

/-- Block b is a map of just sz entries that holds what M says. -/
def MapSz (P : Program) (k : TypeId) (ok : Value → Bool) (w : World) (b sz : Nat) (M : Lit → Option Value) : Prop :=
  ∃ D : DataW Value, w.ownsMap P k (heldElem ok) b sz D ∧ (∀ kl, view D kl = M kl) ∧ Maps.size D = sz
section
variable {P : Program} {k : TypeId} {ok : Value → Bool} {w w' : World} {b n : Nat} {M : Lit → Option Value}
theorem MapSz.toIs (h : MapSz P k ok w b n M) : MapIs P k ok w b n M := by obtain ⟨D, h1, h2, _⟩ := h; exact ⟨D, h1, h2⟩
theorem MapSz.lt (h : MapSz P k ok w b n M) : b < w.heap.size := h.toIs.lt
theorem MapSz.made (w : World) (P : Program) (k : TypeId) (ok : Value → Bool) : MapSz P k ok (w.alloc (.map #[] 0)) w.heap.size 0 (fun _ => none) :=
  ⟨_, World.ownsMap_made w P k _, fun kl => by simp [view, DataW.atKey, unheld], rfl⟩
theorem MapSz.alloc (h : MapSz P k ok w b n M) (o : Obj) : MapSz P k ok (w.alloc o) b n M := by obtain ⟨D, hD, hM, hs⟩ := h; exact ⟨D, hD.alloc o, hM, hs⟩
theorem MapSz.drewN (h : MapSz P k ok w b n M) (q : Nat) : MapSz P k ok (w.drewN q) b n M := h
theorem MapSz.kept {S : Nat → Prop} (h : MapSz P k ok w b n M) (hk : Kept S w w') (hn : ¬ S b) : MapSz P k ok w' b n M := by
  obtain ⟨D, ⟨es, clock, hb, r⟩, hM, hs⟩ := h
  exact ⟨D, ⟨es, clock, (hk.block b (Array.getElem?_eq_some_iff.1 hb).1 hn).trans hb, r⟩, hM, hs⟩
theorem MapSz.congr (h : MapSz P k ok w b n M) {M' : Lit → Option Value} (he : ∀ kl, M kl = M' kl) : MapSz P k ok w b n M' := by obtain ⟨D, hD, hM, hs⟩ := h; exact ⟨D, hD, fun kl => (hM kl).trans (he kl), hs⟩
theorem MapSz.store {t e : TypeId} (h : MapSz P k ok w b n M) (K : Keyed P k) (ht : P.underlying t = some (.map k e)) (hn : n < maxLen) {key val : Value} {kl : Lit} (hkey : keyOf P k key = some kl) (hv : ok val = true) :
    ∃ w', (Instr.mapUpdate t (.map (some b)) key val).run P w = .ok () w' ∧ MapSz P k ok w' b (if (M kl).isSome then n else n + 1) (upd M kl val) ∧ w.grownBy w' (some b) ∧ w'.heap.size = w.heap.size := by
  obtain ⟨D, hD, hM, hs⟩ := h
  obtain ⟨w', hrun, h1, h2⟩ := hD.store K ht hn hkey (heldElem_mk hv)
  have hsz : Maps.size (D.put kl (.held val)) = if (M kl).isSome then n else n + 1 := by
    rw [Maps.size_put (hD.tidy K), ← hM, view_some_has hD, hs]
  refine ⟨w', hrun, ⟨_, ?_, fun x => ?_, hsz⟩, h2.grown, ?_⟩
  · obtain ⟨es, clock, hb, F, hle, hD2⟩ := h1
    refine ⟨es, clock, hb, F, ?_, hD2⟩
    rw [← hsz, hD2]
    show es.size ≤ List.length _
    rw [Go.length_read]
    exact Nat.le_refl _
  · unfold upd view
    by_cases hx : x = kl
    · subst hx
      rw [WideAt.sameKey_self (K.key hkey), if_pos rfl, atKey_put_same hD.isMap (K.key hkey)]; rfl
    · rw [sameKey_ne hx, if_neg (by simp), atKey_put_other hx]; exact hM x
  · obtain ⟨es, c, es', c', _, rfl⟩ := h2
    simp [Go.ChangeMaps.setBlock]

/-- 'm[k] = v'. -/
theorem wpList_storeZ (w : World) {ops : Array Oper} {rest : List Oper} {o : Oper} {a : Act} {Q : Exit → Act → World → Prop} (hg : o.guard = none) (m x v : Operand) (t : TypeId) (hop : o.op = Op.mapUpdate t m x v)
    (k e : TypeId) (K : Keyed P k) (ht : P.underlying t = some (.map k e)) (ok : Value → Bool) (b n : Nat) (M : Lit → Option Value)
    (hm : a.eval m = .map (some b)) (hM : MapSz P k ok w b n M) (hn : n < maxLen) (key val : Value) (kl : Lit) (hx : a.eval x = key) (hv : a.eval v = val) (hkey : keyOf P k key = some kl) (hval : ok val = true)
    (hK : ∀ w', MapSz P k ok w' b (if (M kl).isSome then n else n + 1) (upd M kl val) → w.grownBy w' (some b) → w'.heap.size = w.heap.size → wpList P ops Q rest (a.put o.dst undef) w') :
    wpList P ops Q (o :: rest) a w := by
  refine wpList_plain hg fun K' hK' => ?_
  obtain ⟨w', hrun, r1, r2, r3⟩ := hM.store K ht hn hkey hval
  unfold Oper.wp
  simp [execOp, hop, hm, hx, hv, hrun, Result.andThen]
  exact hK' _ _ (hK w' r1 r2 r3)
/-- 'len(m)'. -/
theorem MapSz.len {t e : TypeId} (h : MapSz P k ok w b n M) (ht : P.underlying t = some (.map k e)) (ty : TypeId) : (Builtin.len_ #[t] ty #[.map (some b)]).run P w = .ok (.int .i64 n) w := by
  obtain ⟨D, hD, _, hs⟩ := h
  rw [hD.len ht ty, hs]
theorem wpList_lenZ (w : World) {ops : Array Oper} {rest : List Oper} {o : Oper} {a : Act} {Q : Exit → Act → World → Prop} (hg : o.guard = none) (m : Operand) (t : TypeId) (hop : o.op = Op.call { callee := Callee.builtin Builtin.len, args := #[m], argTypes := #[t] })
    (k e : TypeId) (ht : P.underlying t = some (.map k e)) (ok : Value → Bool) (b n : Nat) (M : Lit → Option Value) (hm : a.eval m = .map (some b)) (hM : MapSz P k ok w b n M)
    (hK : wpList P ops Q rest (a.put o.dst (.int .i64 n)) w) :
    wpList P ops Q (o :: rest) a w := by
  refine wpList_plain hg fun K' hK' => ?_
  unfold Oper.wp
  simp [execOp, hop, resolve, invoke, builtin, hm, hM.len ht o.type, Result.andThen]
  exact hK' _ _ hK
end

end

section
open Go.RowKit
set_option linter.unusedVariables false

/-- An array with values from a place on. -/
def putA (cs : Array Value) : Nat → List Value → Array Value
  | _, [] => cs
  | o, v :: r => putA (cs.setIfInBounds o v) (o + 1) r
section
variable {P : Program} {w w' : World} {g : Nat} {t : TypeId} {cs : Array Value}
theorem Blk.setCells : ∀ (vs : List Value) (o : Nat) (w : World) (cs : Array Value), Blk w g t cs → Blk (w.setCells g o vs) g t (putA cs o vs)
  | [], _, _, _, h => h
  | v :: r, o, w, cs, h => Blk.setCells r (o + 1) _ _ (h.set_ o v)
theorem kept_setCells : ∀ (vs : List Value) (o : Nat) (a w : World), Kept (fun q => q = g) a w → Kept (fun q => q = g) a (w.setCells g o vs)
  | [], _, _, _, h => h
  | v :: r, o, a, w, h => kept_setCells r (o + 1) a _ (h.setCell (Or.inl rfl) v)
theorem size_setCells : ∀ (vs : List Value) (o : Nat) (w : World), (w.setCells g o vs).heap.size = w.heap.size
  | [], _, _ => rfl
  | v :: r, o, w => by rw [World.setCells, size_setCells r]; simp [World.setCell]
theorem Blk.there (h : Blk w g t cs) {o n : Nat} (hn : o + n ≤ cs.size) : w.there g o n := fun j hj => ⟨by rw [h.cell, Array.getElem?_eq_getElem (by omega)]; rfl, h.frozen _⟩

theorem wp_store_blk {o : Oper} {a : Act} {K : Act → World → Prop} {Q : Exit → Act → World → Prop} (w : World) (ty : TypeId) (x y : Operand) (ho : o.op = .store ty x y) (off : Nat) (cells : Array Value) (hx : a.eval x = .pointer (some ⟨g, off, none⟩)) (hy : a.eval y = .agg cells)
    (hb : Blk w g t cs) (hle : off + cells.size ≤ cs.size) (hi : (P.info? ty).map (·.size) = some cells.size) (h1 : cells.all (·.oneCell') = true)
    (h : ∀ w', Blk w' g t (putA cs off cells.toList) → Kept (fun q => q = g) w w' → w'.heap.size = w.heap.size → K (a.put o.dst undef) w') : o.wp P a w K Q :=
  wp_store_mid ty x y ho g off cells hx hy (hb.there hle) hi h1 (h _ (Blk.setCells _ _ _ _ hb) (kept_setCells _ _ _ _ (Kept.refl _ _)) (size_setCells _ _ _))
theorem wpList_store_blk {ops : Array Oper} {rest : List Oper} {o : Oper} {a : Act} {Q : Exit → Act → World → Prop} (w : World) (hgd : o.guard = none) (ty : TypeId) (x y : Operand) (ho : o.op = .store ty x y) (off : Nat) (cells : Array Value) (hx : a.eval x = .pointer (some ⟨g, off, none⟩)) (hy : a.eval y = .agg cells)
    (hb : Blk w g t cs) (hle : off + cells.size ≤ cs.size) (hi : (P.info? ty).map (·.size) = some cells.size) (h1 : cells.all (·.oneCell') = true)
    (h : ∀ w', Blk w' g t (putA cs off cells.toList) → Kept (fun q => q = g) w w' → w'.heap.size = w.heap.size → wpList P ops Q rest (a.put o.dst undef) w') : wpList P ops Q (o :: rest) a w :=
  wpList_plain hgd fun _ hK => wp_store_blk w ty x y ho off cells hx hy hb hle hi h1 fun w' h2 h3 h4 => hK _ _ (h w' h2 h3 h4)
theorem step_store_blk {ops : Array Oper} {o : Oper} {a : Act} {K : Act → World → Prop} {Q : Exit → Act → World → Prop} {E : Prop} (w : World) (hgd : o.guard = none) (ty : TypeId) (x y : Operand) (ho : o.op = .store ty x y) (off : Nat) (cells : Array Value) (hx : a.eval x = .pointer (some ⟨g, off, none⟩)) (hy : a.eval y = .agg cells)
    (hb : Blk w g t cs) (hle : off + cells.size ≤ cs.size) (hi : (P.info? ty).map (·.size) = some cells.size) (h1 : cells.all (·.oneCell') = true)
    (h : ∀ w', Blk w' g t (putA cs off cells.toList) → Kept (fun q => q = g) w w' → w'.heap.size = w.heap.size → K (a.put o.dst undef) w') :
    if Region.wanted o (yielded ops a.tmps) = true then Oper.wp P o a w K Q else E := by
  rw [if_pos (by simp [Region.wanted, hgd])]
  exact wp_store_blk w ty x y ho off cells hx hy hb hle hi h1 h
end

end

section
set_option linter.unusedVariables false

section
variable {P : Program} {ops : Array Oper} {md : Region.Mode} {Q : Exit → Act → World → Prop} {S : World → Prop}

/-- May the region be walked so? true: nothing else can come up. -/
def planB (md : Region.Mode) (ops : Array Oper) : List (Nat × Bool) → Array Bool → Bool
  | [], listed => decide (Region.ready md ops listed = [])
  | (i, true) :: r, listed => decide (Region.ready md ops listed = [i]) && planB md ops r (listed.setIfInBounds i true)
  | (i, false) :: r, listed => (Region.ready md ops listed).contains i && Region.free md ops listed i && planB md ops r (listed.setIfInBounds i true)
/-- The operations in the plan's order. -/
def planL (l : List Oper) : List (Nat × Bool) → List (Oper × Bool)
  | [] => []
  | (i, b) :: r => match l[i]? with | some o => (o, b) :: planL l r | none => planL l r
/-- What is to be shown then. -/
def wpPlan (P : Program) (ops : Array Oper) (Q : Exit → Act → World → Prop) (S : World → Prop) : List (Oper × Bool) → Act → World → Prop
  | [], a, w => Q .normal a w
  | (o, true) :: r, a, w => wpList P ops (Exit.then (fun a' w' => S w' ∧ wpPlan P ops Q S r a' w') Q) [o] a w
  | (o, false) :: r, a, w => ∃ v, YieldsIf P ops S o v a ∧ wpPlan P ops Q S r (a.put o.dst v) w

theorem plan_on {o : Oper} {r : List (Oper × Bool)} {a : Act} {w : World} (v : Value) (hw : Region.wanted o (yielded ops a.tmps) = true) (hy : ∀ W, S W → (execOp a.eval o).run P W = .ok (.value v) W) (h : wpPlan P ops Q S r (a.put o.dst v) w) : wpPlan P ops Q S ((o, false) :: r) a w :=
  ⟨v, Or.inl ⟨hw, hy⟩, h⟩
theorem plan_off {o : Oper} {r : List (Oper × Bool)} {a : Act} {w : World} (hw : Region.wanted o (yielded ops a.tmps) = false) (h : wpPlan P ops Q S r (a.put o.dst undef) w) : wpPlan P ops Q S ((o, false) :: r) a w :=
  ⟨undef, Or.inr ⟨hw, rfl⟩, h⟩
theorem plan_turn {o : Oper} {r : List (Oper × Bool)} {a : Act} {w : World} (h : wpList P ops (Exit.then (fun a' w' => S w' ∧ wpPlan P ops Q S r a' w') Q) [o] a w) : wpPlan P ops Q S ((o, true) :: r) a w := h
theorem plan_done {a : Act} {w : World} (h : Q .normal a w) : wpPlan P ops (NoPanic Q) S [] a w := NoPanic.normal h

theorem plan_any {l : List Oper} (hl : ops = l.toArray) (hsel : Region.noSelect ops = true) (hQ : ∀ c (a : Act) d v w, Q (.panic c) (a.put d v) w → Q (.panic c) a w) : ∀ (pl : List (Nat × Bool)) (listed : Array Bool) (a : Act) (w : World), planB md ops pl listed = true → S w →
    wpPlan P ops Q S (planL l pl) a w → wpAnyH P md ops Q S pl.length listed a w
  | [], listed, a, w, hB, hS, h => ⟨of_decide_eq_true hB, h⟩
  | (i, true) :: r, listed, a, w, hB, hS, h => by
    simp only [planB, Bool.and_eq_true, decide_eq_true_eq] at hB
    obtain ⟨hr, hB'⟩ := hB
    have hi : i ∈ Region.ready md ops listed := by rw [hr]; simp
    obtain ⟨_, o, ho, _⟩ := mem_ready.1 hi
    have hlo : l[i]? = some o := by rw [hl] at ho; simpa using ho
    simp only [planL, hlo] at h
    refine wpAnyH_all hr (by simp) (fun j hj => ?_)
    obtain rfl : j = i := by simpa using hj
    have hw : wpOp P ops Q j (fun a' w' => S w' ∧ wpPlan P ops Q S (planL l r) a' w') a w := by
      unfold wpOp
      rw [ho]
      exact h
    exact wpOp_mono (fun a' w' h' => ⟨h'.1, plan_any hl hsel hQ r _ a' w' hB' h'.1 h'.2⟩) hw
  | (i, false) :: r, listed, a, w, hB, hS, h => by
    simp only [planB, Bool.and_eq_true] at hB
    obtain ⟨⟨hr, hf⟩, hB'⟩ := hB
    have hi : i ∈ Region.ready md ops listed := by simpa using hr
    obtain ⟨_, o, ho, _⟩ := mem_ready.1 hi
    have hlo : l[i]? = some o := by rw [hl] at ho; simpa using ho
    simp only [planL, hlo] at h
    obtain ⟨v, hy, h'⟩ := h
    exact wpAnyH_take ho hsel hf hr (fun c a w => hQ c a _ _ w) hy hS (plan_any hl hsel hQ r _ _ w hB' hS h')

/-- A REGION THAT DRAWS ITS ORDER, walked by a plan. -/
theorem wp_plan {id : Nat} {a : Act} {w : World} {l : List Oper} (S : World → Prop) (pl : List (Nat × Bool)) (hm : P.follows .mixedOrders = true)
    (hB : (Region.noSelect l.toArray && decide (pl.length = l.length) && planB .any l.toArray pl (Array.replicate l.length false)) = true)
    (hS : S w.drew) (h : wpPlan P l.toArray (NoPanic Q) S (planL l pl) a w.drew) : (Code.region id l.toArray true).wp P Q a w := by
  simp only [Bool.and_eq_true, decide_eq_true_eq] at hB
  obtain ⟨⟨h1, h2⟩, h3⟩ := hB
  refine wp_region_noPanic ?_
  refine wp_region_held (S := S) hm ?_
  have := plan_any (md := .any) rfl h1 (fun c a d v w h => h) pl _ a w.drew h3 hS h
  rw [h2] at this
  simpa using this
end

end

section
set_option linter.unusedVariables false

inductive PlT where
  | done : PlT
  | take (i : Nat) (r : PlT) : PlT
  | turn (i : Nat) (r : PlT) : PlT
  | fork (i : Nat) (r : PlT) (j : Nat) (r' : PlT) : PlT
inductive PlO where
  | done : PlO
  | take (o : Oper) (r : PlO) : PlO
  | turn (o : Oper) (r : PlO) : PlO
  | fork (o : Oper) (r : PlO) (o' : Oper) (r' : PlO) : PlO

section
variable {P : Program} {ops : Array Oper} {md : Region.Mode} {Q : Exit → Act → World → Prop} {S : World → Prop}

def planTB (md : Region.Mode) (ops : Array Oper) : Nat → PlT → Array Bool → Bool
  | 0, .done, listed => decide (Region.ready md ops listed = [])
  | n + 1, .turn i r, listed => decide (Region.ready md ops listed = [i]) && planTB md ops n r (listed.setIfInBounds i true)
  | n + 1, .take i r, listed => (Region.ready md ops listed).contains i && Region.free md ops listed i && planTB md ops n r (listed.setIfInBounds i true)
  | n + 1, .fork i r j r', listed => decide (Region.ready md ops listed = [i, j]) && planTB md ops n r (listed.setIfInBounds i true) && planTB md ops n r' (listed.setIfInBounds j true)
  | _, _, _ => false
def planTL (l : List Oper) : PlT → PlO
  | .done => .done
  | .take i r => match l[i]? with | some o => .take o (planTL l r) | none => .done
  | .turn i r => match l[i]? with | some o => .turn o (planTL l r) | none => .done
  | .fork i r j r' => match l[i]? with | some o => (match l[j]? with | some o' => .fork o (planTL l r) o' (planTL l r') | none => .done) | none => .done
def wpPlanT (P : Program) (ops : Array Oper) (Q : Exit → Act → World → Prop) (S : World → Prop) : PlO → Act → World → Prop
  | .done, a, w => Q .normal a w
  | .turn o r, a, w => wpList P ops (Exit.then (fun a' w' => S w' ∧ wpPlanT P ops Q S r a' w') Q) [o] a w
  | .take o r, a, w => ∃ v, YieldsIf P ops S o v a ∧ wpPlanT P ops Q S r (a.put o.dst v) w
  | .fork o r o' r', a, w => wpList P ops (Exit.then (fun a' w' => S w' ∧ wpPlanT P ops Q S r a' w') Q) [o] a w ∧ wpList P ops (Exit.then (fun a' w' => S w' ∧ wpPlanT P ops Q S r' a' w') Q) [o'] a w
theorem planT_on {o : Oper} {r : PlO} {a : Act} {w : World} (v : Value) (hw : Region.wanted o (yielded ops a.tmps) = true) (hy : ∀ W, S W → (execOp a.eval o).run P W = .ok (.value v) W) (h : wpPlanT P ops Q S r (a.put o.dst v) w) : wpPlanT P ops Q S (.take o r) a w :=
  ⟨v, Or.inl ⟨hw, hy⟩, h⟩
theorem planT_off {o : Oper} {r : PlO} {a : Act} {w : World} (hw : Region.wanted o (yielded ops a.tmps) = false) (h : wpPlanT P ops Q S r (a.put o.dst undef) w) : wpPlanT P ops Q S (.take o r) a w :=
  ⟨undef, Or.inr ⟨hw, rfl⟩, h⟩
theorem planT_turn {o : Oper} {r : PlO} {a : Act} {w : World} (h : wpList P ops (Exit.then (fun a' w' => S w' ∧ wpPlanT P ops Q S r a' w') Q) [o] a w) : wpPlanT P ops Q S (.turn o r) a w := h
theorem planT_fork {o o' : Oper} {r r' : PlO} {a : Act} {w : World} (h : wpList P ops (Exit.then (fun a' w' => S w' ∧ wpPlanT P ops Q S r a' w') Q) [o] a w) (h' : wpList P ops (Exit.then (fun a' w' => S w' ∧ wpPlanT P ops Q S r' a' w') Q) [o'] a w) : wpPlanT P ops Q S (.fork o r o' r') a w := ⟨h, h'⟩
theorem planT_done {a : Act} {w : World} (h : Q .normal a w) : wpPlanT P ops (NoPanic Q) S .done a w := NoPanic.normal h

theorem planT_any {l : List Oper} (hl : ops = l.toArray) (hsel : Region.noSelect ops = true) (hQ : ∀ c (a : Act) d v w, Q (.panic c) (a.put d v) w → Q (.panic c) a w) : ∀ (n : Nat) (pl : PlT) (listed : Array Bool) (a : Act) (w : World), planTB md ops n pl listed = true → S w →
    wpPlanT P ops Q S (planTL l pl) a w → wpAnyH P md ops Q S n listed a w
  | 0, .done, listed, a, w, hB, hS, h => ⟨of_decide_eq_true hB, h⟩
  | 0, .take _ _, listed, a, w, hB, hS, h => by simp [planTB] at hB
  | 0, .turn _ _, listed, a, w, hB, hS, h => by simp [planTB] at hB
  | 0, .fork _ _ _ _, listed, a, w, hB, hS, h => by simp [planTB] at hB
  | n + 1, .done, listed, a, w, hB, hS, h => by simp [planTB] at hB
  | n + 1, .turn i r, listed, a, w, hB, hS, h => by
    simp only [planTB, Bool.and_eq_true, decide_eq_true_eq] at hB
    obtain ⟨hr, hB'⟩ := hB
    have hi : i ∈ Region.ready md ops listed := by rw [hr]; simp
    obtain ⟨_, o, ho, _⟩ := mem_ready.1 hi
    have hlo : l[i]? = some o := by rw [hl] at ho; simpa using ho
    simp only [planTL, hlo] at h
    refine wpAnyH_all hr (by simp) (fun j hj => ?_)
    obtain rfl : j = i := by simpa using hj
    have hw : wpOp P ops Q j (fun a' w' => S w' ∧ wpPlanT P ops Q S (planTL l r) a' w') a w := by
      unfold wpOp
      rw [ho]
      exact h
    exact wpOp_mono (fun a' w' h' => ⟨h'.1, planT_any hl hsel hQ n r _ a' w' hB' h'.1 h'.2⟩) hw
  | n + 1, .fork i r k r', listed, a, w, hB, hS, h => by
    simp only [planTB, Bool.and_eq_true, decide_eq_true_eq] at hB
    obtain ⟨⟨hr, hB'⟩, hB2⟩ := hB
    have hi : i ∈ Region.ready md ops listed := by rw [hr]; simp
    have hk : k ∈ Region.ready md ops listed := by rw [hr]; simp
    obtain ⟨_, o, ho, _⟩ := mem_ready.1 hi
    obtain ⟨_, o', ho', _⟩ := mem_ready.1 hk
    have hlo : l[i]? = some o := by rw [hl] at ho; simpa using ho
    have hlo' : l[k]? = some o' := by rw [hl] at ho'; simpa using ho'
    simp only [planTL, hlo, hlo'] at h
    refine wpAnyH_all hr (by simp) (fun j hj => ?_)
    have hj2 : j = i ∨ j = k := by simpa using hj
    rcases hj2 with rfl | rfl
    · have hw : wpOp P ops Q j (fun a' w' => S w' ∧ wpPlanT P ops Q S (planTL l r) a' w') a w := by
        unfold wpOp
        rw [ho]
        exact h.1
      exact wpOp_mono (fun a' w' h' => ⟨h'.1, planT_any hl hsel hQ n r _ a' w' hB' h'.1 h'.2⟩) hw
    · have hw : wpOp P ops Q j (fun a' w' => S w' ∧ wpPlanT P ops Q S (planTL l r') a' w') a w := by
        unfold wpOp
        rw [ho']
        exact h.2
      exact wpOp_mono (fun a' w' h' => ⟨h'.1, planT_any hl hsel hQ n r' _ a' w' hB2 h'.1 h'.2⟩) hw
  | n + 1, .take i r, listed, a, w, hB, hS, h => by
    simp only [planTB, Bool.and_eq_true] at hB
    obtain ⟨⟨hr, hf⟩, hB'⟩ := hB
    have hi : i ∈ Region.ready md ops listed := by simpa using hr
    obtain ⟨_, o, ho, _⟩ := mem_ready.1 hi
    have hlo : l[i]? = some o := by rw [hl] at ho; simpa using ho
    simp only [planTL, hlo] at h
    obtain ⟨v, hy, h'⟩ := h
    exact wpAnyH_take ho hsel hf hr (fun c a w => hQ c a _ _ w) hy hS (planT_any hl hsel hQ n r _ _ w hB' hS h')

/-- A REGION THAT DRAWS ITS ORDER, walked by a plan that forks. -/
theorem wp_planT {id : Nat} {a : Act} {w : World} {l : List Oper} (S : World → Prop) (pl : PlT) (hm : P.follows .mixedOrders = true)
    (hB : (Region.noSelect l.toArray && planTB .any l.toArray l.length pl (Array.replicate l.length false)) = true)
    (hS : S w.drew) (h : wpPlanT P l.toArray (NoPanic Q) S (planTL l pl) a w.drew) : (Code.region id l.toArray true).wp P Q a w := by
  simp only [Bool.and_eq_true] at hB
  obtain ⟨h1, h3⟩ := hB
  refine wp_region_noPanic ?_
  refine wp_region_held (S := S) hm ?_
  have := planT_any (md := .any) rfl h1 (fun c a d v w h => h) l.length pl _ a w.drew h3 hS h
  simpa using this
end

end

section
set_option linter.unusedVariables false

section
variable {P : Program} {ops : Array Oper} {md : Region.Mode} {Q : Exit → Act → World → Prop} {S : World → Prop} {need : Nat → Bool}

def wpAnyM (P : Program) (md : Region.Mode) (ops : Array Oper) (Q : Exit → Act → World → Prop) (S : World → Prop) (need : Nat → Bool) : Nat → Array Bool → Act → World → Prop
  | 0, listed, a, w => Region.ready md ops listed = [] ∧ Q .normal a w
  | fuel + 1, listed, a, w =>
    (Region.ready md ops listed = [] → Q .normal a w) ∧
    ∀ i ∈ Region.ready md ops listed, wpOp P ops Q i (fun a' w' => (need i = true → S w → S w') ∧ wpAnyM P md ops Q S need fuel (listed.setIfInBounds i true) a' w') a w
theorem wpAny_of_M : ∀ (fuel : Nat) (listed : Array Bool) (a : Act) (w : World), wpAnyM P md ops Q S need fuel listed a w → wpAny P md ops Q fuel listed a w
  | 0, _, _, _, h => h
  | fuel + 1, _, _, _, h => ⟨h.1, fun i hi => wpOp_mono (fun a' w' h' => wpAny_of_M fuel _ a' w' h'.2) (h.2 i hi)⟩

/-- What has run waited for nothing that has not. -/
def ShutM (md : Region.Mode) (ops : Array Oper) (listed : Array Bool) : Prop := ∀ j oj, ops[j]? = some oj → listed.getD j false = true → ∀ e ∈ oj.after, Region.binds md e = true → listed.getD e.on false = true
theorem ShutM.start (md : Region.Mode) (ops : Array Oper) (n : Nat) : ShutM md ops (Array.replicate n false) := fun j oj _ h => by rw [getD_replicate_false] at h; cases h
theorem ShutM.set {listed : Array Bool} (h : ShutM md ops listed) {i : Nat} (hi : i ∈ Region.ready md ops listed) : ShutM md ops (listed.setIfInBounds i true) := fun j oj hj hl e he hb => by
  obtain ⟨_, oi, hoi, hall⟩ := mem_ready.1 hi
  by_cases hji : i = j
  · subst hji
    obtain rfl : oi = oj := Option.some.inj (hoi.symm.trans hj)
    exact getD_set_true (by simpa using hall e he hb)
  · rw [getD_set_ne false hji] at hl
    exact getD_set_true (h j oj hj hl e he hb)
/-- Does j wait for i, through others? -/
def ancM (md : Region.Mode) (ops : Array Oper) (i : Nat) : Nat → Nat → Bool
  | 0, _ => false
  | f + 1, j => match ops[j]? with | some o => o.after.any fun e => Region.binds md e && (decide (e.on = i) || ancM md ops i f e.on) | none => false
theorem anc_listedM {listed : Array Bool} (h : ShutM md ops listed) {i : Nat} : ∀ (f j : Nat) (oj : Oper), ops[j]? = some oj → (∀ e ∈ oj.after, Region.binds md e = true → listed.getD e.on false = true) → ancM md ops i f j = true → listed.getD i false = true
  | 0, j, oj, _, _, hB => by cases hB
  | f + 1, j, oj, hj, hall, hB => by
    simp only [ancM, hj] at hB
    rw [Array.any_eq_true] at hB
    obtain ⟨k, hk, hB⟩ := hB
    rw [Bool.and_eq_true, Bool.or_eq_true, decide_eq_true_eq] at hB
    have he := hall _ (Array.getElem_mem hk) hB.1
    rcases hB.2 with h1 | h1
    · rw [← h1]; exact he
    · cases ho : ops[(oj.after[k]).on]? with
      | none => cases f <;> simp [ancM, ho] at h1
      | some o2 => exact anc_listedM h f _ o2 ho (h _ o2 ho he) h1

theorem wpAnyM_pure {i : Nat} {oi : Oper} {v : Value} (hi : ops[i]? = some oi) (hsel : ∀ (j : Nat) (o : Oper) cs b, ops[j]? = some o → o.op ≠ .select cs b)
    (hQ : ∀ c a w, Q (.panic c) (a.put oi.dst v) w → Q (.panic c) a w) :
    ∀ (fuel : Nat) (listed : Array Bool) (a : Act) (w : World),
      (∀ j oj, ops[j]? = some oj → j ≠ i → listed.getD j true = false → (∀ e ∈ oj.after, Region.binds md e = true → e.on ≠ i) → oi.apart ops oj = true) →
      i ∈ Region.ready md ops listed → YieldsIf P ops (fun _ => True) oi v a →
      wpAnyM P md ops Q S need fuel (listed.setIfInBounds i true) (a.put oi.dst v) w → wpAnyM P md ops Q S need (fuel + 1) listed a w := by
  intro fuel
  induction fuel with
  | zero =>
    intro listed a w _ hr hy H
    refine ⟨fun h => (by rw [h] at hr; cases hr), fun j hj => ?_⟩
    by_cases hji : j = i
    · subst hji; exact hy.wpOp hi trivial ⟨fun _ h => h, H⟩
    · have := ready_mono hj hji
      rw [H.1] at this
      cases this
  | succ fuel ih =>
    intro listed a w hfree hr hy H
    refine ⟨fun h => (by rw [h] at hr; cases hr), fun j hj => ?_⟩
    by_cases hji : j = i
    · subst hji; exact hy.wpOp hi trivial ⟨fun _ h => h, H⟩
    · have h1 := H.2 j (ready_mono hj hji)
      obtain ⟨hjun, oj, hoj, hall⟩ := mem_ready.1 hj
      have hun := (mem_ready.1 hr).1
      have hnot : ∀ e ∈ oj.after, Region.binds md e = true → e.on ≠ i := by
        rintro e he hb rfl
        have h1 := hall e he hb
        rw [getD_both hun] at h1
        cases h1
      have h2 := wpOp_putIf hoj (hfree j oj hoj hji hjun hnot) (fun cs b => hsel i oi cs b hi) (fun cs b => hsel j oj cs b hoj) hQ hy h1
      have hfree' : ∀ k ok, ops[k]? = some ok → k ≠ i → (listed.setIfInBounds j true).getD k true = false →
          (∀ e ∈ ok.after, Region.binds md e = true → e.on ≠ i) → oi.apart ops ok = true := fun k ok hk hki hunk hno => by
        refine hfree k ok hk hki ?_ hno
        by_cases hjk : j = k
        · subst hjk; exact hjun
        · rw [getD_set_ne true hjk] at hunk; exact hunk
      refine wpOp_mono (fun a' w' h3 => ⟨h3.2.1, ih (listed.setIfInBounds j true) a' w' hfree' (ready_mono hr (Ne.symm hji)) h3.1 ?_⟩) h2
      rw [Array.setIfInBounds_comm _ _ hji]
      exact h3.2.2

theorem wpAnyM_held {i : Nat} {oi : Oper} {v : Value} (hi : ops[i]? = some oi) (hsel : ∀ (j : Nat) (o : Oper) cs b, ops[j]? = some o → o.op ≠ .select cs b)
    (hQ : ∀ c a w, Q (.panic c) (a.put oi.dst v) w → Q (.panic c) a w) (fa : Nat) (hneed : ∀ j, j < ops.size → j ≠ i → need j = false → ancM md ops i fa j = true) :
    ∀ (fuel : Nat) (listed : Array Bool) (a : Act) (w : World), ShutM md ops listed →
      (∀ j oj, ops[j]? = some oj → j ≠ i → listed.getD j true = false → (∀ e ∈ oj.after, Region.binds md e = true → e.on ≠ i) → oi.apart ops oj = true) →
      i ∈ Region.ready md ops listed → YieldsIf P ops S oi v a → S w →
      wpAnyM P md ops Q S need fuel (listed.setIfInBounds i true) (a.put oi.dst v) w → wpAnyM P md ops Q S need (fuel + 1) listed a w := by
  intro fuel
  induction fuel with
  | zero =>
    intro listed a w _ _ hr hy hS H
    refine ⟨fun h => (by rw [h] at hr; cases hr), fun j hj => ?_⟩
    by_cases hji : j = i
    · subst hji; exact hy.wpOp hi hS ⟨fun _ h => h, H⟩
    · have := ready_mono hj hji
      rw [H.1] at this
      cases this
  | succ fuel ih =>
    intro listed a w hsh hfree hr hy hS H
    refine ⟨fun h => (by rw [h] at hr; cases hr), fun j hj => ?_⟩
    by_cases hji : j = i
    · subst hji; exact hy.wpOp hi hS ⟨fun _ h => h, H⟩
    · have h1 := H.2 j (ready_mono hj hji)
      obtain ⟨hjun, oj, hoj, hall⟩ := mem_ready.1 hj
      have hun := (mem_ready.1 hr).1
      have hnot : ∀ e ∈ oj.after, Region.binds md e = true → e.on ≠ i := by
        rintro e he hb rfl
        have h1 := hall e he hb
        rw [getD_both hun] at h1
        cases h1
      have hnj : need j = true := by
        cases hn : need j with
        | true => rfl
        | false =>
          exfalso
          have := anc_listedM hsh fa j oj hoj (fun e he hb => by simpa using hall e he hb) (hneed j (Array.getElem?_eq_some_iff.1 hoj).1 hji hn)
          rw [getD_both hun] at this
          cases this
      have h2 := wpOp_putIf hoj (hfree j oj hoj hji hjun hnot) (fun cs b => hsel i oi cs b hi) (fun cs b => hsel j oj cs b hoj) hQ hy h1
      have hfree' : ∀ k ok, ops[k]? = some ok → k ≠ i → (listed.setIfInBounds j true).getD k true = false →
          (∀ e ∈ ok.after, Region.binds md e = true → e.on ≠ i) → oi.apart ops ok = true := fun k ok hk hki hunk hno => by
        refine hfree k ok hk hki ?_ hno
        by_cases hjk : j = k
        · subst hjk; exact hjun
        · rw [getD_set_ne true hjk] at hunk; exact hunk
      refine wpOp_mono (fun a' w' h3 => ⟨h3.2.1, ih (listed.setIfInBounds j true) a' w' (hsh.set hj) hfree' (ready_mono hr (Ne.symm hji)) h3.1 (h3.2.1 hnj hS) ?_⟩) h2
      rw [Array.setIfInBounds_comm _ _ hji]
      exact h3.2.2

/-- May the region be walked so? -/
def planMB (md : Region.Mode) (ops : Array Oper) (need : Nat → Bool) : List (Nat × Nat) → Bool → Array Bool → Bool
  | [], _, listed => decide (Region.ready md ops listed = [])
  | (i, 0) :: r, alive, listed => (Region.ready md ops listed).contains i && Region.free md ops listed i && planMB md ops need r alive (listed.setIfInBounds i true)
  | (i, 1) :: r, alive, listed => alive && (Region.ready md ops listed).contains i && Region.free md ops listed i && ((List.range ops.size).all fun j => decide (j = i) || need j || ancM md ops i ops.size j) && planMB md ops need r alive (listed.setIfInBounds i true)
  | (i, 2) :: r, alive, listed => alive && decide (Region.ready md ops listed = [i]) && planMB md ops need r alive (listed.setIfInBounds i true)
  | (i, _ + 3) :: r, alive, listed => !need i && decide (Region.ready md ops listed = [i]) && planMB md ops need r false (listed.setIfInBounds i true)
def planML (l : List Oper) : List (Nat × Nat) → List (Oper × Nat)
  | [] => []
  | (i, b) :: r => match l[i]? with | some o => (o, b) :: planML l r | none => planML l r
def wpPlanM (P : Program) (ops : Array Oper) (Q : Exit → Act → World → Prop) (S : World → Prop) : List (Oper × Nat) → Act → World → Prop
  | [], a, w => Q .normal a w
  | (o, 0) :: r, a, w => ∃ v, YieldsIf P ops (fun _ => True) o v a ∧ wpPlanM P ops Q S r (a.put o.dst v) w
  | (o, 1) :: r, a, w => ∃ v, YieldsIf P ops S o v a ∧ wpPlanM P ops Q S r (a.put o.dst v) w
  | (o, 2) :: r, a, w => wpList P ops (Exit.then (fun a' w' => S w' ∧ wpPlanM P ops Q S r a' w') Q) [o] a w
  | (o, _ + 3) :: r, a, w => wpList P ops (Exit.then (fun a' w' => wpPlanM P ops Q S r a' w') Q) [o] a w
theorem planM_on {o : Oper} {r : List (Oper × Nat)} {a : Act} {w : World} (v : Value) (hw : Region.wanted o (yielded ops a.tmps) = true) (hy : ∀ W, S W → (execOp a.eval o).run P W = .ok (.value v) W) (h : wpPlanM P ops Q S r (a.put o.dst v) w) : wpPlanM P ops Q S ((o, 1) :: r) a w :=
  ⟨v, Or.inl ⟨hw, hy⟩, h⟩
theorem planM_off {o : Oper} {r : List (Oper × Nat)} {a : Act} {w : World} (hw : Region.wanted o (yielded ops a.tmps) = false) (h : wpPlanM P ops Q S r (a.put o.dst undef) w) : wpPlanM P ops Q S ((o, 1) :: r) a w :=
  ⟨undef, Or.inr ⟨hw, rfl⟩, h⟩
theorem planM_on0 {o : Oper} {r : List (Oper × Nat)} {a : Act} {w : World} (v : Value) (hw : Region.wanted o (yielded ops a.tmps) = true) (hy : ∀ W, True → (execOp a.eval o).run P W = .ok (.value v) W) (h : wpPlanM P ops Q S r (a.put o.dst v) w) : wpPlanM P ops Q S ((o, 0) :: r) a w :=
  ⟨v, Or.inl ⟨hw, hy⟩, h⟩
theorem planM_off0 {o : Oper} {r : List (Oper × Nat)} {a : Act} {w : World} (hw : Region.wanted o (yielded ops a.tmps) = false) (h : wpPlanM P ops Q S r (a.put o.dst undef) w) : wpPlanM P ops Q S ((o, 0) :: r) a w :=
  ⟨undef, Or.inr ⟨hw, rfl⟩, h⟩
theorem planM_turn {o : Oper} {r : List (Oper × Nat)} {a : Act} {w : World} (h : wpList P ops (Exit.then (fun a' w' => S w' ∧ wpPlanM P ops Q S r a' w') Q) [o] a w) : wpPlanM P ops Q S ((o, 2) :: r) a w := h
theorem planM_last {o : Oper} {r : List (Oper × Nat)} {a : Act} {w : World} (h : wpList P ops (Exit.then (fun a' w' => wpPlanM P ops Q S r a' w') Q) [o] a w) : wpPlanM P ops Q S ((o, 3) :: r) a w := h
theorem planM_done {a : Act} {w : World} (h : Q .normal a w) : wpPlanM P ops (NoPanic Q) S [] a w := NoPanic.normal h

theorem planM_any {l : List Oper} (hl : ops = l.toArray) (hsel : Region.noSelect ops = true) (hQ : ∀ c (a : Act) d v w, Q (.panic c) (a.put d v) w → Q (.panic c) a w) : ∀ (pl : List (Nat × Nat)) (alive : Bool) (listed : Array Bool) (a : Act) (w : World), planMB md ops need pl alive listed = true → ShutM md ops listed → (alive = true → S w) →
    wpPlanM P ops Q S (planML l pl) a w → wpAnyM P md ops Q S need pl.length listed a w
  | [], alive, listed, a, w, hB, _, hS, h => ⟨of_decide_eq_true hB, h⟩
  | (i, 0) :: r, alive, listed, a, w, hB, hsh, hS, h => by
    simp only [planMB, Bool.and_eq_true] at hB
    obtain ⟨⟨hr, hf⟩, hB'⟩ := hB
    have hi : i ∈ Region.ready md ops listed := by simpa using hr
    obtain ⟨_, o, ho, _⟩ := mem_ready.1 hi
    have hlo : l[i]? = some o := by rw [hl] at ho; simpa using ho
    simp only [planML, hlo] at h
    obtain ⟨v, hy, h'⟩ := h
    exact wpAnyM_pure ho (Region.noSelect_spec hsel) (fun c a w => hQ c a _ _ w) r.length listed a w (Region.free_spec ho hf) hi hy (planM_any hl hsel hQ r alive _ _ w hB' (hsh.set hi) hS h')
  | (i, 1) :: r, alive, listed, a, w, hB, hsh, hS, h => by
    simp only [planMB, Bool.and_eq_true] at hB
    obtain ⟨⟨⟨⟨ha, hr⟩, hf⟩, hnd⟩, hB'⟩ := hB
    have hi : i ∈ Region.ready md ops listed := by simpa using hr
    obtain ⟨_, o, ho, _⟩ := mem_ready.1 hi
    have hlo : l[i]? = some o := by rw [hl] at ho; simpa using ho
    simp only [planML, hlo] at h
    obtain ⟨v, hy, h'⟩ := h
    refine wpAnyM_held ho (Region.noSelect_spec hsel) (fun c a w => hQ c a _ _ w) ops.size (fun j hj hji hn => ?_) r.length listed a w hsh (Region.free_spec ho hf) hi hy (hS ha) (planM_any hl hsel hQ r alive _ _ w hB' (hsh.set hi) hS h')
    have := List.all_eq_true.1 hnd j (List.mem_range.2 hj)
    rw [Bool.or_eq_true, Bool.or_eq_true, decide_eq_true_eq, hn] at this
    rcases this with (h1 | h1) | h1
    · exact absurd h1 hji
    · cases h1
    · exact h1
  | (i, 2) :: r, alive, listed, a, w, hB, hsh, hS, h => by
    simp only [planMB, Bool.and_eq_true, decide_eq_true_eq] at hB
    obtain ⟨⟨ha, hr⟩, hB'⟩ := hB
    have hi : i ∈ Region.ready md ops listed := by rw [hr]; simp
    obtain ⟨_, o, ho, _⟩ := mem_ready.1 hi
    have hlo : l[i]? = some o := by rw [hl] at ho; simpa using ho
    simp only [planML, hlo] at h
    refine ⟨fun h0 => (by rw [hr] at h0; cases h0), fun j hj => ?_⟩
    rw [hr] at hj
    obtain rfl : j = i := by simpa using hj
    have hw : wpOp P ops Q j (fun a' w' => S w' ∧ wpPlanM P ops Q S (planML l r) a' w') a w := by
      unfold wpOp
      rw [ho]
      exact h
    exact wpOp_mono (fun a' w' h' => ⟨fun _ _ => h'.1, planM_any hl hsel hQ r alive _ a' w' hB' (hsh.set hi) (fun _ => h'.1) h'.2⟩) hw
  | (i, k + 3) :: r, alive, listed, a, w, hB, hsh, hS, h => by
    simp only [planMB, Bool.and_eq_true, Bool.not_eq_true', decide_eq_true_eq] at hB
    obtain ⟨⟨hn, hr⟩, hB'⟩ := hB
    have hi : i ∈ Region.ready md ops listed := by rw [hr]; simp
    obtain ⟨_, o, ho, _⟩ := mem_ready.1 hi
    have hlo : l[i]? = some o := by rw [hl] at ho; simpa using ho
    simp only [planML, hlo] at h
    refine ⟨fun h0 => (by rw [hr] at h0; cases h0), fun j hj => ?_⟩
    rw [hr] at hj
    obtain rfl : j = i := by simpa using hj
    have hw : wpOp P ops Q j (fun a' w' => wpPlanM P ops Q S (planML l r) a' w') a w := by
      unfold wpOp
      rw [ho]
      exact h
    exact wpOp_mono (fun a' w' h' => ⟨fun h0 => (by rw [hn] at h0; cases h0), planM_any hl hsel hQ r false _ a' w' hB' (hsh.set hi) (fun h0 => by cases h0) h'⟩) hw

/-- The operations of a plan ahead of its first 3, and those of kind 0. -/
def needM (pl : List (Nat × Nat)) (j : Nat) : Bool := ((pl.takeWhile fun p => p.2 != 3).any fun p => p.1 == j) || pl.any fun p => p.1 == j && p.2 == 0
/-- A REGION THAT DRAWS ITS ORDER, walked by a plan. -/
theorem wp_planM {id : Nat} {a : Act} {w : World} {l : List Oper} (S : World → Prop) (pl : List (Nat × Nat)) (hm : P.follows .mixedOrders = true)
    (hB : (Region.noSelect l.toArray && decide (pl.length = l.length) && planMB .any l.toArray (needM pl) pl true (Array.replicate l.length false)) = true)
    (hS : S w.drew) (h : wpPlanM P l.toArray (NoPanic Q) S (planML l pl) a w.drew) : (Code.region id l.toArray true).wp P Q a w := by
  simp only [Bool.and_eq_true, decide_eq_true_eq] at hB
  obtain ⟨⟨h1, h2⟩, h3⟩ := hB
  refine wp_region_noPanic ?_
  refine wp_region_any hm (wpAny_of_M (S := S) (need := needM pl) _ _ _ _ ?_)
  have := planM_any (md := .any) rfl h1 (fun c a d v w h => h) pl true _ a w.drew h3 (ShutM.start _ _ _) (fun _ => hS) h
  rw [h2] at this
  simpa using this
end

end

section
set_option linter.unusedVariables false

inductive PlW where
  | done : PlW
  | take (i : Nat) (r : PlW) : PlW
  | turn (i : Nat) (r : PlW) : PlW
  | fork (i : Nat) (r : PlW) (j : Nat) (r' : PlW) : PlW
  | tri (i : Nat) (r : PlW) (j : Nat) (r' : PlW) (k : Nat) (r'' : PlW) : PlW
inductive PlX where
  | done : PlX
  | take (o : Oper) (r : PlX) : PlX
  | turn (o : Oper) (r : PlX) : PlX
  | fork (o : Oper) (r : PlX) (o' : Oper) (r' : PlX) : PlX
  | tri (o : Oper) (r : PlX) (o' : Oper) (r' : PlX) (o'' : Oper) (r'' : PlX) : PlX

section
variable {P : Program} {ops : Array Oper} {md : Region.Mode} {Q : Exit → Act → World → Prop} {S S' : World → Prop}

def planWB (md : Region.Mode) (ops : Array Oper) : Nat → PlW → Array Bool → Bool
  | 0, .done, listed => decide (Region.ready md ops listed = [])
  | n + 1, .turn i r, listed => decide (Region.ready md ops listed = [i]) && planWB md ops n r (listed.setIfInBounds i true)
  | n + 1, .take i r, listed => (Region.ready md ops listed).contains i && Region.free md ops listed i && planWB md ops n r (listed.setIfInBounds i true)
  | n + 1, .fork i r j r', listed => decide (Region.ready md ops listed = [i, j]) && planWB md ops n r (listed.setIfInBounds i true) && planWB md ops n r' (listed.setIfInBounds j true)
  | n + 1, .tri i r j r' k r'', listed => decide (Region.ready md ops listed = [i, j, k]) && planWB md ops n r (listed.setIfInBounds i true) && planWB md ops n r' (listed.setIfInBounds j true) && planWB md ops n r'' (listed.setIfInBounds k true)
  | _, _, _ => false
def planWL (l : List Oper) : PlW → PlX
  | .done => .done
  | .take i r => match l[i]? with | some o => .take o (planWL l r) | none => .done
  | .turn i r => match l[i]? with | some o => .turn o (planWL l r) | none => .done
  | .fork i r j r' => match l[i]? with | some o => (match l[j]? with | some o' => .fork o (planWL l r) o' (planWL l r') | none => .done) | none => .done
  | .tri i r j r' k r'' => match l[i]? with | some o => (match l[j]? with | some o' => (match l[k]? with | some o'' => .tri o (planWL l r) o' (planWL l r') o'' (planWL l r'') | none => .done) | none => .done) | none => .done
def wpPlanW (P : Program) (ops : Array Oper) (Q : Exit → Act → World → Prop) : PlX → (World → Prop) → Act → World → Prop
  | .done, S, a, w => Q .normal a w
  | .turn o r, S, a, w => wpList P ops (Exit.then (fun a' w' => ∃ S', (∀ W, S' W → S W) ∧ S' w' ∧ wpPlanW P ops Q r S' a' w') Q) [o] a w
  | .take o r, S, a, w => ∃ v, YieldsIf P ops S o v a ∧ wpPlanW P ops Q r S (a.put o.dst v) w
  | .fork o r o' r', S, a, w => wpList P ops (Exit.then (fun a' w' => ∃ S', (∀ W, S' W → S W) ∧ S' w' ∧ wpPlanW P ops Q r S' a' w') Q) [o] a w ∧ wpList P ops (Exit.then (fun a' w' => ∃ S', (∀ W, S' W → S W) ∧ S' w' ∧ wpPlanW P ops Q r' S' a' w') Q) [o'] a w
  | .tri o r o' r' o'' r'', S, a, w => wpList P ops (Exit.then (fun a' w' => ∃ S', (∀ W, S' W → S W) ∧ S' w' ∧ wpPlanW P ops Q r S' a' w') Q) [o] a w ∧ wpList P ops (Exit.then (fun a' w' => ∃ S', (∀ W, S' W → S W) ∧ S' w' ∧ wpPlanW P ops Q r' S' a' w') Q) [o'] a w ∧ wpList P ops (Exit.then (fun a' w' => ∃ S', (∀ W, S' W → S W) ∧ S' w' ∧ wpPlanW P ops Q r'' S' a' w') Q) [o''] a w
theorem planW_on {o : Oper} {r : PlX} {a : Act} {w : World} (v : Value) (hw : Region.wanted o (yielded ops a.tmps) = true) (hy : ∀ W, S W → (execOp a.eval o).run P W = .ok (.value v) W) (h : wpPlanW P ops Q r S (a.put o.dst v) w) : wpPlanW P ops Q (.take o r) S a w :=
  ⟨v, Or.inl ⟨hw, hy⟩, h⟩
theorem planW_off {o : Oper} {r : PlX} {a : Act} {w : World} (hw : Region.wanted o (yielded ops a.tmps) = false) (h : wpPlanW P ops Q r S (a.put o.dst undef) w) : wpPlanW P ops Q (.take o r) S a w :=
  ⟨undef, Or.inr ⟨hw, rfl⟩, h⟩
theorem planW_turn {o : Oper} {r : PlX} {a : Act} {w : World} (h : wpList P ops (Exit.then (fun a' w' => ∃ S', (∀ W, S' W → S W) ∧ S' w' ∧ wpPlanW P ops Q r S' a' w') Q) [o] a w) : wpPlanW P ops Q (.turn o r) S a w := h
theorem planW_fork {o o' : Oper} {r r' : PlX} {a : Act} {w : World} (h : wpList P ops (Exit.then (fun a' w' => ∃ S', (∀ W, S' W → S W) ∧ S' w' ∧ wpPlanW P ops Q r S' a' w') Q) [o] a w) (h' : wpList P ops (Exit.then (fun a' w' => ∃ S', (∀ W, S' W → S W) ∧ S' w' ∧ wpPlanW P ops Q r' S' a' w') Q) [o'] a w) : wpPlanW P ops Q (.fork o r o' r') S a w := ⟨h, h'⟩
theorem planW_tri {o o' o'' : Oper} {r r' r'' : PlX} {a : Act} {w : World} (h : wpList P ops (Exit.then (fun a' w' => ∃ S', (∀ W, S' W → S W) ∧ S' w' ∧ wpPlanW P ops Q r S' a' w') Q) [o] a w) (h' : wpList P ops (Exit.then (fun a' w' => ∃ S', (∀ W, S' W → S W) ∧ S' w' ∧ wpPlanW P ops Q r' S' a' w') Q) [o'] a w) (h'' : wpList P ops (Exit.then (fun a' w' => ∃ S', (∀ W, S' W → S W) ∧ S' w' ∧ wpPlanW P ops Q r'' S' a' w') Q) [o''] a w) : wpPlanW P ops Q (.tri o r o' r' o'' r'') S a w := ⟨h, h', h''⟩
theorem wpAnyH_weakW (hS : ∀ W, S' W → S W) : ∀ (fuel : Nat) (listed : Array Bool) (a : Act) (w : World), wpAnyH P md ops Q S' fuel listed a w → wpAnyH P md ops Q S fuel listed a w
  | 0, listed, a, w, h => h
  | fuel + 1, listed, a, w, h =>
    ⟨h.1, fun i hi => wpOp_mono (fun a' w' h' => ⟨hS w' h'.1, wpAnyH_weakW hS fuel _ a' w' h'.2⟩) (h.2 i hi)⟩
theorem planW_done {a : Act} {w : World} (h : Q .normal a w) : wpPlanW P ops (NoPanic Q) .done S a w := NoPanic.normal h

theorem planW_any {l : List Oper} (hl : ops = l.toArray) (hsel : Region.noSelect ops = true) (hQ : ∀ c (a : Act) d v w, Q (.panic c) (a.put d v) w → Q (.panic c) a w) : ∀ (n : Nat) (pl : PlW) (S : World → Prop) (listed : Array Bool) (a : Act) (w : World), planWB md ops n pl listed = true → S w →
    wpPlanW P ops Q (planWL l pl) S a w → wpAnyH P md ops Q S n listed a w
  | 0, .done, S, listed, a, w, hB, hS, h => ⟨of_decide_eq_true hB, h⟩
  | 0, .take _ _, S, listed, a, w, hB, hS, h => by simp [planWB] at hB
  | 0, .turn _ _, S, listed, a, w, hB, hS, h => by simp [planWB] at hB
  | 0, .fork _ _ _ _, S, listed, a, w, hB, hS, h => by simp [planWB] at hB
  | 0, .tri _ _ _ _ _ _, S, listed, a, w, hB, hS, h => by simp [planWB] at hB
  | n + 1, .done, S, listed, a, w, hB, hS, h => by simp [planWB] at hB
  | n + 1, .turn i r, S, listed, a, w, hB, hS, h => by
    simp only [planWB, Bool.and_eq_true, decide_eq_true_eq] at hB
    obtain ⟨hr, hB'⟩ := hB
    have hi : i ∈ Region.ready md ops listed := by rw [hr]; simp
    obtain ⟨_, o, ho, _⟩ := mem_ready.1 hi
    have hlo : l[i]? = some o := by rw [hl] at ho; simpa using ho
    simp only [planWL, hlo] at h
    refine wpAnyH_all hr (by simp) (fun j hj => ?_)
    obtain rfl : j = i := by simpa using hj
    · have hw : wpOp P ops Q j (fun a' w' => ∃ S', (∀ W, S' W → S W) ∧ S' w' ∧ wpPlanW P ops Q (planWL l r) S' a' w') a w := by
        unfold wpOp
        rw [ho]
        exact h
      exact wpOp_mono (fun a' w' ⟨S', h1, h2, h3⟩ => ⟨h1 w' h2, wpAnyH_weakW h1 _ _ _ _ (planW_any hl hsel hQ n r S' _ a' w' hB' h2 h3)⟩) hw
  | n + 1, .fork i r k r', S, listed, a, w, hB, hS, h => by
    simp only [planWB, Bool.and_eq_true, decide_eq_true_eq] at hB
    obtain ⟨⟨hr, hB'⟩, hB2⟩ := hB
    have hi : i ∈ Region.ready md ops listed := by rw [hr]; simp
    have hk : k ∈ Region.ready md ops listed := by rw [hr]; simp
    obtain ⟨_, o, ho, _⟩ := mem_ready.1 hi
    obtain ⟨_, o', ho', _⟩ := mem_ready.1 hk
    have hlo : l[i]? = some o := by rw [hl] at ho; simpa using ho
    have hlo' : l[k]? = some o' := by rw [hl] at ho'; simpa using ho'
    simp only [planWL, hlo, hlo'] at h
    refine wpAnyH_all hr (by simp) (fun j hj => ?_)
    have hj2 : j = i ∨ j = k := by simpa using hj
    rcases hj2 with rfl | rfl
    · have hw : wpOp P ops Q j (fun a' w' => ∃ S', (∀ W, S' W → S W) ∧ S' w' ∧ wpPlanW P ops Q (planWL l r) S' a' w') a w := by
        unfold wpOp
        rw [ho]
        exact h.1
      exact wpOp_mono (fun a' w' ⟨S', h1, h2, h3⟩ => ⟨h1 w' h2, wpAnyH_weakW h1 _ _ _ _ (planW_any hl hsel hQ n r S' _ a' w' hB' h2 h3)⟩) hw
    · have hw : wpOp P ops Q j (fun a' w' => ∃ S', (∀ W, S' W → S W) ∧ S' w' ∧ wpPlanW P ops Q (planWL l r') S' a' w') a w := by
        unfold wpOp
        rw [ho']
        exact h.2
      exact wpOp_mono (fun a' w' ⟨S', h1, h2, h3⟩ => ⟨h1 w' h2, wpAnyH_weakW h1 _ _ _ _ (planW_any hl hsel hQ n r' S' _ a' w' hB2 h2 h3)⟩) hw
  | n + 1, .tri i r k r' m r'', S, listed, a, w, hB, hS, h => by
    simp only [planWB, Bool.and_eq_true, decide_eq_true_eq] at hB
    obtain ⟨⟨⟨hr, hB'⟩, hB2⟩, hB3⟩ := hB
    have hi : i ∈ Region.ready md ops listed := by rw [hr]; simp
    have hk : k ∈ Region.ready md ops listed := by rw [hr]; simp
    have hm : m ∈ Region.ready md ops listed := by rw [hr]; simp
    obtain ⟨_, o, ho, _⟩ := mem_ready.1 hi
    obtain ⟨_, o', ho', _⟩ := mem_ready.1 hk
    obtain ⟨_, o'', ho'', _⟩ := mem_ready.1 hm
    have hlo : l[i]? = some o := by rw [hl] at ho; simpa using ho
    have hlo' : l[k]? = some o' := by rw [hl] at ho'; simpa using ho'
    have hlo'' : l[m]? = some o'' := by rw [hl] at ho''; simpa using ho''
    simp only [planWL, hlo, hlo', hlo''] at h
    refine wpAnyH_all hr (by simp) (fun j hj => ?_)
    have hj2 : j = i ∨ j = k ∨ j = m := by simpa using hj
    rcases hj2 with rfl | rfl | rfl
    · have hw : wpOp P ops Q j (fun a' w' => ∃ S', (∀ W, S' W → S W) ∧ S' w' ∧ wpPlanW P ops Q (planWL l r) S' a' w') a w := by
        unfold wpOp
        rw [ho]
        exact h.1
      exact wpOp_mono (fun a' w' ⟨S', h1, h2, h3⟩ => ⟨h1 w' h2, wpAnyH_weakW h1 _ _ _ _ (planW_any hl hsel hQ n r S' _ a' w' hB' h2 h3)⟩) hw
    · have hw : wpOp P ops Q j (fun a' w' => ∃ S', (∀ W, S' W → S W) ∧ S' w' ∧ wpPlanW P ops Q (planWL l r') S' a' w') a w := by
        unfold wpOp
        rw [ho']
        exact h.2.1
      exact wpOp_mono (fun a' w' ⟨S', h1, h2, h3⟩ => ⟨h1 w' h2, wpAnyH_weakW h1 _ _ _ _ (planW_any hl hsel hQ n r' S' _ a' w' hB2 h2 h3)⟩) hw
    · have hw : wpOp P ops Q j (fun a' w' => ∃ S', (∀ W, S' W → S W) ∧ S' w' ∧ wpPlanW P ops Q (planWL l r'') S' a' w') a w := by
        unfold wpOp
        rw [ho'']
        exact h.2.2
      exact wpOp_mono (fun a' w' ⟨S', h1, h2, h3⟩ => ⟨h1 w' h2, wpAnyH_weakW h1 _ _ _ _ (planW_any hl hsel hQ n r'' S' _ a' w' hB3 h2 h3)⟩) hw
  | n + 1, .take i r, S, listed, a, w, hB, hS, h => by
    simp only [planWB, Bool.and_eq_true] at hB
    obtain ⟨⟨hr, hf⟩, hB'⟩ := hB
    have hi : i ∈ Region.ready md ops listed := by simpa using hr
    obtain ⟨_, o, ho, _⟩ := mem_ready.1 hi
    have hlo : l[i]? = some o := by rw [hl] at ho; simpa using ho
    simp only [planWL, hlo] at h
    obtain ⟨v, hy, h'⟩ := h
    exact wpAnyH_take ho hsel hf hr (fun c a w => hQ c a _ _ w) hy hS (planW_any hl hsel hQ n r S _ _ w hB' hS h')

/-- A REGION THAT DRAWS ITS ORDER, walked by a plan that forks. -/
theorem wp_planW {id : Nat} {a : Act} {w : World} {l : List Oper} (S : World → Prop) (pl : PlW) (hm : P.follows .mixedOrders = true)
    (hB : (Region.noSelect l.toArray && planWB .any l.toArray l.length pl (Array.replicate l.length false)) = true)
    (hS : S w.drew) (h : wpPlanW P l.toArray (NoPanic Q) (planWL l pl) S a w.drew) : (Code.region id l.toArray true).wp P Q a w := by
  simp only [Bool.and_eq_true] at hB
  obtain ⟨h1, h3⟩ := hB
  refine wp_region_noPanic ?_
  refine wp_region_held (S := S) hm ?_
  have := planW_any (md := .any) rfl h1 (fun c a d v w h => h) l.length pl S _ a w.drew h3 hS h
  simpa using this
end

end

end Go.Proofs.YtdcinodbgbkobaaGreatDoor
