/- Frames ('Kept': of the blocks that were there only those of S have turned) and maps ('MapIs': a block is a map that holds just what a function from keys says). Nothing of the program. -/
import Derived.WalkKit
import Derived.Maps.OwnSet
import Derived.Maps.RangeWalk
import Derived.Lib.Hide
import Derived.Deep.Draws
import Derived.Laws.Rows
import Derived.StillTailTactics
namespace Go.Proofs.YtpgbgeofhcpocaaGreatDoor
open Go.RowKit Go.Maps
open Go.WideElems (Fit rd rg rd_val rd_key rg_of)

/-- Of the blocks that were there only those of S may have turned. -/
structure Kept (S : Nat → Prop) (a w : World) : Prop where
  os : w.os = a.os
  tape : w.tape = a.tape
  output : w.output = a.output
  size : a.heap.size ≤ w.heap.size
  block : ∀ i, i < a.heap.size → ¬ S i → w.heap[i]? = a.heap[i]?

section
variable {S T : Nat → Prop} {a w w' : World}
theorem Kept.refl (S : Nat → Prop) (w : World) : Kept S w w := ⟨rfl, rfl, rfl, Nat.le_refl _, fun _ _ _ => rfl⟩
theorem Kept.trans (h : Kept S a w) (k : Kept S w w') : Kept S a w' :=
  ⟨k.os.trans h.os, k.tape.trans h.tape, k.output.trans h.output, Nat.le_trans h.size k.size, fun i hi hn => (k.block i (Nat.lt_of_lt_of_le hi h.size) hn).trans (h.block i hi hn)⟩
theorem Kept.mono (h : Kept S a w) (hs : ∀ i, i < a.heap.size → S i → T i) : Kept T a w :=
  ⟨h.os, h.tape, h.output, h.size, fun i hi hn => h.block i hi (fun hS => hn (hs i hi hS))⟩
theorem Kept.trans' (h : Kept S a w) (k : Kept T w w') (hs : ∀ i, i < a.heap.size → T i → S i) : Kept S a w' :=
  ⟨k.os.trans h.os, k.tape.trans h.tape, k.output.trans h.output, Nat.le_trans h.size k.size, fun i hi hn => (k.block i (Nat.lt_of_lt_of_le hi h.size) (fun ht => hn (hs i hi ht))).trans (h.block i hi hn)⟩
theorem Kept.drew (h : Kept S a w) : Kept S a w.drew := ⟨h.os, h.tape, h.output, h.size, h.block⟩
theorem Kept.drewN (h : Kept S a w) (n : Nat) : Kept S a (w.drewN n) := ⟨h.os, h.tape, h.output, h.size, h.block⟩
theorem Kept.alloc (h : Kept S a w) (o : Obj) : Kept S a (w.alloc o) :=
  ⟨h.os, h.tape, h.output, Nat.le_trans h.size (by simp), fun i hi hn => (Below.heap_alloc w o i (Nat.lt_of_lt_of_le hi h.size)).trans (h.block i hi hn)⟩
theorem Kept.setCell (h : Kept S a w) {p : Addr} (hp : S p.block ∨ a.heap.size ≤ p.block) (u : Value) : Kept S a (w.setCell p u) :=
  ⟨h.os, h.tape, h.output, by simpa [World.setCell] using h.size, fun i hi hn => (Below.heap_setCell w p u i (by
    rintro rfl
    rcases hp with hp | hp
    · exact hn hp
    · omega)).trans (h.block i hi hn)⟩
theorem Kept.grown {row : Option Nat} (h : Kept S a w) (hg : w.grownBy w' row) (hr : ∀ j, row = some j → S j ∨ a.heap.size ≤ j) : Kept S a w' :=
  ⟨hg.os.trans h.os, hg.tape.trans h.tape, hg.output.trans h.output, Nat.le_trans h.size hg.size, fun i hi hn => (hg.block i (Nat.lt_of_lt_of_le hi h.size) (fun e => by
    rcases hr i e.symm with h1 | h1
    · exact hn h1
    · omega)).trans (h.block i hi hn)⟩
theorem Kept.below (h : Kept S a w) {B : Nat} (hb : Below B w w') (hB : a.heap.size ≤ B) : Kept S a w' :=
  ⟨hb.os.trans h.os, hb.tape.trans h.tape, hb.output.trans h.output, Nat.le_trans h.size hb.size, fun i hi hn => (hb.block i (by omega)).trans (h.block i hi hn)⟩
theorem Kept.toBelow (h : Kept S a w) {B : Nat} (hB : ∀ i, S i → B ≤ i) (hs : B ≤ a.heap.size) : Below B a w :=
  ⟨h.os, h.tape, h.output, h.size, fun i hi => h.block i (by omega) (fun hS => by have := hB i hS; omega)⟩
theorem Kept.cell (h : Kept S a w) {p : Addr} (hp : p.block < a.heap.size) (hn : ¬ S p.block) : w.cell? p = a.cell? p := World.cell?_of_block (h.block _ hp hn)
theorem Kept.frozen (h : Kept S a w) {p : Addr} (hp : p.block < a.heap.size) (hn : ¬ S p.block) : w.frozen? p = a.frozen? p := World.frozen?_of_block (h.block _ hp hn)
end

/-- Block g is just the cells cs of element type t, none frozen. -/
def Blk (w : World) (g : Nat) (t : TypeId) (cs : Array Value) : Prop := w.heap[g]? = some (.cells cs t (0, 0))
section
variable {w w' a : World} {g : Nat} {t : TypeId} {cs : Array Value} {S : Nat → Prop}
theorem Blk.lt (h : Blk w g t cs) : g < w.heap.size := by
  rcases Nat.lt_or_ge g w.heap.size with hlt | hge
  · exact hlt
  · unfold Blk at h; rw [Array.getElem?_eq_none hge] at h; cases h
theorem Blk.cell (h : Blk w g t cs) (i : Nat) : w.cell? ⟨g, i, none⟩ = cs[i]? := cell_of_row w g i cs t (0, 0) h
theorem Blk.frozen (h : Blk w g t cs) (i : Nat) : w.frozen? ⟨g, i, none⟩ = false := by
  unfold Blk at h
  simp [World.frozen?, h]
theorem Blk.new (w : World) (t : TypeId) (cs : Array Value) : Blk (w.alloc (.cells cs t)) w.heap.size t cs := heap_alloc_new w _
theorem Blk.drew (h : Blk w g t cs) : Blk w.drew g t cs := h
theorem Blk.drewN (h : Blk w g t cs) (n : Nat) : Blk (w.drewN n) g t cs := h
theorem Blk.alloc (h : Blk w g t cs) (o : Obj) : Blk (w.alloc o) g t cs := (Below.heap_alloc w o g h.lt).trans h
theorem Blk.set_ (h : Blk w g t cs) (i : Nat) (u : Value) : Blk (w.setCell ⟨g, i, none⟩ u) g t (cs.setIfInBounds i u) := by
  unfold Blk at h ⊢
  simp [World.setCell, Array.getElem?_modify, h]
theorem Blk.far (h : Blk w g t cs) {p : Addr} (hp : g ≠ p.block) (u : Value) : Blk (w.setCell p u) g t cs := (Below.heap_setCell w p u g hp).trans h
theorem Blk.kept (h : Blk w g t cs) (k : Kept S w w') (hn : ¬ S g) : Blk w' g t cs := (k.block g h.lt hn).trans h
theorem Blk.grown {row : Option Nat} (h : Blk w g t cs) (hb : w.grownBy w' row) (hg : some g ≠ row) : Blk w' g t cs := (hb.block g h.lt hg).trans h
end

/-- A region that draws its order: quiet operations, then a tail that is forced. -/
theorem wp_tail {P : Program} {id : Nat} {Q : Exit → Act → World → Prop} {a : Act} {w : World} {l : List Oper} (n : Nat) (hm : P.follows .mixedOrders = true) (hB : Region.lexTailB .any l.toArray n = true)
    (h : wpStill P l.toArray w.drew (fun a' => wpList P l.toArray Q (l.drop n) a' w.drew) (l.take n) a) : (Code.region id l.toArray true).wp P Q a w :=
  wp_region_still_tail n hm hB h

theorem still_of {P : Program} {f : FuncId} {args : Array Value} {w : World} {v : Value} (h : Calls P f args w fun e w' => e = .returned v ∧ w = w') : Calls P f args w fun e w' => e = .returned v ∧ w' = w :=
  h.mono fun _ _ ⟨he, hw⟩ => ⟨he, hw.symm⟩

/-! ### maps -/
/-- An element reads as itself, where it is of the shape that ok asks for. -/
def heldElem (ok : Value → Bool) (v : Value) : Option (DataW Value × List MemPlace) := if ok v then some (.held v, []) else none
theorem heldElem_mk {ok : Value → Bool} {v : Value} (h : ok v = true) : heldElem ok v = some (.held v, []) := by simp [heldElem, h]
theorem heldElem_inv {ok : Value → Bool} {v : Value} {y : DataW Value × List MemPlace} (h : heldElem ok v = some y) : ok v = true ∧ y = (.held v, []) := by
  unfold heldElem at h
  split at h
  · rename_i hk; cases h; exact ⟨hk, rfl⟩
  · cases h

def unheld : DataW Value → Option Value
  | .held v => some v
  | _ => none
/-- What a map as read holds at a key. -/
def view (D : DataW Value) (kl : Lit) : Option Value := unheld (D.atKey kl .nil)

/-- Block b is a map of at most n entries that holds just what M says. -/
def MapIs (P : Program) (k : TypeId) (ok : Value → Bool) (w : World) (b n : Nat) (M : Lit → Option Value) : Prop :=
  ∃ D : DataW Value, w.ownsMap P k (heldElem ok) b n D ∧ ∀ kl, view D kl = M kl

section
variable {P : Program} {k : TypeId} {ok : Value → Bool} {w w' : World} {b n : Nat} {M : Lit → Option Value}

theorem held_all {D : DataW Value} (h : w.ownsMap P k (heldElem ok) b n D) : ∃ es, D = .map es ∧ ∀ p ∈ es, ∃ v, ok v = true ∧ p.2 = .held v := by
  obtain ⟨es, clock, _, F, _, rfl⟩ := h
  refine ⟨_, rfl, fun p hp => ?_⟩
  rw [mem_sorted] at hp
  obtain ⟨x, hx, rfl⟩ := List.mem_map.1 hp
  obtain ⟨y, hy⟩ := F.reads x hx
  obtain ⟨z, hz, hz2⟩ := rd_val hy
  obtain ⟨h1, rfl⟩ := heldElem_inv hz
  exact ⟨x.val, h1, by rw [rg_of hy, hz2]⟩

theorem view_cases {D : DataW Value} (h : w.ownsMap P k (heldElem ok) b n D) (kl : Lit) :
    (Maps.has D kl = false ∧ view D kl = none ∧ ∀ z, D.atKey kl z = z) ∨ ∃ v, ok v = true ∧ Maps.has D kl = true ∧ view D kl = some v ∧ ∀ z, D.atKey kl z = .held v := by
  obtain ⟨es, rfl, hall⟩ := held_all h
  cases hf : es.find? (fun p => p.1.sameKey kl) with
  | none =>
    refine Or.inl ⟨?_, by simp [view, DataW.atKey, hf, unheld], fun z => by simp [DataW.atKey, hf]⟩
    simp only [Maps.has]
    rw [List.any_eq_false]
    intro p hp
    have := List.find?_eq_none.1 hf p hp
    simpa using this
  | some p =>
    obtain ⟨v, hv, hp2⟩ := hall p (List.mem_of_find?_eq_some hf)
    refine Or.inr ⟨v, hv, ?_, by simp [view, DataW.atKey, hf, hp2, unheld], fun z => by simp [DataW.atKey, hf, hp2]⟩
    simp only [Maps.has]
    rw [List.any_eq_true]
    exact ⟨p, List.mem_of_find?_eq_some hf, by have := List.find?_some hf; simpa using this⟩

theorem MapIs.ok_of (h : MapIs P k ok w b n M) {kl : Lit} {v : Value} (hv : M kl = some v) : ok v = true := by
  obtain ⟨D, hD, hM⟩ := h
  rcases view_cases hD kl with ⟨_, h2, _⟩ | ⟨v', h1, _, h2, _⟩
  · rw [hM, hv] at h2; cases h2
  · rw [hM, hv] at h2; cases h2; exact h1

theorem MapIs.lt (h : MapIs P k ok w b n M) : b < w.heap.size := by obtain ⟨D, hD, _⟩ := h; exact hD.lt
theorem MapIs.mono (h : MapIs P k ok w b n M) {n' : Nat} (hn : n ≤ n') : MapIs P k ok w b n' M := by obtain ⟨D, hD, hM⟩ := h; exact ⟨D, hD.mono hn, hM⟩
theorem MapIs.grown {row : Option Nat} (h : MapIs P k ok w b n M) (hg : w.grownBy w' row) (hne : some b ≠ row) : MapIs P k ok w' b n M := by obtain ⟨D, hD, hM⟩ := h; exact ⟨D, hD.kept hg hne, hM⟩
theorem MapIs.alloc (h : MapIs P k ok w b n M) (o : Obj) : MapIs P k ok (w.alloc o) b n M := by obtain ⟨D, hD, hM⟩ := h; exact ⟨D, hD.alloc o, hM⟩
theorem MapIs.drew (h : MapIs P k ok w b n M) : MapIs P k ok w.drew b n M := h
theorem MapIs.drewN (h : MapIs P k ok w b n M) (q : Nat) : MapIs P k ok (w.drewN q) b n M := h
theorem MapIs.setCell (h : MapIs P k ok w b n M) {p : Addr} (hp : b ≠ p.block) (u : Value) : MapIs P k ok (w.setCell p u) b n M := by obtain ⟨D, hD, hM⟩ := h; exact ⟨D, hD.setCell hp u, hM⟩
theorem MapIs.kept {S : Nat → Prop} (h : MapIs P k ok w b n M) (hk : Kept S w w') (hn : ¬ S b) : MapIs P k ok w' b n M := by
  obtain ⟨D, ⟨es, clock, hb, r⟩, hM⟩ := h
  exact ⟨D, ⟨es, clock, (hk.block b (Array.getElem?_eq_some_iff.1 hb).1 hn).trans hb, r⟩, hM⟩
theorem MapIs.congr (h : MapIs P k ok w b n M) {M' : Lit → Option Value} (he : ∀ kl, M kl = M' kl) : MapIs P k ok w b n M' := by obtain ⟨D, hD, hM⟩ := h; exact ⟨D, hD, fun kl => (hM kl).trans (he kl)⟩
theorem MapIs.ne_blk {g : Nat} {t : TypeId} {cs : Array Value} (h : MapIs P k ok w b n M) (hg : Blk w g t cs) : b ≠ g := by
  rintro rfl
  obtain ⟨D, ⟨es, clock, hb, _⟩, _⟩ := h
  unfold Blk at hg
  rw [hb] at hg
  cases hg

theorem MapIs.made (w : World) (P : Program) (k : TypeId) (ok : Value → Bool) : MapIs P k ok (w.alloc (.map #[] 0)) w.heap.size 0 (fun _ => none) :=
  ⟨_, World.ownsMap_made w P k _, fun kl => by simp [view, DataW.atKey, unheld]⟩

/-- M with v at kl. -/
def upd (M : Lit → Option Value) (kl : Lit) (v : Value) : Lit → Option Value := fun x => if x.sameKey kl then some v else M x
/-- M without kl. -/
def gone (M : Lit → Option Value) (kl : Lit) : Lit → Option Value := fun x => if x.sameKey kl then none else M x

theorem MapIs.look {t e : TypeId} (h : MapIs P k ok w b n M) (K : Keyed P k) (ht : P.underlying t = some (.map k e)) {z : Value} (hz : (zeroValue e).run P w = .ok z w) (hzo : ok z = true) {key : Value} {kl : Lit} (hkey : keyOf P k key = some kl) :
    (Instr.lookup t (.map (some b)) key false).run P w = .ok ((M kl).getD z) w := by
  obtain ⟨D, hD, hM⟩ := h
  obtain ⟨v, ps, hrun, hv⟩ := hD.lookup K ht hz (heldElem_mk hzo) hkey
  obtain ⟨_, hv2⟩ := heldElem_inv hv
  rw [hrun, ← hM]
  rcases view_cases hD kl with ⟨_, h2, h3⟩ | ⟨v', _, _, h2, h3⟩
  · rw [h3] at hv2; cases hv2; rw [h2]; rfl
  · rw [h3] at hv2; cases hv2; rw [h2]; rfl

theorem MapIs.look_ok {t e : TypeId} (h : MapIs P k ok w b n M) (K : Keyed P k) (ht : P.underlying t = some (.map k e)) {z : Value} (hz : (zeroValue e).run P w = .ok z w) (hzo : ok z = true) {key : Value} {kl : Lit} (hkey : keyOf P k key = some kl) :
    (Instr.lookup t (.map (some b)) key true).run P w = .ok (.tuple #[(M kl).getD z, .bool (M kl).isSome]) w := by
  obtain ⟨D, hD, hM⟩ := h
  obtain ⟨v, ps, hrun, hv⟩ := hD.look_ok K ht hz (heldElem_mk hzo) hkey
  obtain ⟨_, hv2⟩ := heldElem_inv hv
  rw [hrun, ← hM]
  rcases view_cases hD kl with ⟨h1, h2, h3⟩ | ⟨v', _, h1, h2, h3⟩
  · rw [h3] at hv2; cases hv2; rw [h1, h2]; rfl
  · rw [h3] at hv2; cases hv2; rw [h1, h2]; rfl

theorem MapIs.store {t e : TypeId} (h : MapIs P k ok w b n M) (K : Keyed P k) (ht : P.underlying t = some (.map k e)) (hn : n < maxLen) {key val : Value} {kl : Lit} (hkey : keyOf P k key = some kl) (hv : ok val = true) :
    ∃ w', (Instr.mapUpdate t (.map (some b)) key val).run P w = .ok () w' ∧ MapIs P k ok w' b (n + 1) (upd M kl val) ∧ w.grownBy w' (some b) ∧ w'.heap.size = w.heap.size := by
  obtain ⟨D, hD, hM⟩ := h
  obtain ⟨w', hrun, h1, h2⟩ := hD.store K ht hn hkey (heldElem_mk hv)
  refine ⟨w', hrun, ⟨_, h1, fun x => ?_⟩, h2.grown, ?_⟩
  · unfold upd view
    by_cases hx : x = kl
    · subst hx
      rw [WideAt.sameKey_self (K.key hkey), if_pos rfl, atKey_put_same hD.isMap (K.key hkey)]; rfl
    · rw [sameKey_ne hx, if_neg (by simp), atKey_put_other hx]; exact hM x
  · obtain ⟨es, c, es', c', _, rfl⟩ := h2
    simp [Go.ChangeMaps.setBlock]

theorem MapIs.drop {t e : TypeId} (h : MapIs P k ok w b n M) (K : Keyed P k) (ht : P.underlying t = some (.map k e)) {key : Value} {kl : Lit} (hkey : keyOf P k key = some kl) (ty : TypeId) :
    ∃ w', (Builtin.delete_ #[t, k] ty #[.map (some b), key]).run P w = .ok (.tuple #[]) w' ∧ MapIs P k ok w' b n (gone M kl) ∧ w.grownBy w' (some b) ∧ w'.heap.size = w.heap.size := by
  obtain ⟨D, hD, hM⟩ := h
  obtain ⟨w', hrun, h1, h2⟩ := hD.drop K ht hkey ty
  refine ⟨w', hrun, ⟨_, h1, fun x => ?_⟩, h2.grown, ?_⟩
  · unfold gone view
    by_cases hx : x = kl
    · subst hx
      rw [WideAt.sameKey_self (K.key hkey), if_pos rfl, atKey_del_same]; rfl
    · rw [sameKey_ne hx, if_neg (by simp), atKey_del_other hx]; exact hM x
  · obtain ⟨es, c, es', c', _, rfl⟩ := h2
    simp [Go.ChangeMaps.setBlock]

/-- A range over the map is under way; 'left': is the entry at this key still to come? -/
def MapGoes (P : Program) (k : TypeId) (ok : Value → Bool) (w : World) (b r n : Nat) (M : Lit → Option Value) (left : Lit → Bool) (cnt : Nat) : Prop :=
  ∃ D : DataW Value, w.ranges P k (heldElem ok) b r n D left cnt ∧ ∀ kl, view D kl = M kl
variable {r cnt : Nat} {left : Lit → Bool}
theorem MapGoes.map (h : MapGoes P k ok w b r n M left cnt) : MapIs P k ok w b n M := by obtain ⟨D, hD, hM⟩ := h; exact ⟨D, hD.owns, hM⟩
theorem MapGoes.left_eq (h : MapGoes P k ok w b r n M left cnt) : w.rangeLeft b r = cnt := by obtain ⟨D, hD, hM⟩ := h; exact hD.left_eq
theorem MapGoes.ne (h : MapGoes P k ok w b r n M left cnt) : r ≠ b := by obtain ⟨D, hD, hM⟩ := h; exact hD.ne
theorem MapGoes.lt (h : MapGoes P k ok w b r n M left cnt) : r < w.heap.size := by obtain ⟨D, hD, hM⟩ := h; exact hD.lt
theorem MapGoes.grown {row : Option Nat} (h : MapGoes P k ok w b r n M left cnt) (hg : w.grownBy w' row) (hb : some b ≠ row) (hr : some r ≠ row) : MapGoes P k ok w' b r n M left cnt := by obtain ⟨D, hD, hM⟩ := h; exact ⟨D, hD.kept hg hb hr, hM⟩
theorem MapGoes.alloc (h : MapGoes P k ok w b r n M left cnt) (o : Obj) : MapGoes P k ok (w.alloc o) b r n M left cnt := by obtain ⟨D, hD, hM⟩ := h; exact ⟨D, hD.alloc o, hM⟩
theorem MapGoes.drew (h : MapGoes P k ok w b r n M left cnt) : MapGoes P k ok w.drew b r n M left cnt := h
theorem MapGoes.drewN (h : MapGoes P k ok w b r n M left cnt) (q : Nat) : MapGoes P k ok (w.drewN q) b r n M left cnt := h
theorem MapGoes.kept {S : Nat → Prop} (h : MapGoes P k ok w b r n M left cnt) (hk : Kept S w w') (hb : ¬ S b) (hr : ¬ S r) : MapGoes P k ok w' b r n M left cnt := by
  have hlt := h.lt
  have hlb := h.map.lt
  obtain ⟨D, ⟨es, clock, since, seen, c0, h1, h2, h3, h4, h5, h6⟩, hM⟩ := h
  exact ⟨D, ⟨es, clock, since, seen, c0, (hk.block b hlb hb).trans h1, h2, h3, h4, (hk.block r hlt hr).trans h5, h6⟩, hM⟩

theorem view_some_has {D : DataW Value} (h : w.ownsMap P k (heldElem ok) b n D) (kl : Lit) : (view D kl).isSome = Maps.has D kl := by
  rcases view_cases h kl with ⟨h1, h2, _⟩ | ⟨v, _, h1, h2, _⟩ <;> rw [h1, h2] <;> rfl

theorem MapIs.range {t e : TypeId} (h : MapIs P k ok w b n M) (K : Keyed P k) (ht : P.underlying t = some (.map k e)) :
    ∃ w' cnt, (Instr.range t (.map (some b))).run P w = .ok (.pointer (some ⟨w.heap.size, 0, none⟩)) w' ∧ MapGoes P k ok w' b w.heap.size n M (fun kl => (M kl).isSome) cnt ∧ w.grownBy w' none ∧ w'.heap.size = w.heap.size + 1 ∧ cnt ≤ n := by
  obtain ⟨D, hD, hM⟩ := h
  obtain ⟨w', hrun, r1, r2, r3⟩ := hD.range K ht
  refine ⟨w', _, hrun, ⟨D, ?_, hM⟩, r2, r3, hD.size_le⟩
  have : (fun kl => (M kl).isSome) = Maps.has D := by
    funext kl
    rw [← hM, view_some_has hD]
  rw [this]
  exact r1

theorem MapGoes.next (h : MapGoes P k ok w b r n M left cnt) (K : Keyed P k) (ty : TypeId) :
    (cnt = 0 ∧ (∀ kl, left kl = false) ∧ (Instr.next (.pointer (some ⟨r, 0, none⟩)) false ty).run P w = .ok (.tuple #[.bool false]) w) ∨
    ∃ key v kl w' cnt', keyOf P k key = some kl ∧ left kl = true ∧ ok v = true ∧ M kl = some v ∧ (Instr.next (.pointer (some ⟨r, 0, none⟩)) false ty).run P w = .ok (.tuple #[.bool true, key, v]) w' ∧
      MapGoes P k ok w' b r n M (fun x => left x && !x.sameKey kl) cnt' ∧ cnt' < cnt ∧ w.grownBy w' (some r) ∧ w'.heap.size = w.heap.size ∧ (Instr.entry (.pointer (some ⟨r, 0, none⟩))).run P w' = .ok (.tuple #[key, v]) w' := by
  obtain ⟨D, hD, hM⟩ := h
  rcases hD.next K ty with ⟨h0, hl, hrun⟩ | ⟨key, v, kl, y, w', cnt', hkey, hlk, hv, hat, hrun, hrg, hlt, hgr, hsz, hen⟩
  · exact Or.inl ⟨h0, hl, hrun⟩
  · obtain ⟨h1, rfl⟩ := heldElem_inv hv
    refine Or.inr ⟨key, v, kl, w', cnt', hkey, hlk, h1, ?_, hrun, ⟨D, ?_, hM⟩, hlt, hgr, hsz, hen⟩
    · rw [← hM]; unfold view; rw [hat]; rfl
    · exact hrg
end

end Go.Proofs.YtpgbgeofhcpocaaGreatDoor
