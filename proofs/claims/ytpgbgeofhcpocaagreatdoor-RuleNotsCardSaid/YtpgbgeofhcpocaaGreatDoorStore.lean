/- A struct that is stored into a block that is known. Nothing of the program. -/
import Derived.Test.YtpgbgeofhcpocaaGreatDoorBase
import Derived.Deep.MidRow
namespace Go.Proofs.YtpgbgeofhcpocaaGreatDoor
open Go.RowKit
set_option linter.unusedVariables false

/-- An array with values from a place on. -/
def putA (cs : Array Value) : Nat → List Value → Array Value
  | _, [] => cs
  | o, v :: r => putA (cs.setIfInBounds o v) (o + 1) r
section
variable {P : Program} {w w' : World} {g : Nat} {t : TypeId} {cs : Array Value}
theorem Blk.setCells : ∀ (vs : List Value) (o : Nat) (w : World) (cs : Array Value), Blk w g t cs → Blk (w.setCells g o vs) g t (putA cs o vs)
  | [], _, _, _, h => h
  | v :: r, o, w, cs, h => Blk.setCells r (o + 1) _ _ (h.set_ o v)
theorem kept_setCells : ∀ (vs : List Value) (o : Nat) (a w : World), Kept (fun q => q = g) a w → Kept (fun q => q = g) a (w.setCells g o vs)
  | [], _, _, _, h => h
  | v :: r, o, a, w, h => kept_setCells r (o + 1) a _ (h.setCell (Or.inl rfl) v)
theorem size_setCells : ∀ (vs : List Value) (o : Nat) (w : World), (w.setCells g o vs).heap.size = w.heap.size
  | [], _, _ => rfl
  | v :: r, o, w => by rw [World.setCells, size_setCells r]; simp [World.setCell]
theorem Blk.there (h : Blk w g t cs) {o n : Nat} (hn : o + n ≤ cs.size) : w.there g o n := fun j hj => ⟨by rw [h.cell, Array.getElem?_eq_getElem (by omega)]; rfl, h.frozen _⟩

theorem wp_store_blk {o : Oper} {a : Act} {K : Act → World → Prop} {Q : Exit → Act → World → Prop} (w : World) (ty : TypeId) (x y : Operand) (ho : o.op = .store ty x y) (off : Nat) (cells : Array Value) (hx : a.eval x = .pointer (some ⟨g, off, none⟩)) (hy : a.eval y = .agg cells)
    (hb : Blk w g t cs) (hle : off + cells.size ≤ cs.size) (hi : (P.info? ty).map (·.size) = some cells.size) (h1 : cells.all (·.oneCell') = true)
    (h : ∀ w', Blk w' g t (putA cs off cells.toList) → Kept (fun q => q = g) w w' → w'.heap.size = w.heap.size → K (a.put o.dst undef) w') : o.wp P a w K Q :=
  wp_store_mid ty x y ho g off cells hx hy (hb.there hle) hi h1 (h _ (Blk.setCells _ _ _ _ hb) (kept_setCells _ _ _ _ (Kept.refl _ _)) (size_setCells _ _ _))
theorem wpList_store_blk {ops : Array Oper} {rest : List Oper} {o : Oper} {a : Act} {Q : Exit → Act → World → Prop} (w : World) (hgd : o.guard = none) (ty : TypeId) (x y : Operand) (ho : o.op = .store ty x y) (off : Nat) (cells : Array Value) (hx : a.eval x = .pointer (some ⟨g, off, none⟩)) (hy : a.eval y = .agg cells)
    (hb : Blk w g t cs) (hle : off + cells.size ≤ cs.size) (hi : (P.info? ty).map (·.size) = some cells.size) (h1 : cells.all (·.oneCell') = true)
    (h : ∀ w', Blk w' g t (putA cs off cells.toList) → Kept (fun q => q = g) w w' → w'.heap.size = w.heap.size → wpList P ops Q rest (a.put o.dst undef) w') : wpList P ops Q (o :: rest) a w :=
  wpList_plain hgd fun _ hK => wp_store_blk w ty x y ho off cells hx hy hb hle hi h1 fun w' h2 h3 h4 => hK _ _ (h w' h2 h3 h4)
theorem step_store_blk {ops : Array Oper} {o : Oper} {a : Act} {K : Act → World → Prop} {Q : Exit → Act → World → Prop} {E : Prop} (w : World) (hgd : o.guard = none) (ty : TypeId) (x y : Operand) (ho : o.op = .store ty x y) (off : Nat) (cells : Array Value) (hx : a.eval x = .pointer (some ⟨g, off, none⟩)) (hy : a.eval y = .agg cells)
    (hb : Blk w g t cs) (hle : off + cells.size ≤ cs.size) (hi : (P.info? ty).map (·.size) = some cells.size) (h1 : cells.all (·.oneCell') = true)
    (h : ∀ w', Blk w' g t (putA cs off cells.toList) → Kept (fun q => q = g) w w' → w'.heap.size = w.heap.size → K (a.put o.dst undef) w') :
    if Region.wanted o (yielded ops a.tmps) = true then Oper.wp P o a w K Q else E := by
  rw [if_pos (by simp [Region.wanted, hgd])]
  exact wp_store_blk w ty x y ho off cells hx hy hb hle hi h1 h
end

end Go.Proofs.YtpgbgeofhcpocaaGreatDoor
