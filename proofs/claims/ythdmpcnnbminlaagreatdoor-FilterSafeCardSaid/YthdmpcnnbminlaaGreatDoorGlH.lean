/- What the laws ask of a world; FilterFirst. -/
import Derived.Test.YthdmpcnnbminlaaGreatDoorBt
namespace Go.Proofs.YthdmpcnnbminlaaGreatDoor
open Go.Shelf Go.RowKit Go.Maps
open Ru (Fz fzA fzX Nd holdsR RuleV ruleT Says errOf ErrAt TabAt)
set_option linter.unusedVariables false
theorem fz_tags {E : List Ev} {p i : ByteArray} {now : Int} (hall : ∀ e ∈ E, EvOk e) (hi : i.size ≤ 300) : (fzOf E p i now).tags.size ≤ 300 := by
 show ((Ct.atP (thgs E) i now).getD Ct.it0).tags.size ≤ 300
 cases ha : Ct.atP (thgs E) i now with
 | none => exact Nat.zero_le _
 | some x => exact (at_ok (fun e he => (hall e he).1) (fun e he => (hall e he).2) hi ha).tags
structure WsAt (w : World) (wb : Nat) (c : Cfg) (E : List Ev) : Prop where
 at_ : ∃ ct cr, WrAt w wb ct cr c E
 ok : ∀ e ∈ E, EvOk e
 few : E.length ≤ 40
theorem WsAt.below {w w' : World} {wb : Nat} {c : Cfg} {E : List Ev} (h : WsAt w wb c E) (k : Below w.heap.size w w') : WsAt w' wb c E := by
 obtain ⟨ct, cr, h1⟩ := h.at_
 exact ⟨⟨ct, cr, h1.below k⟩, h.ok, h.few⟩
theorem WsAt.of {w : World} {wb base : Nat} {c : Cfg} {E l : List Ev} (h : WorldAt w wb base c E) (ha : AnewIs fmtB l E) (hl : l.length ≤ 40) (hok : ∀ e ∈ l, EvOk e) : WsAt w wb c E :=
 ⟨h.read, fun e he => hok e (ha.sub he), Nat.le_trans ha.few hl⟩
noncomputable def whyF (E : List Ev) (p : ByteArray) (now : Int) (c : Cfg) (R : Option (Option Nd)) (x : ByteArray) : Nat := whyW E p x now c.crowd c.span R
theorem of_law {w : World} {wb B : Nat} {c : Cfg} {E : List Ev} {p : ByteArray} {now : Int} {R : Option (Option Nd)} {q : Option Addr} (h : WsAt w wb c E) (hr : RlIs w B R q) (hg : GlobAt w) (hp : p.size ≤ 300) (hnow : InR now) {x : ByteArray} (hx : x.size ≤ 300) : OfIs wb p now q (whyF E p now c R) x w := by
 obtain ⟨ct, cr, h1⟩ := h.at_
 exact of_any w wb ct cr c E p x now q (okP R) h1 (hr.asks hg) h.ok (by have := h.few; omega) hp hx hnow (fz_tags h.ok hx)
theorem facts_law {w : World} {wb : Nat} {c : Cfg} {E : List Ev} {p x : ByteArray} {now : Int} (h : WsAt w wb c E) (hp : p.size ≤ 300) (hnow : InR now) (hx : x.size ≤ 300) : Calls Tryz.prog 19 #[.pointer (some ⟨wb, 0, none⟩), .string p, .string x, .int .i64 now] w (FactsR E p x now w) := by
 obtain ⟨ct, cr, h1⟩ := h.at_
 exact facts_any w wb ct cr c E p x now h1 h.ok (by have := h.few; omega) hp hx hnow
theorem RlIs.holds {w : World} {B : Nat} {R : Option (Option Nd)} {q : Option Addr} (h : RlIs w B R q) (hg : GlobAt w) (z : Fz) (hz : z.tags.size ≤ 300) : Calls Tryz.prog 28 #[.pointer q, .agg (fzA z)] w (Ru.ROf (okP R z) w) := h.asks hg w (Below.refl _ _) z hz
theorem whyP_six {z : Fz} {hid : Bool} {crowd span : Int} {ok : Bool} (h : whyP z hid crowd span ok = 6) : ok = false ∧ whyP z hid crowd span true = 0 := by
 rw [whyP_fst] at h ⊢
 unfold rowL at h ⊢
 revert h
 generalize (!z.listed) = a0
 generalize decide (z.stock = 0) = a1
 generalize z.done = a3
 generalize (decide (z.fans < crowd) && decide (span < z.age)) = a4
 cases a0 <;> cases a1 <;> cases hid <;> cases a3 <;> cases a4 <;> cases ok <;> decide
theorem whyP_not6 {z : Fz} {hid : Bool} {crowd span : Int} {ok : Bool} (h : whyP z hid crowd span ok ≠ 6) : whyP z hid crowd span ok = whyP z hid crowd span true ∧ (whyP z hid crowd span ok = 0 → ok = true) := by
 rw [whyP_fst] at h ⊢
 rw [whyP_fst]
 unfold rowL at h ⊢
 revert h
 generalize (!z.listed) = a0
 generalize decide (z.stock = 0) = a1
 generalize z.done = a3
 generalize (decide (z.fans < crowd) && decide (span < z.age)) = a4
 cases a0 <;> cases a1 <;> cases hid <;> cases a3 <;> cases a4 <;> cases ok <;> decide
theorem okP_none (z : Fz) : okP none z = true := rfl
def TrueR (w : World) (e : Ending) (w' : World) : Prop := e = .returned (.bool true) ∧ Below w.heap.size w w'
structure LawIn (w : World) (c : Cfg) (A : Option Addr) (n cp : Nat) (l : List Ev) : Prop where
 arg : EvArg w A n cp l
 lib : LbAt w
 nm : FnAt w
end Go.Proofs.YthdmpcnnbminlaaGreatDoor
