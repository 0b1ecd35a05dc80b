/- Make's closure 'full'; slices.IndexFunc and ContainsFunc with it. -/
import Derived.Test.YtiaklkfdgnhonaaDoorMkMap
namespace Go.Proofs.YtiaklkfdgnhonaaDoor
open Go.Shelf Go.RowKit Go.Lib Go.Sort Go.Maps
set_option linter.unusedVariables false

structure Cp where
  size : Int
  maker : Int
  tag : Int

def mostOf (c : Cp) (m : Mk) : Int := if m.tag = true then c.tag else c.maker
/-- Is there no room for one more with this mark? -/
def fullP (c : Cp) (f : Mk → Nat) (m : Mk) : Bool := decide (1 ≤ mostOf c m) && decide (mostOf c m ≤ f m)

/-- What the closure has caught. -/
structure Caught (w : World) (cb tb mb n : Nat) (c : Cp) (M : Lit → Option Value) : Prop where
  caps : Blk w cb 28 #[.int .i64 c.size, .int .i64 c.maker, .int .i64 c.tag]
  var : Blk w tb 45 #[.map (some mb)]
  map : MapIs Tryd.prog 47 okInt w mb n M
theorem Caught.kept {w w' : World} {cb tb mb n : Nat} {c : Cp} {M : Lit → Option Value} {S : Nat → Prop} (h : Caught w cb tb mb n c M) (k : Kept S w w') (h1 : ¬ S cb) (h2 : ¬ S tb) (h3 : ¬ S mb) : Caught w' cb tb mb n c M :=
  ⟨h.caps.kept k h1, h.var.kept k h2, h.map.kept k h3⟩
theorem Caught.below {w w' : World} {cb tb mb n : Nat} {c : Cp} {M : Lit → Option Value} (h : Caught w cb tb mb n c M) (hb : Below w.heap.size w w') : Caught w' cb tb mb n c M :=
  h.kept (S := fun _ => False) ⟨hb.os, hb.tape, hb.output, hb.size, fun i hi _ => hb.block i hi⟩ (by simp) (by simp) (by simp)

theorem zeroInt (w : World) : (zeroValue 3).run Tryd.prog w = .ok (.int .i64 0) w := Tryd.zeroValue3 w

set_option maxHeartbeats 1000000 in
set_option maxRecDepth 100000 in
theorem full_any (w : World) (cb tb mb n : Nat) (c : Cp) (M : Lit → Option Value) (f : Mk → Nat) (m : Mk) (h : Caught w cb tb mb n c M) (hM : CntIs M f) (hs : m.name.size ≤ maxLen) :
    Calls Tryd.prog 27 #[.agg #[.bool m.tag, .string m.name], .pointer (some ⟨cb, 0, none⟩), .pointer (some ⟨tb, 0, none⟩)] w fun e w' => e = .returned (.bool (fullP c f m)) ∧ Below w.heap.size w w' := by
  obtain ⟨mt, mn⟩ := m
  dsimp only at hs ⊢
  have hb1 : Below w.heap.size w (w.alloc (.cells #[.bool mt, .string mn] 47)) := (Below.refl _ _).alloc (Nat.le_refl _) _
  have h1 := h.below hb1
  have bx := Blk.new w 47 #[.bool mt, .string mn]
  obtain ⟨w1, hw1⟩ : ∃ w1, w.alloc (.cells #[.bool mt, .string mn] 47) = w1 := ⟨_, rfl⟩
  rw [hw1] at hb1 h1 bx
  have x0 : w1.cell? ⟨w.heap.size, 0, none⟩ = some (.bool mt) := bx.cell 0
  have x1 : w1.cell? ⟨w.heap.size, 1, none⟩ = some (.string mn) := bx.cell 1
  have c1 : w1.cell? ⟨cb, 1, none⟩ = some (.int .i64 c.maker) := h1.caps.cell 1
  have c2 : w1.cell? ⟨cb, 2, none⟩ = some (.int .i64 c.tag) := h1.caps.cell 2
  have t0 : w1.cell? ⟨tb, 0, none⟩ = some (.map (some mb)) := h1.var.cell 0
  have hlook : (Instr.lookup 45 (.map (some mb)) (.agg #[.bool mt, .string mn]) false).run Tryd.prog w1 = .ok (.int .i64 (f ⟨mt, mn⟩)) w1 := by
    have := h1.map.look mkKeyed Tryd.underlying45 (zeroInt w1) rfl (mk_keyOf ⟨mt, mn⟩ hs)
    rw [hM.get] at this
    exact this
  obtain ⟨q, hq⟩ : ∃ q : Int, (f ⟨mt, mn⟩ : Int) = q := ⟨_, rfl⟩
  have HF : Hid (fullP c f ⟨mt, mn⟩ = (decide (1 ≤ mostOf c ⟨mt, mn⟩) && decide (mostOf c ⟨mt, mn⟩ ≤ q))) := Lib.hid (by unfold fullP; rw [hq])
  rw [hq] at hlook
  clear hq bx h1 h hM
  cases mt
  · have HM : Hid (mostOf c ⟨false, mn⟩ = c.maker) := Lib.hid rfl
    by_cases g1 : 1 ≤ c.maker
    · have d1 : decide (1 ≤ c.maker) = true := decide_eq_true g1
      go_enter Tryd.func27, Tryd.ntmps27
      go_wp2_with fail
      go_ret
      refine ⟨ret_bool ?_, hb1⟩
      rw [HF.out, HM.out, d1]
      rfl
    · have d1 : decide (1 ≤ c.maker) = false := decide_eq_false g1
      go_enter Tryd.func27, Tryd.ntmps27
      go_wp2_with fail
      go_ret
      refine ⟨ret_bool ?_, hb1⟩
      rw [HF.out, HM.out, d1]
      rfl
  · have HM : Hid (mostOf c ⟨true, mn⟩ = c.tag) := Lib.hid rfl
    by_cases g1 : 1 ≤ c.tag
    · have d1 : decide (1 ≤ c.tag) = true := decide_eq_true g1
      go_enter Tryd.func27, Tryd.ntmps27
      go_wp2_with fail
      go_ret
      refine ⟨ret_bool ?_, hb1⟩
      rw [HF.out, HM.out, d1]
      rfl
    · have d1 : decide (1 ≤ c.tag) = false := decide_eq_false g1
      go_enter Tryd.func27, Tryd.ntmps27
      go_wp2_with fail
      go_ret
      refine ⟨ret_bool ?_, hb1⟩
      rw [HF.out, HM.out, d1]
      rfl

end Go.Proofs.YtiaklkfdgnhonaaDoor
