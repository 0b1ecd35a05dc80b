/- The document's example: awake returns true. -/
import Derived.Test.YtobkgkiomapabaaGreatDoorHears
namespace Go.Proofs.YtobkgkiomapabaaGreatDoor
open Go.RowKit Go.Maps Go.Lib Go.Shelf

theorem name_a : nameB ⟨#[97]⟩ = true := by kernel_rfl
theorem name_b : nameB ⟨#[98]⟩ = true := by kernel_rfl

/-- A clock that is never idle, with a slack, and no sources but a and b. -/
structure Two (c : Ck) (slack mk : Int) (xa xb : Option Int) : Prop where
  slack : c.slack = slack
  idle : c.idle = 0
  mark : c.mark = mk
  a : (c.src [97]).map Prod.fst = xa
  b : (c.src [98]).map Prod.fst = xb
  o : ∀ s, s ≠ [97] → s ≠ [98] → c.src s = none

def tellsTwo (slack mk : Int) : Option Int → Option Int → Int
  | none, none => mk
  | some a, none => max mk (a - slack - 1)
  | none, some b => max mk (b - slack - 1)
  | some a, some b => max mk (min (a - slack - 1) (b - slack - 1))

theorem act_idle {c : Ck} (h : c.idle = 0) (x : Int × Int) : act c x = true := by simp [act, h]

theorem Two.rose {c c' : Ck} {slack mk : Int} {xa xb : Option Int} (h : Two c slack mk xa xb) (hr : Rose c c') : Two c' slack (tellsTwo slack mk xa xb) xa xb := by
  obtain ⟨m, any, ht, rfl⟩ := hr
  refine ⟨h.slack, h.idle, ?_, h.a, h.b, h.o⟩
  have ha := h.a
  have hb := h.b
  have key : ∀ s x, c.src s = some x → (s = [97] ∧ xa = some x.1) ∨ (s = [98] ∧ xb = some x.1) := by
    intro s x hs
    by_cases e1 : s = [97]
    · subst e1; rw [hs] at ha; exact Or.inl ⟨rfl, ha.symm⟩
    · by_cases e2 : s = [98]
      · subst e2; rw [hs] at hb; exact Or.inr ⟨rfl, hb.symm⟩
      · rw [h.o s e1 e2] at hs; cases hs
  have ina : ∀ v, xa = some v → ∃ x, c.src [97] = some x ∧ x.1 = v := by
    intro v hv; rw [hv, Option.map_eq_some_iff] at ha; exact ha
  have inb : ∀ v, xb = some v → ∃ x, c.src [98] = some x ∧ x.1 = v := by
    intro v hv; rw [hv, Option.map_eq_some_iff] at hb; exact hb
  show (if any = true then max c.mark m else c.mark) = _
  rw [h.mark]
  rcases ht with ⟨rfl, _, hall⟩ | ⟨rfl, ⟨s, x, hs, _, rfl⟩, hall⟩
  · have na : xa = none := by
      cases hxa : xa with
      | none => rfl
      | some v => obtain ⟨x, hx, _⟩ := ina v hxa; have := hall _ x hx trivial; rw [act_idle h.idle] at this; cases this
    have nb : xb = none := by
      cases hxb : xb with
      | none => rfl
      | some v => obtain ⟨x, hx, _⟩ := inb v hxb; have := hall _ x hx trivial; rw [act_idle h.idle] at this; cases this
    subst na nb
    rfl
  · rw [h.slack] at hall ⊢
    rw [if_pos rfl]
    have la : ∀ v, xa = some v → x.1 - slack - 1 ≤ v - slack - 1 := by
      intro v hv; obtain ⟨y, hy, rfl⟩ := ina v hv; exact hall _ y hy trivial (act_idle h.idle y)
    have lb : ∀ v, xb = some v → x.1 - slack - 1 ≤ v - slack - 1 := by
      intro v hv; obtain ⟨y, hy, rfl⟩ := inb v hv; exact hall _ y hy trivial (act_idle h.idle y)
    have hx := key s x hs
    cases xa with
    | none =>
      cases xb with
      | none => simp at hx
      | some vb =>
        have := lb vb rfl
        simp at hx
        simp only [tellsTwo]; omega
    | some va =>
      have := la va rfl
      cases xb with
      | none => simp at hx; simp only [tellsTwo]; omega
      | some vb =>
        have := lb vb rfl
        simp at hx
        simp only [tellsTwo]; omega

theorem Two.ticked {c c' : Ck} {slack mk now : Int} {xa xb : Option Int} (h : Two c slack mk xa xb) (hr : Ticked c now c') : Two c' slack (tellsTwo slack mk xa xb) xa xb :=
  Two.rose (c := { c with now := max c.now (bnd now) }) ⟨h.slack, h.idle, h.mark, h.a, h.b, h.o⟩ hr

theorem Two.heardA {c c' : Ck} {slack mk now at_ : Int} {xa xb : Option Int} {res : Bool} (h : Two c slack mk xa xb) (hr : Hears c ⟨#[97]⟩ at_ now res c') (h0 : 0 ≤ at_) (h1 : at_ ≤ 1099511627776) (h2 : tellsTwo slack mk xa xb < at_) :
    res = true ∧ Two c' slack (tellsTwo slack (tellsTwo slack mk xa xb) (some (max (xa.getD 0) at_)) xb) (some (max (xa.getD 0) at_)) xb := by
  obtain ⟨c1, ht, hc⟩ := hr
  have t1 := h.ticked ht
  have hf : Fits c1 ⟨#[97]⟩ at_ := ⟨name_a, h0, h1, by rw [t1.mark]; exact h2⟩
  rcases hc with ⟨_, _, hn⟩ | ⟨rfl, _, hro⟩
  · exact absurd hf hn
  · refine ⟨rfl, Two.rose (c := Heard' c1 ⟨#[97]⟩ at_) ⟨t1.slack, t1.idle, t1.mark, ?_, ?_, ?_⟩ hro⟩
    · show (put c1.src [97] _ [97]).map _ = _
      have : ((c1.src [97]).getD (0, 0)).1 = xa.getD 0 := by rw [← t1.a]; cases c1.src [97] <;> rfl
      simp only [put, if_true, Option.map_some]
      rw [this]
    · show (put c1.src [97] (max ((c1.src [97]).getD (0, 0)).1 at_, c1.now) [98]).map _ = _
      rw [put, if_neg (by decide)]; exact t1.b
    · intro s e1 e2
      show put c1.src [97] _ s = none
      rw [put, if_neg e1]; exact t1.o s e1 e2

theorem Two.heardB {c c' : Ck} {slack mk now at_ : Int} {xa xb : Option Int} {res : Bool} (h : Two c slack mk xa xb) (hr : Hears c ⟨#[98]⟩ at_ now res c') (h0 : 0 ≤ at_) (h1 : at_ ≤ 1099511627776) (h2 : tellsTwo slack mk xa xb < at_) :
    res = true ∧ Two c' slack (tellsTwo slack (tellsTwo slack mk xa xb) xa (some (max (xb.getD 0) at_))) xa (some (max (xb.getD 0) at_)) := by
  obtain ⟨c1, ht, hc⟩ := hr
  have t1 := h.ticked ht
  have hf : Fits c1 ⟨#[98]⟩ at_ := ⟨name_b, h0, h1, by rw [t1.mark]; exact h2⟩
  rcases hc with ⟨_, _, hn⟩ | ⟨rfl, _, hro⟩
  · exact absurd hf hn
  · refine ⟨rfl, Two.rose (c := Heard' c1 ⟨#[98]⟩ at_) ⟨t1.slack, t1.idle, t1.mark, ?_, ?_, ?_⟩ hro⟩
    · show (put c1.src [98] (max ((c1.src [98]).getD (0, 0)).1 at_, c1.now) [97]).map _ = _
      rw [put, if_neg (by decide)]; exact t1.a
    · show (put c1.src [98] _ [98]).map _ = _
      have : ((c1.src [98]).getD (0, 0)).1 = xb.getD 0 := by rw [← t1.b]; cases c1.src [98] <;> rfl
      simp only [put, if_true, Option.map_some]
      rw [this]
    · intro s e1 e2
      show put c1.src [98] _ s = none
      rw [put, if_neg e2]; exact t1.o s e1 e2

theorem Two.late {c c' : Ck} {slack mk now at_ : Int} {xa xb : Option Int} {s : ByteArray} {res : Bool} (h : Two c slack mk xa xb) (hr : Hears c s at_ now res c') (h2 : ¬ (0 ≤ at_ ∧ at_ ≤ 1099511627776 ∧ tellsTwo slack mk xa xb < at_)) :
    res = false ∧ Two c' slack (tellsTwo slack mk xa xb) xa xb := by
  obtain ⟨c1, ht, hc⟩ := hr
  have t1 := h.ticked ht
  rcases hc with ⟨rfl, rfl, _⟩ | ⟨rfl, hf, hro⟩
  · exact ⟨rfl, t1⟩
  · exact absurd ⟨hf.2.1, hf.2.2.1, by have := hf.2.2.2; rw [t1.mark] at this; exact this⟩ h2

theorem Two.fresh (slack : Int) : Two (fresh slack 0) (bnd slack) (-1) none none := ⟨rfl, show bnd 0 = 0 from by decide, rfl, rfl, rfl, fun _ _ _ => rfl⟩

set_option maxHeartbeats 1000000 in
set_option maxRecDepth 100000 in
theorem awake_any (w : World) : Calls Tryz.prog 4 #[] w fun e w' => e = .returned (.bool true) ∧ Below w.heap.size w w' := by
  go_enter Tryz.func4, Tryz.ntmps4
  go_wp2_with fail
  refine (new_any 3 0 w).mono ?_
  rintro e w0 ⟨cb, mb, rfl, h0, hb0, hcb, hmb⟩
  have t0 : Two (fresh 3 0) 3 (-1) none none := Two.fresh 3
  generalize fresh 3 0 = c0 at h0 t0
  go_wp2_with fail
  refine (hear_any cb mb 0 c0 _ _ _ w0 h0 (by omega)).mono ?_
  rintro e w1 ⟨r1, c1, rfl, q1, h1, k1⟩
  have t1 : r1 = true ∧ Two c1 3 6 (some 10) none := t0.heardA q1 (by decide) (by decide) (by decide)
  obtain ⟨rfl, t1⟩ := t1
  clear q1
  go_wp2_with fail
  refine (mark_any cb mb c1 w1 h1.blk).mono ?_
  rintro e w1' ⟨rfl, rfl⟩
  go_wp2_with fail
  refine (hear_any cb mb _ c1 _ _ _ w1 h1 (by omega)).mono ?_
  rintro e w2 ⟨r2, c2, rfl, q2, h2, k2⟩
  have t2 : r2 = true ∧ Two c2 3 6 (some 10) (some 8) := t1.heardB q2 (by decide) (by decide) (by decide)
  obtain ⟨rfl, t2⟩ := t2
  clear q2
  go_wp2_with fail
  refine (hear_any cb mb _ c2 _ _ _ w2 h2 (by omega)).mono ?_
  rintro e w3 ⟨r3, c3, rfl, q3, h3, k3⟩
  have t3 : r3 = false ∧ Two c3 3 6 (some 10) (some 8) := t2.late q3 (by decide)
  obtain ⟨rfl, t3⟩ := t3
  clear q3
  go_wp2_with fail
  refine (hear_any cb mb _ c3 _ _ _ w3 h3 (by omega)).mono ?_
  rintro e w4 ⟨r4, c4, rfl, q4, h4, k4⟩
  have t4 : r4 = true ∧ Two c4 3 6 (some 20) (some 8) := t3.heardA q4 (by decide) (by decide) (by decide)
  obtain ⟨rfl, t4⟩ := t4
  clear q4
  go_wp2_with fail
  refine (mark_any cb mb c4 w4 h4.blk).mono ?_
  rintro e w4' ⟨rfl, rfl⟩
  go_wp2_with fail
  refine (hear_any cb mb _ c4 _ _ _ w4 h4 (by omega)).mono ?_
  rintro e w5 ⟨r5, c5, rfl, q5, h5, k5⟩
  have t5 : r5 = true ∧ Two c5 3 16 (some 20) (some 20) := t4.heardB q5 (by decide) (by decide) (by decide)
  obtain ⟨rfl, t5⟩ := t5
  clear q5
  have hK : Kept (fun i => i = cb ∨ i = mb) w0 w5 := (((k1.trans k2).trans k3).trans k4).trans k5
  have hB : Below w.heap.size w w5 := hb0.trans (hK.toBelow (fun i hi => by omega) hb0.size)
  have m1 : c1.mark = 6 := t1.mark
  have m4 : c4.mark = 6 := t4.mark
  rw [m1, m4]
  have m5 : c5.mark = 16 := t5.mark
  have hblk := h5.blk
  clear k1 k2 k3 k4 k5 t0 t1 t2 t3 t4 t5 h0 h1 h2 h3 h4 h5 hb0 hK m1 m4
  go_wp2_with fail
  refine (mark_any cb mb c5 w5 hblk).mono ?_
  rintro e w5' ⟨rfl, rfl⟩
  go_wp2_with fail
  go_ret
  exact ⟨rfl, hB⟩

end Go.Proofs.YtobkgkiomapabaaGreatDoor
