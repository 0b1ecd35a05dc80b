/- ClockAlone: a source that is alone, and never idle, moves the mark with the greatest tick that it told, less the slack, and one; it is active from then on. -/
import Derived.Test.YtanhiohalgeijaaHeard
namespace Go.Proofs.Ytanhiohalgeijaa
open Go.RowKit Go.Maps Go.Lib Go.Shelf
set_option linter.unusedVariables false

def mkOf (slack most : Int) : Int := max (-1) (most - slack - 1)
def xaOf (most : Int) : Option Int := if most < 0 then none else some most

theorem alone_tells {slack most : Int} (h0 : 0 ≤ slack) (h1 : -1 ≤ most) : tellsTwo slack (mkOf slack most) (xaOf most) none = mkOf slack most := by
  unfold xaOf
  split
  · rfl
  · simp only [tellsTwo, mkOf]; omega

theorem alone_late {c c' : Ck} {slack most x now : Int} {res : Bool} (h : Two c slack (mkOf slack most) (xaOf most) none) (h0 : 0 ≤ slack) (h1 : -1 ≤ most) (hr : Hears c ⟨#[97]⟩ x now res c')
    (hx : ¬ (0 ≤ x ∧ x ≤ 1099511627776 ∧ mkOf slack most < x)) : res = false ∧ Two c' slack (mkOf slack most) (xaOf most) none := by
  have e := alone_tells h0 h1
  have := h.late hr (by rw [e]; exact hx)
  rw [e] at this
  exact this

theorem alone_heard {c c' : Ck} {slack most x now : Int} {res : Bool} (h : Two c slack (mkOf slack most) (xaOf most) none) (h0 : 0 ≤ slack) (h1 : -1 ≤ most) (hr : Hears c ⟨#[97]⟩ x now res c')
    (hx : 0 ≤ x ∧ x ≤ 1099511627776 ∧ mkOf slack most < x) : res = true ∧ Two c' slack (mkOf slack (max most x)) (xaOf (max most x)) none := by
  have e := alone_tells h0 h1
  obtain ⟨e1, e2⟩ := h.heardA hr hx.1 hx.2.1 (by rw [e]; exact hx.2.2)
  refine ⟨e1, ?_⟩
  rw [e] at e2
  have e3 : (some (max ((xaOf most).getD 0) x) : Option Int) = xaOf (max most x) := by
    unfold xaOf
    rw [if_neg (show ¬ max most x < 0 from by omega)]
    split
    · simp; omega
    · simp
  have e4 : tellsTwo slack (mkOf slack most) (some (max ((xaOf most).getD 0) x)) none = mkOf slack (max most x) := by
    rw [e3]
    unfold xaOf
    rw [if_neg (show ¬ max most x < 0 from by omega)]
    simp only [tellsTwo, mkOf]; omega
  rw [e4, e3] at e2
  exact e2

theorem alone_says {c : Ck} {slack most : Int} (h : Two c slack (mkOf slack most) (xaOf most) none) (h1 : -1 ≤ most) : heardOf c [97] = most ∧ activeOf c [97] = decide (0 ≤ most) := by
  have ha := h.a
  unfold heardOf activeOf
  unfold xaOf at ha
  cases hc : c.src [97] with
  | none =>
    rw [hc] at ha
    simp at ha
    refine ⟨?_, ?_⟩
    · show (-1 : Int) = most; omega
    · show false = _; rw [decide_eq_false (by omega)]
  | some x =>
    rw [hc] at ha
    split at ha
    · cases ha
    · rename_i hm
      simp at ha
      refine ⟨ha, ?_⟩
      show act c x = _
      rw [act_idle h.idle, decide_eq_true (by omega)]

set_option maxHeartbeats 2000000 in
set_option maxRecDepth 100000 in
theorem alone_any (slack : Int) (a : Option Addr) (len cap : Nat) (l : List Int) (w : World) (hl : l.length = len) (ha : IntsAt w w.heap.size a l) (hm : len ≤ 9223372036854775807) :
    Calls Try.prog 5 #[.int .i64 slack, .slice a len cap] w fun e w' => e = .returned (.bool true) ∧ Below w.heap.size w w' := by
  go_enter Try.func5, Try.ntmps5
  go_wp2_with fail
  refine (awake_any w).mono ?_
  rintro e w1 ⟨rfl, hb1⟩
  have ha1 := ha.below hb1
  clear ha
  by_cases g0 : 100 < len
  · go_wp2_with fail
    go_ret
    exact ⟨rfl, hb1⟩
  by_cases g1 : slack < 0
  · go_wp2_with fail
    go_ret
    exact ⟨rfl, hb1⟩
  by_cases g2 : 1099511627776 < slack
  · go_wp2_with fail
    go_ret
    exact ⟨rfl, hb1⟩
  go_wp2_with fail
  refine (new_any slack 0 w1).mono ?_
  rintro e w2 ⟨cb, mb, rfl, hc0, hb2, hcb, hmb⟩
  have t0 : Two (fresh slack 0) slack (mkOf slack (-1)) (xaOf (-1)) none := by
    have := Two.fresh slack
    rw [show bnd slack = slack from by unfold bnd; omega] at this
    have e1 : mkOf slack (-1) = -1 := by unfold mkOf; omega
    rw [e1]
    exact this
  have hB2 : Below w.heap.size w w2 := hb1.trans (hb2.mono hb1.size)
  have ha2 : IntsAt w2 w.heap.size a l := ha1.below (hb2.mono hb1.size)
  have p1 : w.heap.size ≤ cb := Nat.le_trans hb1.size hcb
  have p2 : w.heap.size ≤ mb := Nat.le_trans hb1.size hmb
  clear ha1 hb1 hb2 hcb hmb
  generalize fresh slack 0 = c00 at hc0 t0
  go_wp2_with fail
  go_loopw [6, 7] (fun m i wr => ∃ (k : Nat) (most : Int) (c : Ck), k ≤ len ∧ i = .int .i64 k ∧ m = .int .i64 most ∧ ClockAt wr cb mb k c ∧ Two c slack (mkOf slack most) (xaOf most) none ∧ Below w.heap.size w wr ∧ -1 ≤ most ∧ most ≤ 1099511627776) (fun _ i _ => len - (intOf i).toNat)
  case atStart => exact ⟨0, -1, _, Nat.zero_le _, rfl, rfl, hc0, t0, hB2, by omega, by omega⟩
  case round =>
    obtain ⟨k, most, c, hk, rfl, rfl, hc, htwo, hB, hmo, hmo2⟩ := hrel
    by_cases hlt : k < len
    · obtain ⟨x, hx⟩ : ∃ x, l[k]? = some x := ⟨l[k]'(by omega), List.getElem?_eq_getElem (by omega)⟩
      obtain ⟨⟨b, off, rfl, hbB, e0'⟩, hwf⟩ := ha2 k x hx
      have e0 : wr.cell? ⟨b, off + k, none⟩ = some (.int .i64 x) := ((hB.cell (p := ⟨b, off + k, none⟩) hbB).trans (hB2.cell (p := ⟨b, off + k, none⟩) hbB).symm).trans e0'
      clear hx ha2 hl hc0 t0 hB2 e0' hwf
      have hbw : b < wr.heap.size := Nat.lt_of_lt_of_le hbB hB.size
      have hk8 : (k : Int) < (len : Int) := by omega
      have hk9 : (0 : Int) ≤ (k : Int) := by omega
      have hmark : c.mark = mkOf slack most := htwo.mark
      have hblk := hc.blk
      have hcd : ClockAt wr.drew cb mb k c := ⟨hc.blk.drew, hc.map.drew, hc.ok⟩
      have hBd := hB.drew
      have e0d : wr.drew.cell? ⟨b, off + k, none⟩ = some (.int .i64 x) := e0
      by_cases hA : x < 0
      · have d0 : decide (0 ≤ x) = false := by simp; omega
        have HM := Lib.hid hmark
        clear hmark
        go_wp2_with fail
        refine wp_text [] (by kernel_rfl) (by kernel_rfl) ?_
        simp only [wpText]
        repeat ((with_reducible refine wpStill_step (fun K hK => ?_)); go_simp; refine hK _ ?_; clear hK K)
        with_reducible refine wpStill_nil ?_
        generalize wr.drew = wd at hcd hBd e0d ⊢
        go_wp2_with fail
        refine (hear_any cb mb k c ⟨#[97]⟩ x k wd hcd (by omega)).mono ?_
        rintro e w3 ⟨res, c', rfl, ht, h3, hk3⟩
        obtain ⟨rfl, t3⟩ := alone_late htwo (by omega) hmo ht (by rw [← HM.out]; omega)
        have hB3 : Below w.heap.size w w3 := hBd.trans (hk3.toBelow (fun i hi => by omega) hBd.size)
        have hm3 : c'.mark = mkOf slack most := t3.mark
        obtain ⟨hh, hac⟩ := alone_says t3 (by omega)
        have hmk : (c'.mark != max (-1) (most - slack - 1)) = false := by rw [hm3]; unfold mkOf; simp
        have HH := Lib.hid hh
        have HA := Lib.hid hac
        clear hh hac hm3 ht hk3 htwo hcd hBd e0d hc hB HM
        have b3 := h3.blk
        go_wp2_with fail
        refine (mark_any cb mb c' w3 b3).mono ?_
        rintro e w9 ⟨rfl, rfl⟩
        go_wp2_with fail
        refine (heard_any cb mb (k + 1) c' ⟨#[97]⟩ w3 h3 (by simp [maxLen]; decide)).mono ?_
        rintro e w4 ⟨rfl, hb4⟩
        rw [show (({ data := #[97] } : ByteArray).data.toList) = [97] from rfl, HH.out]
        have hq : (most != most) = false := by simp
        have h4 : ClockAt w4 cb mb (k + 1) c' := h3.kept (S := fun _ => False) ⟨hb4.os, hb4.tape, hb4.output, hb4.size, fun i hi _ => hb4.block i hi⟩ (by simp) (by simp)
        have hB4 : Below w.heap.size w w4 := hB3.trans (hb4.mono hB3.size)
        clear hb4 b3 h3 hB3
        go_wp2_with fail
        refine (active_says cb mb (k + 1) c' ⟨#[97]⟩ w4 h4 (by simp [maxLen]; decide)).mono ?_
        rintro e w5 ⟨rfl, hb5⟩
        rw [show (({ data := #[97] } : ByteArray).data.toList) = [97] from rfl, HA.out]
        have h5 : ClockAt w5 cb mb (k + 1) c' := h4.kept (S := fun _ => False) ⟨hb5.os, hb5.tape, hb5.output, hb5.size, fun i hi _ => hb5.block i hi⟩ (by simp) (by simp)
        have hB5 : Below w.heap.size w w5 := hB4.trans (hb5.mono hB4.size)
        clear hb5 h4 hB4
        have hz : (decide (0 ≤ most) != decide (0 ≤ most)) = false := by simp
        go_wp2_with fail
        go_roundw
        case rel => exact ⟨k + 1, most, c', by omega, by go_num, rfl, h5, t3, hB5, by omega, by omega⟩
        case measure => simp [intOf]; omega
      by_cases hC : 1099511627776 < x
      · have d0 : decide (0 ≤ x) = true := by simp; omega
        have d1 : decide (x ≤ 1099511627776) = false := by simp; omega
        have HM := Lib.hid hmark
        clear hmark
        go_wp2_with fail
        refine wp_text [] (by kernel_rfl) (by kernel_rfl) ?_
        simp only [wpText]
        repeat ((with_reducible refine wpStill_step (fun K hK => ?_)); go_simp; refine hK _ ?_; clear hK K)
        with_reducible refine wpStill_nil ?_
        generalize wr.drew = wd at hcd hBd e0d ⊢
        go_wp2_with fail
        refine (hear_any cb mb k c ⟨#[97]⟩ x k wd hcd (by omega)).mono ?_
        rintro e w3 ⟨res, c', rfl, ht, h3, hk3⟩
        obtain ⟨rfl, t3⟩ := alone_late htwo (by omega) hmo ht (by rw [← HM.out]; omega)
        have hB3 : Below w.heap.size w w3 := hBd.trans (hk3.toBelow (fun i hi => by omega) hBd.size)
        have hm3 : c'.mark = mkOf slack most := t3.mark
        obtain ⟨hh, hac⟩ := alone_says t3 (by omega)
        have hmk : (c'.mark != max (-1) (most - slack - 1)) = false := by rw [hm3]; unfold mkOf; simp
        have HH := Lib.hid hh
        have HA := Lib.hid hac
        clear hh hac hm3 ht hk3 htwo hcd hBd e0d hc hB HM
        have b3 := h3.blk
        go_wp2_with fail
        refine (mark_any cb mb c' w3 b3).mono ?_
        rintro e w9 ⟨rfl, rfl⟩
        go_wp2_with fail
        refine (heard_any cb mb (k + 1) c' ⟨#[97]⟩ w3 h3 (by simp [maxLen]; decide)).mono ?_
        rintro e w4 ⟨rfl, hb4⟩
        rw [show (({ data := #[97] } : ByteArray).data.toList) = [97] from rfl, HH.out]
        have hq : (most != most) = false := by simp
        have h4 : ClockAt w4 cb mb (k + 1) c' := h3.kept (S := fun _ => False) ⟨hb4.os, hb4.tape, hb4.output, hb4.size, fun i hi _ => hb4.block i hi⟩ (by simp) (by simp)
        have hB4 : Below w.heap.size w w4 := hB3.trans (hb4.mono hB3.size)
        clear hb4 b3 h3 hB3
        go_wp2_with fail
        refine (active_says cb mb (k + 1) c' ⟨#[97]⟩ w4 h4 (by simp [maxLen]; decide)).mono ?_
        rintro e w5 ⟨rfl, hb5⟩
        rw [show (({ data := #[97] } : ByteArray).data.toList) = [97] from rfl, HA.out]
        have h5 : ClockAt w5 cb mb (k + 1) c' := h4.kept (S := fun _ => False) ⟨hb5.os, hb5.tape, hb5.output, hb5.size, fun i hi _ => hb5.block i hi⟩ (by simp) (by simp)
        have hB5 : Below w.heap.size w w5 := hB4.trans (hb5.mono hB4.size)
        clear hb5 h4 hB4
        have hz : (decide (0 ≤ most) != decide (0 ≤ most)) = false := by simp
        go_wp2_with fail
        go_roundw
        case rel => exact ⟨k + 1, most, c', by omega, by go_num, rfl, h5, t3, hB5, by omega, by omega⟩
        case measure => simp [intOf]; omega
      by_cases hD : x ≤ c.mark
      · have d0 : decide (0 ≤ x) = true := by simp; omega
        have d1 : decide (x ≤ 1099511627776) = true := by simp; omega
        have d2 : decide (c.mark < x) = false := by simp; omega
        have HM := Lib.hid hmark
        clear hmark
        go_wp2_with fail
        refine wp_text [] (by kernel_rfl) (by kernel_rfl) ?_
        simp only [wpText]
        repeat ((with_reducible refine wpStill_step (fun K hK => ?_)); go_simp; refine hK _ ?_; clear hK K)
        with_reducible refine wpStill_step (fun K hK => ?_)
        go_simp
        refine ⟨_, still_of (mark_any cb mb c _ hblk.drew), hK _ ?_⟩
        clear hK K
        repeat ((with_reducible refine wpStill_step (fun K hK => ?_)); go_simp; refine hK _ ?_; clear hK K)
        with_reducible refine wpStill_nil ?_
        generalize wr.drew = wd at hcd hBd e0d ⊢
        go_wp2_with fail
        refine (hear_any cb mb k c ⟨#[97]⟩ x k wd hcd (by omega)).mono ?_
        rintro e w3 ⟨res, c', rfl, ht, h3, hk3⟩
        obtain ⟨rfl, t3⟩ := alone_late htwo (by omega) hmo ht (by rw [← HM.out]; omega)
        have hB3 : Below w.heap.size w w3 := hBd.trans (hk3.toBelow (fun i hi => by omega) hBd.size)
        have hm3 : c'.mark = mkOf slack most := t3.mark
        obtain ⟨hh, hac⟩ := alone_says t3 (by omega)
        have hmk : (c'.mark != max (-1) (most - slack - 1)) = false := by rw [hm3]; unfold mkOf; simp
        have HH := Lib.hid hh
        have HA := Lib.hid hac
        clear hh hac hm3 ht hk3 htwo hcd hBd e0d hc hB HM
        have b3 := h3.blk
        go_wp2_with fail
        refine (mark_any cb mb c' w3 b3).mono ?_
        rintro e w9 ⟨rfl, rfl⟩
        go_wp2_with fail
        refine (heard_any cb mb (k + 1) c' ⟨#[97]⟩ w3 h3 (by simp [maxLen]; decide)).mono ?_
        rintro e w4 ⟨rfl, hb4⟩
        rw [show (({ data := #[97] } : ByteArray).data.toList) = [97] from rfl, HH.out]
        have hq : (most != most) = false := by simp
        have h4 : ClockAt w4 cb mb (k + 1) c' := h3.kept (S := fun _ => False) ⟨hb4.os, hb4.tape, hb4.output, hb4.size, fun i hi _ => hb4.block i hi⟩ (by simp) (by simp)
        have hB4 : Below w.heap.size w w4 := hB3.trans (hb4.mono hB3.size)
        clear hb4 b3 h3 hB3
        go_wp2_with fail
        refine (active_says cb mb (k + 1) c' ⟨#[97]⟩ w4 h4 (by simp [maxLen]; decide)).mono ?_
        rintro e w5 ⟨rfl, hb5⟩
        rw [show (({ data := #[97] } : ByteArray).data.toList) = [97] from rfl, HA.out]
        have h5 : ClockAt w5 cb mb (k + 1) c' := h4.kept (S := fun _ => False) ⟨hb5.os, hb5.tape, hb5.output, hb5.size, fun i hi _ => hb5.block i hi⟩ (by simp) (by simp)
        have hB5 : Below w.heap.size w w5 := hB4.trans (hb5.mono hB4.size)
        clear hb5 h4 hB4
        have hz : (decide (0 ≤ most) != decide (0 ≤ most)) = false := by simp
        go_wp2_with fail
        go_roundw
        case rel => exact ⟨k + 1, most, c', by omega, by go_num, rfl, h5, t3, hB5, by omega, by omega⟩
        case measure => simp [intOf]; omega
      · have d0 : decide (0 ≤ x) = true := by simp; omega
        have d1 : decide (x ≤ 1099511627776) = true := by simp; omega
        have d2 : decide (c.mark < x) = true := by simp; omega
        have HM := Lib.hid hmark
        clear hmark
        go_wp2_with fail
        refine wp_text [] (by kernel_rfl) (by kernel_rfl) ?_
        simp only [wpText]
        repeat ((with_reducible refine wpStill_step (fun K hK => ?_)); go_simp; refine hK _ ?_; clear hK K)
        with_reducible refine wpStill_step (fun K hK => ?_)
        go_simp
        refine ⟨_, still_of (mark_any cb mb c _ hblk.drew), hK _ ?_⟩
        clear hK K
        repeat ((with_reducible refine wpStill_step (fun K hK => ?_)); go_simp; refine hK _ ?_; clear hK K)
        with_reducible refine wpStill_nil ?_
        generalize wr.drew = wd at hcd hBd e0d ⊢
        go_wp2_with fail
        refine (hear_any cb mb k c ⟨#[97]⟩ x k wd hcd (by omega)).mono ?_
        rintro e w3 ⟨res, c', rfl, ht, h3, hk3⟩
        obtain ⟨rfl, t3⟩ := alone_heard htwo (by omega) hmo ht ⟨by omega, by omega, by rw [← HM.out]; omega⟩
        have e3 : w3.cell? ⟨b, off + k, none⟩ = some (.int .i64 x) := (hk3.cell (p := ⟨b, off + k, none⟩) (Nat.lt_of_lt_of_le hbB hBd.size) (by simp; omega)).trans e0d
        have hB3 : Below w.heap.size w w3 := hBd.trans (hk3.toBelow (fun i hi => by omega) hBd.size)
        have hm3 : c'.mark = mkOf slack (max most x) := t3.mark
        obtain ⟨hh, hac⟩ := alone_says t3 (by omega)
        have hmk : (c'.mark != max (-1) ((max most x) - slack - 1)) = false := by rw [hm3]; unfold mkOf; simp
        have HH := Lib.hid hh
        have HA := Lib.hid hac
        clear hh hac hm3 ht hk3 htwo hcd hBd e0d hc hB HM
        have b3 := h3.blk
        go_wp2_with fail
        refine (mark_any cb mb c' w3 b3).mono ?_
        rintro e w9 ⟨rfl, rfl⟩
        go_wp2_with fail
        refine (heard_any cb mb (k + 1) c' ⟨#[97]⟩ w3 h3 (by simp [maxLen]; decide)).mono ?_
        rintro e w4 ⟨rfl, hb4⟩
        rw [show (({ data := #[97] } : ByteArray).data.toList) = [97] from rfl, HH.out]
        have hq : ((max most x) != (max most x)) = false := by simp
        have h4 : ClockAt w4 cb mb (k + 1) c' := h3.kept (S := fun _ => False) ⟨hb4.os, hb4.tape, hb4.output, hb4.size, fun i hi _ => hb4.block i hi⟩ (by simp) (by simp)
        have hB4 : Below w.heap.size w w4 := hB3.trans (hb4.mono hB3.size)
        clear hb4 b3 h3 hB3
        go_wp2_with fail
        refine (active_says cb mb (k + 1) c' ⟨#[97]⟩ w4 h4 (by simp [maxLen]; decide)).mono ?_
        rintro e w5 ⟨rfl, hb5⟩
        rw [show (({ data := #[97] } : ByteArray).data.toList) = [97] from rfl, HA.out]
        have h5 : ClockAt w5 cb mb (k + 1) c' := h4.kept (S := fun _ => False) ⟨hb5.os, hb5.tape, hb5.output, hb5.size, fun i hi _ => hb5.block i hi⟩ (by simp) (by simp)
        have hB5 : Below w.heap.size w w5 := hB4.trans (hb5.mono hB4.size)
        clear hb5 h4 hB4
        have hz : (decide (0 ≤ (max most x)) != decide (0 ≤ (max most x))) = false := by simp
        go_wp2_with fail
        go_roundw
        case rel => exact ⟨k + 1, (max most x), c', by omega, by go_num, rfl, h5, t3, hB5, by omega, by omega⟩
        case measure => simp [intOf]; omega
    · go_wp2_with fail
      go_ret
      exact ⟨rfl, hB⟩

end Go.Proofs.Ytanhiohalgeijaa
