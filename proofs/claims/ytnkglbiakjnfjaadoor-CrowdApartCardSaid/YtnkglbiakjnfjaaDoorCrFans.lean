/- The document's Fans. -/
import Derived.Test.YtnkglbiakjnfjaaDoorCrOwn
namespace Go.Proofs.YtnkglbiakjnfjaaDoor
open Go.Shelf Go.RowKit Go.Maps
set_option linter.unusedVariables false

/-- Who has a worth at an item, rising. -/
def FanO (l : List Rd) (i : ByteArray) (out : List ByteArray) : Prop := out.Pairwise ltN ∧ ∀ y, y ∈ out ↔ ∃ r ∈ l, r.e.item = i ∧ 0 < worthP r.e ∧ r.e.person = y
theorem FanO.off {l : List Rd} {i : ByteArray} {out : List ByteArray} (h : FanO l i out) {r : Rd} (hr : ¬ (r.e.item = i ∧ 0 < worthP r.e)) : FanO (l ++ [r]) i out := ⟨h.1, fun y => by
  rw [h.2 y]
  constructor
  · rintro ⟨x, hx, h1⟩; exact ⟨x, List.mem_append_left _ hx, h1⟩
  · rintro ⟨x, hx, h1, h2, h3⟩
    rcases List.mem_append.1 hx with hx | hx
    · exact ⟨x, hx, h1, h2, h3⟩
    · simp at hx; subst hx; exact absurd ⟨h1, h2⟩ hr⟩
theorem FanO.on {l : List Rd} {i : ByteArray} {out out' : List ByteArray} (h : FanO l i out) {r : Rd} (hr : r.e.item = i ∧ 0 < worthP r.e) (ho : out'.Pairwise ltN ∧ ∀ y, y ∈ out' ↔ y ∈ out ∨ y = r.e.person) : FanO (l ++ [r]) i out' := ⟨ho.1, fun y => by
  rw [ho.2 y, h.2 y]
  constructor
  · rintro (⟨x, hx, h1⟩ | rfl)
    · exact ⟨x, List.mem_append_left _ hx, h1⟩
    · exact ⟨r, by simp, hr.1, hr.2, rfl⟩
  · rintro ⟨x, hx, h1, h2, h3⟩
    rcases List.mem_append.1 hx with hx | hx
    · exact Or.inl ⟨x, hx, h1, h2, h3⟩
    · simp at hx; subst hx; exact Or.inr h3.symm⟩

set_option maxHeartbeats 2000000 in
set_option maxRecDepth 100000 in
theorem rfans_any (w : World) (B : Nat) (A : Option Addr) (n c : Nat) (xl : List Rd) (i : ByteArray) (hn : xl.length = n) (hr : RowIn w B 9 A n (xl.flatMap rdC)) (hB : B ≤ w.heap.size) (hb : n ≤ 1000) :
    Calls Tryd.prog 28 #[.slice A n c, .string i] w fun e w' => ∃ (m : Nat) (out : List ByteArray), e = .returned (.int .i64 m) ∧ m = out.length ∧ FanO xl i out ∧ Below w.heap.size w w' := by
  have HN := Lib.hid hn
  have HR := Lib.hid hr
  obtain ⟨w1, hw1⟩ : ∃ w1, w.alloc (.cells #[] 9) = w1 := ⟨_, rfl⟩
  have HO1 : Hid (w1.ownsRow w.heap.size 9 1 (.slice (some ⟨w.heap.size, 0, none⟩) 0 0) 0 []) := Lib.hid (by rw [← hw1]; exact own_empty _ _ _)
  have HB1 : Hid (Below w.heap.size w w1) := Lib.hid (by rw [← hw1]; exact (Below.refl _ _).alloc (Nat.le_refl _) _)
  clear hn hr
  go_enter Tryd.func28, Tryd.ntmps28
  go_wp2_with fail
  clear hw1
  go_loopw [5, 6] (fun v i' wr => ∃ (k m : Nat) (out : List ByteArray), k ≤ n ∧ m ≤ k ∧ i' = .int .i64 k ∧ Hid (out.length = m ∧ FanO (xl.take k) i out) ∧ Hid (wr.ownsRow w.heap.size 9 1 v m (out.map .string)) ∧ Hid (Below w.heap.size w wr)) (fun _ i _ => n - (intOf i).toNat)
  case atStart => exact ⟨0, 0, [], Nat.zero_le _, Nat.le_refl _, rfl, Lib.hid ⟨rfl, List.Pairwise.nil, fun y => by simp⟩, HO1, HB1⟩
  case round =>
    clear HO1 HB1
    obtain ⟨k, m, out, hk, hmk, rfl, hm, hrow, hbw⟩ := hrel
    obtain ⟨A5, c5, hq⟩ := own_shape hrow.out
    rw [hq] at hrow ⊢
    clear hq
    have hwz := hbw.out.size
    by_cases hlt : k < n
    · obtain ⟨x, hx⟩ : ∃ x, xl[k]? = some x := ⟨xl[k]'(by rw [HN.out]; exact hlt), List.getElem?_eq_getElem _⟩
      have HSN : Hid (xl.take (k + 1) = xl.take k ++ [x]) := Lib.hid (take_snoc hx)
      obtain ⟨g, o, rfl, hgB, hcl⟩ := rds_at HR.out (by omega)
      have HRK : Hid (∀ W, Below w.heap.size w W → RdAt W g (o + k * 9) x) := Lib.hid (fun W hW => (hcl k x hx).keep (fun j => hW.cell (p := ⟨g, j, none⟩) (by show g < _; omega)))
      obtain ⟨e0, e1, e2, e3, e4, e5, e6, e7, e8⟩ := HRK.out wr hbw.out
      have hk8 : (k : Int) < (n : Int) := by omega
      have hk9 : (0 : Int) ≤ (k : Int) := by omega
      clear hcl hx
      by_cases q1 : x.e.item = i
      rotate_left
      · have HS1 : Hid (out.length = m ∧ FanO (xl.take (k + 1)) i out) := Lib.hid ⟨hm.out.1, by rw [HSN.out]; exact hm.out.2.off (fun h => q1 h.1)⟩
        have s1 := str_f q1
        clear q1 HSN
        go_wp2_with fail
        go_roundw
        case rel => exact ⟨k + 1, m, out, by omega, by omega, by go_num, HS1, hrow, hbw⟩
        case measure => simp [intOf]; omega
      have s1 := str_t q1
      have HQ1 := Lib.hid q1
      clear q1
      have HWO := Lib.hid (rworth_any x.e wr)
      unfold evA at HWO
      obtain ⟨wv, hwv⟩ : ∃ wv, worthP x.e = wv := ⟨_, rfl⟩
      rw [hwv] at HWO
      go_wp2_with fail
      refine HWO.out.mono ?_
      rintro e w5 ⟨rfl, hb5⟩
      have HB5 : Hid (Below w.heap.size w w5) := Lib.hid (hbw.out.trans (hb5.mono hbw.out.size))
      have HO5 : Hid (w5.ownsRow w.heap.size 9 1 (.slice A5 m c5) m (out.map .string)) := Lib.hid (owns_kept hrow.out (below_kept (S := fun _ => False) hb5 (Nat.le_refl _)) (fun _ _ h => h))
      have hz5 := HB5.out.size
      have HPU := Lib.hid (rput_any w5 A5 out m c5 x.e.person w.heap.size hm.out.1 HO5.out hz5 hm.out.2.1 (by omega))
      clear e0 e1 e2 e3 e4 e5 e6 e7 e8
      obtain ⟨e0, e1, e2, e3, e4, e5, e6, e7, e8⟩ := HRK.out w5 HB5.out
      clear hb5 HWO
      by_cases q2 : 0 < wv
      rotate_left
      · have HS1 : Hid (out.length = m ∧ FanO (xl.take (k + 1)) i out) := Lib.hid ⟨hm.out.1, by rw [HSN.out]; exact hm.out.2.off (fun h => q2 (by rw [← hwv]; exact h.2))⟩
        have s2 : decide (0 < wv) = false := decide_eq_false q2
        clear HSN hwv HPU
        go_wp2_with fail
        go_roundw
        case rel => exact ⟨k + 1, m, out, by omega, by omega, by go_num, HS1, HO5, HB5⟩
        case measure => simp [intOf]; omega
      have HQ2 : Hid (x.e.item = i ∧ 0 < worthP x.e) := Lib.hid ⟨HQ1.out, by rw [hwv]; exact q2⟩
      have s2 : decide (0 < wv) = true := decide_eq_true q2
      clear hwv
      go_wp2_with fail
      refine HPU.out.mono ?_
      rintro e w6 ⟨A6, c6, out', rfl, ho6, hm6, hl6, hb6⟩
      obtain ⟨m6, hm6'⟩ : ∃ m6, out'.length = m6 := ⟨_, rfl⟩
      rw [hm6'] at ho6 hl6 ⊢
      have HO6 := Lib.hid ho6
      have HB6 : Hid (Below w.heap.size w w6) := Lib.hid (HB5.out.trans (hb6.mono hz5))
      have HS1 : Hid (out'.length = m6 ∧ FanO (xl.take (k + 1)) i out') := Lib.hid ⟨hm6', by rw [HSN.out]; exact hm.out.2.on HQ2.out hm6⟩
      clear ho6 hm6 hb6 hm6' HPU e0 e1 e2 e3 e4 e5 e6 e7 e8
      go_wp2_with fail
      go_roundw
      case rel => exact ⟨k + 1, m6, out', by omega, by omega, by go_num, HS1, HO6, HB6⟩
      case measure => simp [intOf]; omega
    · obtain rfl : n = k := by omega
      have hta : xl.take n = xl := by rw [← HN.out, List.take_length]
      rw [hta] at hm
      go_wp2_with fail
      go_ret
      exact ⟨m, out, rfl, hm.out.1.symm, hm.out.2, hbw.out⟩

end Go.Proofs.YtnkglbiakjnfjaaDoor
