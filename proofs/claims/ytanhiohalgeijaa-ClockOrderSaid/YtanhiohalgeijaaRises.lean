/- ClockRises: neither the mark nor now ever falls; whatever is heard was above the mark; the mark stays below the greatest tick heard. For every input. -/
import Derived.Test.YtanhiohalgeijaaActs
namespace Go.Proofs.Ytanhiohalgeijaa
open Go.RowKit Go.Maps Go.Lib Go.Shelf
set_option linter.unusedVariables false

/-- No source has come farther than most, and the mark lies below it. -/
def Inv (c : Ck) (most : Int) : Prop := (∀ s x, c.src s = some x → x.1 ≤ most) ∧ (0 ≤ c.mark → c.mark < most)

theorem Inv.rose {c c' : Ck} {most : Int} (h : Inv c most) (h0 : 0 ≤ c.slack) (hr : Rose c c') : Inv c' most ∧ c.mark ≤ c'.mark ∧ c.now ≤ c'.now ∧ c'.now = c.now := by
  obtain ⟨m, any, ht, rfl⟩ := hr
  rcases ht with ⟨rfl, _, _⟩ | ⟨rfl, ⟨s, x, hs, _, rfl⟩, _⟩
  · exact ⟨⟨h.1, fun hz => h.2 (by simpa using hz)⟩, by simp, Int.le_refl _, rfl⟩
  · have := h.1 s x hs
    refine ⟨⟨h.1, fun hz => ?_⟩, by simp; omega, Int.le_refl _, rfl⟩
    have h2 := h.2
    simp only [if_true] at hz ⊢
    omega

theorem Inv.ticked {c c' : Ck} {most now : Int} (h : Inv c most) (h0 : 0 ≤ c.slack) (hr : Ticked c now c') : Inv c' most ∧ c.mark ≤ c'.mark ∧ c.now ≤ c'.now := by
  have := Inv.rose (c := { c with now := max c.now (bnd now) }) (most := most) ⟨h.1, h.2⟩ h0 hr
  refine ⟨this.1, this.2.1, ?_⟩
  have h3 := this.2.2.1
  simp only at h3
  omega

theorem Rose.same {c c' : Ck} (h : Rose c c') : c'.slack = c.slack ∧ c'.idle = c.idle ∧ c'.now = c.now ∧ c'.src = c.src ∧ c.mark ≤ c'.mark := by
  obtain ⟨m, any, _, rfl⟩ := h
  refine ⟨rfl, rfl, rfl, rfl, ?_⟩
  cases any <;> simp
  omega
theorem Ticked.same {c c' : Ck} {now : Int} (h : Ticked c now c') : c'.slack = c.slack ∧ c'.idle = c.idle ∧ c'.now = max c.now (bnd now) ∧ c'.src = c.src ∧ c.mark ≤ c'.mark := Rose.same h

theorem Inv.heard {c : Ck} {most at_ : Int} {s : ByteArray} (h : Inv c most) (h0 : 0 ≤ at_) : Inv (Heard' c s at_) (max most at_) := by
  refine ⟨fun k x hx => ?_, fun hz => by have := h.2 hz; show c.mark < _; omega⟩
  simp only [Heard', put] at hx
  split at hx
  · cases hx
    show max _ at_ ≤ _
    cases hc : c.src s.data.toList with
    | none => simp; omega
    | some y => have := h.1 _ y hc; simp; omega
  · have := h.1 k x hx
    omega

theorem Inv.hears {c c' : Ck} {most at_ now : Int} {s : ByteArray} {res : Bool} (h : Inv c most) (h0 : 0 ≤ c.slack) (hr : Hears c s at_ now res c') :
    Inv c' (if res then max most at_ else most) ∧ c.mark ≤ c'.mark ∧ c.now ≤ c'.now ∧ (res = true → c.mark < at_ ∧ 0 ≤ at_ ∧ at_ ≤ 1099511627776) := by
  obtain ⟨c1, ht, hc⟩ := hr
  obtain ⟨i1, m1, n1⟩ := h.ticked h0 ht
  have hs := ht.same
  rcases hc with ⟨rfl, rfl, _⟩ | ⟨rfl, hf, hro⟩
  · exact ⟨i1, m1, n1, fun h => by cases h⟩
  · have i2 := (i1.heard (s := s) (at_ := at_) hf.2.1).rose (by show 0 ≤ c1.slack; rw [hs.1]; exact h0) hro
    have e1 := hro.same
    refine ⟨i2.1, ?_, ?_, fun _ => ⟨?_, hf.2.1, hf.2.2.1⟩⟩
    · have : c1.mark ≤ c'.mark := e1.2.2.2.2
      omega
    · have : c'.now = c1.now := e1.2.2.1
      omega
    · have := hf.2.2.2; omega

set_option maxHeartbeats 4000000 in
set_option maxRecDepth 100000 in
theorem rises_any (slack idle : Int) (a : Option Addr) (len cap : Nat) (l : List ActD) (w : World) (hl : l.length = len) (ha : ActsAt w w.heap.size a l) (hm : len ≤ 9223372036854775807) :
    Calls Try.prog 3 #[.int .i64 slack, .int .i64 idle, .slice a len cap] w fun e w' => e = .returned (.bool true) ∧ Below w.heap.size w w' := by
  go_enter Try.func3, Try.ntmps3
  go_wp2_with fail
  refine (awake_any w).mono ?_
  rintro e w1 ⟨rfl, hb1⟩
  have ha1 := ha.below hb1
  clear ha
  go_wp2_with fail
  refine (few_any a len cap w.heap.size l w1 hl ha1 hm).mono ?_
  rintro e w1' ⟨r, rfl, hr, rfl⟩
  cases r
  · clear hr
    go_wp2_with fail
    go_ret
    exact ⟨rfl, hb1⟩
  · have hlen := hr rfl
    clear hr
    go_wp2_with fail
    refine (new_any slack idle w1).mono ?_
    rintro e w2 ⟨cb, mb, rfl, h0, hb2, hcb, hmb⟩
    have hB2 : Below w.heap.size w w2 := hb1.trans (hb2.mono hb1.size)
    have hcb' : w.heap.size ≤ cb := Nat.le_trans hb1.size hcb
    have hmb' : w.heap.size ≤ mb := Nat.le_trans hb1.size hmb
    have ha2 : ActsAt w2 w.heap.size a l := ha1.below (hb2.mono hb1.size)
    have hi0 : Inv (fresh slack idle) (-1) := ⟨fun s x hx => (by cases hx), fun hz => absurd hz (by show ¬ (0 : Int) ≤ -1; omega)⟩
    clear ha1 hb1 hb2 hcb hmb
    generalize fresh slack idle = c00 at h0 hi0
    go_wp2_with fail
    go_loopw [8, 9] (fun m i wr => ∃ (k : Nat) (most : Int) (c : Ck), k ≤ len ∧ i = .int .i64 k ∧ m = .int .i64 most ∧ ClockAt wr cb mb k c ∧ Inv c most ∧ Below w.heap.size w wr ∧ -1 ≤ most ∧ most ≤ 1099511627776) (fun _ i _ => len - (intOf i).toNat)
    case atStart => exact ⟨0, -1, _, Nat.zero_le _, rfl, rfl, h0, hi0, hB2, by omega, by omega⟩
    case round =>
      obtain ⟨k, most, c, hk, rfl, rfl, hc, hinv, hB, hmo, hmo2⟩ := hrel
      by_cases hlt : k < len
      · obtain ⟨x, hx⟩ : ∃ x, l[k]? = some x := ⟨l[k]'(by omega), List.getElem?_eq_getElem (by omega)⟩
        have haw : ActsAt wr w.heap.size a l := by
          intro i y hy
          obtain ⟨b, off, e1, e2, d0, d1, d2, d3⟩ := ha2 i y hy
          have tr : ∀ o, wr.cell? ⟨b, o, none⟩ = w2.cell? ⟨b, o, none⟩ := fun o => (hB.cell (p := ⟨b, o, none⟩) e2).trans (hB2.cell (p := ⟨b, o, none⟩) e2).symm
          exact ⟨b, off, e1, e2, (tr _).trans d0, (tr _).trans d1, (tr _).trans d2, (tr _).trans d3⟩
        obtain ⟨b, off, rfl, hbB, c0, c1, c2, c3⟩ := haw k x hx
        clear hx haw ha2 hl h0 hi0 hB2
        have hbw : b < wr.heap.size := Nat.lt_of_lt_of_le hbB hB.size
        have hs0 := hc.ok.s0
        have hk8 : (k : Int) < (len : Int) := by omega
        have hk9 : (0 : Int) ≤ (k : Int) := by omega
        go_wp2_with fail
        refine (mark_any cb mb c wr hc.blk).mono ?_
        rintro e w9 ⟨rfl, rfl⟩
        go_wp2_with fail
        refine (now_any cb mb c wr hc.blk).mono ?_
        rintro e w9 ⟨rfl, rfl⟩
        by_cases hkd : x.kind = 0
        · have hkb : (x.kind == 0) = true := by simpa using hkd
          clear hkd
          go_wp2_with fail
          refine (tick_any cb mb k c x.now wr hc).mono ?_
          rintro e w3 ⟨c', rfl, ht, h3, hk3⟩
          obtain ⟨i3, m3, n3⟩ := hinv.ticked hs0 ht
          have hB4 : Below w.heap.size w w3 := hB.trans (hk3.toBelow (fun i hi => by omega) hB.size)
          clear ht hk3 hinv hB
          go_wp2_with fail
          refine (mark_any cb mb c' w3 h3.blk).mono ?_
          rintro e w9 ⟨rfl, rfl⟩
          have hB3 : Below w.heap.size w w3 := hB4
          have hInv := i3
          have mm : c.mark ≤ c'.mark := m3
          have nn : c.now ≤ c'.now := n3
          obtain ⟨iv1, iv2⟩ := hInv
          have HI := Lib.hid iv1
          clear iv1
          have hblk := h3.blk
          have hok := h3.ok
          have hok1 := hok.m0
          have hok2 := hok.m1
          have HCK := Lib.hid h3
          clear h3
          go_wp2_with fail
          refine (mark_any cb mb c' w3 hblk).mono ?_
          rintro e w9 ⟨rfl, rfl⟩
          by_cases hz : 0 ≤ c'.mark
          · have hz2 := iv2 hz
            go_wp2_with fail
            refine (now_any cb mb c' w3 hblk).mono ?_
            rintro e w9 ⟨rfl, rfl⟩
            go_wp2_with fail
            refine (mark_any cb mb c' w3 hblk).mono ?_
            rintro e w9 ⟨rfl, rfl⟩
            go_wp2_with fail
            refine (mark_any cb mb c' w3 hblk).mono ?_
            rintro e w9 ⟨rfl, rfl⟩
            go_wp2_with fail
            go_roundw
            case rel => exact ⟨k + 1, most, c', by omega, by go_num, rfl, ⟨HCK.out.blk, HCK.out.map.mono (by omega), HCK.out.ok⟩, ⟨HI.out, iv2⟩, hB3, by omega, by omega⟩
            case measure => simp [intOf]; omega
          · go_wp2_with fail
            refine (now_any cb mb c' w3 hblk).mono ?_
            rintro e w9 ⟨rfl, rfl⟩
            go_wp2_with fail
            refine (mark_any cb mb c' w3 hblk).mono ?_
            rintro e w9 ⟨rfl, rfl⟩
            go_wp2_with fail
            go_roundw
            case rel => exact ⟨k + 1, most, c', by omega, by go_num, rfl, ⟨HCK.out.blk, HCK.out.map.mono (by omega), HCK.out.ok⟩, ⟨HI.out, iv2⟩, hB3, by omega, by omega⟩
            case measure => simp [intOf]; omega
        · have hkb : (x.kind == 0) = false := by simpa using hkd
          clear hkd
          go_wp2_with fail
          refine wp_tail 16 (by kernel_rfl) (by kernel_rfl) ?_
          simp only [List.take_succ_cons, List.take_zero, List.drop_succ_cons, List.drop_zero]
          repeat still_step
          refine wpStill_nil ?_
          go_wp2_with fail
          have hc' : ClockAt wr.drew cb mb k c := ⟨hc.blk.drew, hc.map.drew, hc.ok⟩
          refine (hear_any cb mb k c x.name x.at_ x.now wr.drew hc' (by omega)).mono ?_
          rintro e w3 ⟨res, c', rfl, ht, h3, hk3⟩
          obtain ⟨i3, m3, n3, b3⟩ := hinv.hears hs0 ht
          have hB4 : Below w.heap.size w w3 := hB.drew.trans (hk3.toBelow (fun i hi => by omega) hB.size)
          have d2 : w3.cell? ⟨b, off + k * 4 + 2, none⟩ = some (.int .i64 x.at_) := (hk3.cell (p := ⟨b, off + k * 4 + 2, none⟩) hbw (by simp; omega)).trans c2
          clear ht hk3 hinv hc' hB
          cases res
          · simp only [Bool.false_eq_true, if_false] at i3
            clear b3
            have hB3 : Below w.heap.size w w3 := hB4
            have hInv := i3
            have mm : c.mark ≤ c'.mark := m3
            have nn : c.now ≤ c'.now := n3
            obtain ⟨iv1, iv2⟩ := hInv
            have HI := Lib.hid iv1
            clear iv1
            have hblk := h3.blk
            have hok := h3.ok
            have hok1 := hok.m0
            have hok2 := hok.m1
            have HCK := Lib.hid h3
            clear h3
            go_wp2_with fail
            refine (mark_any cb mb c' w3 hblk).mono ?_
            rintro e w9 ⟨rfl, rfl⟩
            by_cases hz : 0 ≤ c'.mark
            · have hz2 := iv2 hz
              go_wp2_with fail
              refine (now_any cb mb c' w3 hblk).mono ?_
              rintro e w9 ⟨rfl, rfl⟩
              go_wp2_with fail
              refine (mark_any cb mb c' w3 hblk).mono ?_
              rintro e w9 ⟨rfl, rfl⟩
              go_wp2_with fail
              refine (mark_any cb mb c' w3 hblk).mono ?_
              rintro e w9 ⟨rfl, rfl⟩
              go_wp2_with fail
              go_roundw
              case rel => exact ⟨k + 1, most, c', by omega, by go_num, rfl, HCK.out, ⟨HI.out, iv2⟩, hB3, by omega, by omega⟩
              case measure => simp [intOf]; omega
            · go_wp2_with fail
              refine (now_any cb mb c' w3 hblk).mono ?_
              rintro e w9 ⟨rfl, rfl⟩
              go_wp2_with fail
              refine (mark_any cb mb c' w3 hblk).mono ?_
              rintro e w9 ⟨rfl, rfl⟩
              go_wp2_with fail
              go_roundw
              case rel => exact ⟨k + 1, most, c', by omega, by go_num, rfl, HCK.out, ⟨HI.out, iv2⟩, hB3, by omega, by omega⟩
              case measure => simp [intOf]; omega
          · simp only [if_true] at i3
            obtain ⟨b31, b32, b33⟩ := b3 rfl
            clear b3
            have hB3 : Below w.heap.size w w3 := hB4
            have hInv := i3
            have mm : c.mark ≤ c'.mark := m3
            have nn : c.now ≤ c'.now := n3
            obtain ⟨iv1, iv2⟩ := hInv
            have HI := Lib.hid iv1
            clear iv1
            have hblk := h3.blk
            have hok := h3.ok
            have hok1 := hok.m0
            have hok2 := hok.m1
            have HCK := Lib.hid h3
            clear h3
            go_wp2_with fail
            refine (mark_any cb mb c' w3 hblk).mono ?_
            rintro e w9 ⟨rfl, rfl⟩
            by_cases hz : 0 ≤ c'.mark
            · have hz2 := iv2 hz
              go_wp2_with fail
              refine (now_any cb mb c' w3 hblk).mono ?_
              rintro e w9 ⟨rfl, rfl⟩
              go_wp2_with fail
              refine (mark_any cb mb c' w3 hblk).mono ?_
              rintro e w9 ⟨rfl, rfl⟩
              go_wp2_with fail
              refine (mark_any cb mb c' w3 hblk).mono ?_
              rintro e w9 ⟨rfl, rfl⟩
              go_wp2_with fail
              go_roundw
              case rel => exact ⟨k + 1, (max most x.at_), c', by omega, by go_num, rfl, HCK.out, ⟨HI.out, iv2⟩, hB3, by omega, by omega⟩
              case measure => simp [intOf]; omega
            · go_wp2_with fail
              refine (now_any cb mb c' w3 hblk).mono ?_
              rintro e w9 ⟨rfl, rfl⟩
              go_wp2_with fail
              refine (mark_any cb mb c' w3 hblk).mono ?_
              rintro e w9 ⟨rfl, rfl⟩
              go_wp2_with fail
              go_roundw
              case rel => exact ⟨k + 1, (max most x.at_), c', by omega, by go_num, rfl, HCK.out, ⟨HI.out, iv2⟩, hB3, by omega, by omega⟩
              case measure => simp [intOf]; omega
      · go_wp2_with fail
        go_ret
        exact ⟨rfl, hB⟩

end Go.Proofs.Ytanhiohalgeijaa
