/- BasketPairs: the walk. -/
import Derived.Test.YtcgangmmehbdoaaDoorPairs
import Derived.Test.YtcgangmmehbdoaaDoorRPairs
namespace Go.Proofs.YtcgangmmehbdoaaDoor
open Go.Shelf Go.RowKit Go.Maps
set_option linter.unusedVariables false

def itemsE (l : List Ev) : List ByteArray := l.map (·.item)
theorem thP_item {l : List Ev} {p : ByteArray} {fr tt : Int} {h : ByteArray × Int} (hh : h ∈ thP l p fr tt) : h.1 ∈ itemsE l := by
  have h1 : (sinP (thP l p fr tt) h.1).isSome = true := by
    unfold sinP
    rw [Option.isSome_map, List.find?_isSome]
    exact ⟨h, hh, by simp⟩
  rw [sin_thP] at h1
  obtain ⟨t, ht⟩ := Option.isSome_iff_exists.1 h1
  obtain ⟨⟨e, he, hi, _⟩, _⟩ := bas_some.1 ht
  exact List.mem_map.2 ⟨e, (ownB_mem.1 he).1, hi⟩
theorem rBs_item {l : List Ev} {g : Int} {ps : List ByteArray} : ∀ hs ∈ rBs l g ps, ∀ h ∈ hs, h.1 ∈ itemsE l := by
  intro hs h1 h h2
  unfold rBs at h1
  obtain ⟨p, _, hp⟩ := List.mem_flatMap.1 h1
  unfold rB1 at hp
  obtain ⟨iv, _, rfl⟩ := List.mem_map.1 hp
  exact thP_item h2
theorem nC_item {l : List Ev} {g : Int} {D ps : List ByteArray} (hD : IsPpl l D) (hp : IsPpl l ps) {x y : ByteArray} (h : nC (BD g l D) x y ≠ 0) : x ∈ itemsE l ∧ y ∈ itemsE l := by
  rw [BD_C hD hp, ← rC_is] at h
  obtain ⟨⟨hs, h1, q, h2, rfl⟩, hs', h3, q', h4, rfl⟩ := rC_mem h
  exact ⟨rBs_item hs h1 q h2, rBs_item hs' h3 q' h4⟩

/-- Two rows of pairs that are one. -/
def PrsTwo (W : World) (Aa Ab : Option Addr) (k : Nat) (l : List Pr) : Prop := ∀ i x, i < k → l[i]? = some x → ∃ g o g2 o2, Aa = some ⟨g, o, none⟩ ∧ Ab = some ⟨g2, o2, none⟩ ∧
  ∀ W', Below W.heap.size W W' → (World.cell? W' ⟨g, o + i * 3, none⟩ = some (.string x.1.1) ∧ World.cell? W' ⟨g, o + i * 3 + 1, none⟩ = some (.string x.1.2) ∧ World.cell? W' ⟨g, o + i * 3 + 2, none⟩ = some (.int .i64 x.2)) ∧ World.cell? W' ⟨g2, o2 + i * 3, none⟩ = some (.string x.1.1) ∧ World.cell? W' ⟨g2, o2 + i * 3 + 1, none⟩ = some (.string x.1.2) ∧ World.cell? W' ⟨g2, o2 + i * 3 + 2, none⟩ = some (.int .i64 x.2)
theorem prs_two {W : World} {Aa Ab : Option Addr} {k n : Nat} {l : List Pr} (h1 : RowIn W W.heap.size 3 Aa k ((l.take k).flatMap prC)) (h2 : RowIn W W.heap.size 3 Ab n ((l.take n).flatMap prC)) (hk : k ≤ n) : PrsTwo W Aa Ab k l := by
  intro i x hi hx
  obtain ⟨g, o, hA, hg, hc⟩ := prs_at h1 (by omega)
  obtain ⟨g2, o2, hA2, hg2, hc2⟩ := prs_at h2 (by omega)
  have t1 := hc i x (by rw [List.getElem?_take, if_pos hi]; exact hx)
  have t2 := hc2 i x (by rw [List.getElem?_take, if_pos (by omega)]; exact hx)
  refine ⟨g, o, g2, o2, hA, hA2, fun W' hW => ⟨⟨?_, ?_, ?_⟩, ?_, ?_, ?_⟩⟩
  · exact (hW.cell (p := ⟨g, o + i * 3, none⟩) hg).trans t1.1
  · exact (hW.cell (p := ⟨g, o + i * 3 + 1, none⟩) hg).trans t1.2.1
  · exact (hW.cell (p := ⟨g, o + i * 3 + 2, none⟩) hg).trans t1.2.2
  · exact (hW.cell (p := ⟨g2, o2 + i * 3, none⟩) hg2).trans t2.1
  · exact (hW.cell (p := ⟨g2, o2 + i * 3 + 1, none⟩) hg2).trans t2.2.1
  · exact (hW.cell (p := ⟨g2, o2 + i * 3 + 2, none⟩) hg2).trans t2.2.2

set_option maxHeartbeats 4000000 in
set_option maxRecDepth 100000 in
theorem basketPairs_walk (gap : Int) (A : Option Addr) (n c : Nat) (l : List Ev) (fl m : Int) (w : World) (ha : EvArg w A n c l) (hg : GlobAt w) :
    Calls Tryd.prog 6 #[.int .i64 gap, .slice A n c, .int .i64 fl, .int .i64 m] w fun e w' => e = .returned (.bool true) ∧ Below w.heap.size w w' := by
  have HLG := Lib.hid (long_any w A l n c ha)
  obtain ⟨hn, hl, hnb, hnil, hbd⟩ := ha
  have HN := Lib.hid hn
  have HL := Lib.hid hl
  have HG := Lib.hid hg
  clear hn hl hbd hg
  go_enter Tryd.func6, Tryd.ntmps6
  go_wp2_with fail
  refine HLG.out.mono ?_
  rintro e w1 ⟨bl, rfl, hbl, hb1⟩
  have HB1 := Lib.hid hb1
  have HW1 := Lib.hid (awake_any w1 (HG.out.keep hb1 (Nat.le_refl _)))
  clear HLG hb1
  cases bl
  rotate_left
  · go_wp2_with fail
    refine HW1.out.mono ?_
    rintro e w2 ⟨rfl, hb2⟩
    have HB2 : Hid (Below w.heap.size w w2) := Lib.hid (HB1.out.trans (hb2.mono HB1.out.size))
    go_wp2_with fail
    go_ret
    exact ⟨rfl, HB2.out⟩
  obtain ⟨h30, hsm⟩ := hbl rfl
  have HSM := Lib.hid hsm
  clear hbl hsm
  have HO1 := Lib.hid (of_any gap A l n c w1 w.heap.size HN.out (HL.out.below HB1.out) HB1.out.size (by omega) (fun e he => (HSM.out e he).sh) (HG.out.keep HB1.out (Nat.le_refl _)))
  clear HW1
  go_wp2_with fail
  refine HO1.out.mono ?_
  rintro e w5 ⟨bb, D, rfl, hD, hlD, hk5, hb5⟩
  have HB5 : Hid (Below w.heap.size w w5) := Lib.hid (HB1.out.trans (hb5.mono HB1.out.size))
  have HK5 := Lib.hid hk5
  have HD := Lib.hid hD
  have HBS := Lib.hid (rbaskets_any w5 w.heap.size A l n c gap HN.out (HL.out.below HB5.out) HB5.out.size (by omega) (fun e he => (HSM.out e he).sh))
  clear HO1 hk5 hb5 hD hlD
  go_wp2_with fail
  refine HBS.out.mono ?_
  rintro e w6 ⟨ps, A6, c6, hps, rfl, hh6, hl6, hb6⟩
  have HB6 : Hid (Below w.heap.size w w6) := Lib.hid (HB5.out.trans (hb6.mono HB5.out.size))
  have HPS := Lib.hid hps
  have HIL : Hid ((itemsE l).length ≤ 100) := Lib.hid (by unfold itemsE; rw [List.length_map, HN.out]; omega)
  have HRP := Lib.hid (rpairs_any w6 _ A6 (rBs l (clampG gap) ps) _ c6 fl (itemsE l) rfl hh6 (by omega) (rBs_lb _ _ _ (by rw [HN.out]; omega)) rBs_item HIL.out)
  have HK6 := Lib.hid (HK5.out.below hb6)
  clear HBS hps hh6 hl6 hb6 HK5
  go_wp2_with fail
  refine HRP.out.mono ?_
  rintro e w7 ⟨A7, n7, c7, out, rfl, hln, hn7, ho7, hip7, hb7⟩
  have HB7 : Hid (Below w.heap.size w w7) := Lib.hid (HB6.out.trans (hb7.mono HB6.out.size))
  have HO7 := Lib.hid ho7
  have HI7 : Hid (IsPairs (nC (BD (clampG gap) l D)) fl out) := Lib.hid (hip7.congr (fun x y => by rw [BD_C HD.out HPS.out, rC_is]))
  have HLN := Lib.hid hln
  have HPA := Lib.hid (pairs_any w7 bb _ (BD (clampG gap) l D) fl m (itemsE l) (HK6.out.below hb7) (fun x y h => nC_item HD.out HPS.out h) (fun x hx => by
    obtain ⟨e, he, rfl⟩ := List.mem_map.1 hx
    have := (HSM.out e he).sh.2.2.1
    unfold maxLen; omega) (by have := HIL.out; omega))
  clear HRP ho7 hip7 hb7 hln HK6
  go_wp2_with fail
  refine HPA.out.mono ?_
  rintro e w8 ⟨A8, c8, k, l8, rfl, hi8, hk8, hl8, hr8, hb8⟩
  obtain rfl : l8 = out := hi8.one HI7.out
  rw [HLN.out] at hk8
  have hkn : k ≤ n7 := by omega
  have hq1 : min (max m 0) (n7 : Int) = (k : Int) := hk8.symm
  have hq2 : ((k : Int) != (k : Int)) = false := by simp
  have HB8 : Hid (Below w.heap.size w w8) := Lib.hid (HB7.out.trans (hb8.mono HB7.out.size))
  have HTW : Hid (PrsTwo w8 A8 A7 k l8) := Lib.hid (prs_two hr8 (n := n7) (by rw [show l8.take n7 = l8 from by rw [← HLN.out, List.take_length]]; exact ((RowIn.of_own HO7.out).below hb8).more hb8.size) hkn)
  have HLEN : Hid (k ≤ l8.length) := Lib.hid (by rw [HLN.out]; exact hkn)
  have HB0 : Hid (Below w8.heap.size w8 w8) := Lib.hid (Below.refl _ _)
  clear HPA hi8 hk8 hl8 hr8 hb8
  go_wp2_with fail
  clear hq1
  go_loopw [40] (fun i wr => ∃ q : Nat, q ≤ k ∧ i = .int .i64 q ∧ Hid (Below w8.heap.size w8 wr)) (fun i _ => k - (intOf i).toNat)
  case atStart => exact ⟨0, Nat.zero_le _, rfl, HB0⟩
  case round =>
    clear HB0
    obtain ⟨q, hq, rfl, hbw⟩ := hrel
    have hwz := hbw.out.size
    by_cases hlt : q < k
    · obtain ⟨x, hx⟩ : ∃ x, l8[q]? = some x := ⟨l8[q]'(by have := HLEN.out; omega), List.getElem?_eq_getElem _⟩
      obtain ⟨g, o, g2, o2, e1, e2, h3⟩ := HTW.out q x hlt hx
      obtain ⟨⟨y0, y1, y2⟩, y3, y4, y5⟩ := h3 wr hbw.out
      subst e1 e2
      have hk8 : (q : Int) < (k : Int) := by omega
      have hk9 : (0 : Int) ≤ (q : Int) := by omega
      have hk7 : (q : Int) < (n7 : Int) := by omega
      clear hx h3
      go_wp2_with fail
      go_quiet (fail)
      have HQ : Hid (Below w8.heap.size w8 (wr.drewN nq)) := Lib.hid (below_drewN hbw.out _)
      go_wp2_with fail
      go_roundw
      case rel => exact ⟨q + 1, by omega, by go_num, HQ⟩
      case measure => simp [intOf]; omega
    · have HBW : Hid (Below w.heap.size w wr) := Lib.hid (HB8.out.trans (hbw.out.mono HB8.out.size))
      have HAW := Lib.hid (awake_any wr (HG.out.keep HBW.out (Nat.le_refl _)))
      go_wp2_with fail
      refine HAW.out.mono ?_
      rintro e w9 ⟨rfl, hb9⟩
      have HB9 : Hid (Below w.heap.size w w9) := Lib.hid (HBW.out.trans (hb9.mono HBW.out.size))
      go_wp2_with fail
      go_ret
      exact ⟨rfl, HB9.out⟩

end Go.Proofs.YtcgangmmehbdoaaDoor
