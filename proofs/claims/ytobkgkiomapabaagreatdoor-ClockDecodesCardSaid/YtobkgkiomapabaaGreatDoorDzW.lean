/- ClockDecodes: the walk; an argument of bytes. -/
import Derived.Test.YtobkgkiomapabaaGreatDoorDzD
import Derived.Test.YtobkgkiomapabaaGreatDoorDcW
import Derived.Test.YtobkgkiomapabaaGreatDoorOpenS
namespace Go.Proofs.YtobkgkiomapabaaGreatDoor
open Go.Shelf Go.RowKit Go.Maps
set_option linter.unusedVariables false

/-- A slice of bytes reads as text. -/
def BytesAt (w : World) (B : Nat) (a : Option Addr) (l : List UInt8) : Prop := ∀ (cap : Nat) (V : World), Below B w V → (convert 22 9 (.slice a l.length cap)).run Tryz.prog V = .ok (.string ⟨l.toArray⟩) V
section
open Go.ChangeShapes Go.WideShapes Go.Deep
theorem bytes_of {H : Type} {enc : TypeId × Value → H} {w : World} {spare : Nat → Bool} {held : Bool} {base fuel : Nat} {a : Option Addr} {len cap : Nat} {x : DataW H × List MemPlace}
    (h : DataW.trod enc Tryz.prog w base spare held fuel 22 [.slice a len cap] = some x) : ∃ l : List UInt8, l.length = len ∧ len ≤ maxLen ∧ BytesAt w w.heap.size a l := by
  rcases open_slice (e := 5) Tryz.underlying22 h with ⟨hcs, _⟩ | ⟨ad, n, c, m, n', D, Pl, hcs, _, hl, hm, hmm, _, hi⟩
  · simp at hcs
    obtain ⟨rfl, rfl, rfl⟩ := hcs
    exact ⟨[], rfl, Nat.zero_le _, fun cap V hV => run_convert_bytes_nil V _ _ Tryz.underlying22 Tryz.underlying5 _ _ _ Tryz.underlying9⟩
  · simp at hcs
    obtain ⟨rfl, rfl, rfl⟩ := hcs
    have hlm : len ≤ m := by rw [hmm]; split <;> omega
    have hcell : ∀ i, i < m → ∃ z : UInt8, w.cell? (ad.add i) = some (.int .u8 z.toNat) := by
      intro i hi'
      obtain ⟨cs', hc, ht'⟩ := hi i hi'
      have hC : Tryz.prog.cellsOf 5 = 1 := by kernel_rfl
      rw [hC] at hc
      obtain ⟨_, hcl, hat⟩ := World.cells?_some hc
      obtain ⟨z, hz, _, hwf⟩ := DataW.trod_int Tryz.underlying5 ht'
      subst hz
      have hw2 : (decide ((0 : Int) ≤ z) && decide (z ≤ 255)) = true := hwf
      have hb : 0 ≤ z ∧ z ≤ 255 := by simpa using hw2
      refine ⟨UInt8.ofNat z.toNat, ?_⟩
      have := hat 0 (by omega)
      rw [UInt8.toNat_ofNat_of_lt' (by show _ < 256; omega), show ((z.toNat : Nat) : Int) = z by omega]
      simpa [Addr.add] using this
    obtain ⟨l, h1, h2⟩ := list_of (α := UInt8) (p := fun i x => ∃ b off, ad = ⟨b, off, none⟩ ∧ b < w.heap.size ∧ w.cell? ⟨b, off + i, none⟩ = some (.int .u8 x.toNat)) len (fun i hil => by
      obtain ⟨z, hz⟩ := hcell i (by omega)
      obtain ⟨z0, hz0⟩ := hcell 0 (by omega)
      have hsp : ad.spot = none := World.cell?_spot (by simpa [Addr.add] using hz0)
      obtain ⟨b, off, spot⟩ := ad
      have hs2 : spot = none := hsp
      subst hs2
      rw [add_none] at hz
      exact ⟨z, b, off, rfl, cell_lt (a := ⟨b, _, none⟩) hz, hz⟩)
    refine ⟨l, h1, Nat.le_trans hl hm, fun cap V hV => ?_⟩
    refine run_convert_bytes_back (P := Tryz.prog) V 22 9 5 ad cap l Tryz.underlying22 Tryz.underlying5 Tryz.underlying9 (fun j hj => ?_)
    obtain ⟨b, off, rfl, hb, hc⟩ := h2 j _ (List.getElem?_eq_getElem hj)
    rw [at_add, hV.cell (p := ⟨b, off + j, none⟩) hb]
    exact hc
end

set_option maxHeartbeats 8000000 in
set_option maxRecDepth 100000 in
theorem clockDecodes_walk (a : Option Addr) (len cap : Nat) (l : List UInt8) (w : World) (hl : l.length = len) (ha : BytesAt w w.heap.size a l) (hm : len ≤ 9223372036854775807) (htb : TabB w.heap.size w) (he : ErrAt w) (hg : GlobAt w) :
    Calls Tryz.prog 3 #[.slice a len cap] w fun e w' => e = .returned (.bool true) ∧ Below w.heap.size w w' := by
  subst hl
  have HTB : Hid (∀ V, Below w.heap.size w V → TabB V.heap.size V) := Lib.hid (fun V hV w' hw' => (htb.on hV) w' (hw'.mono hV.size))
  have HGE : Hid (∀ V, Below w.heap.size w V → ErrAt V ∧ GlobAt V) := Lib.hid (fun V hV => ⟨he.keep hV, hg.keep hV (Nat.le_refl _)⟩)
  obtain ⟨b, hb⟩ : ∃ b : ByteArray, ⟨l.toArray⟩ = b := ⟨_, rfl⟩
  obtain ⟨len, hlen⟩ : ∃ len, l.length = len := ⟨_, rfl⟩
  have HBL : Hid (b.size = len) := Lib.hid (by rw [← hb, ← hlen]; show l.toArray.size = _; simp)
  have HA : Hid (∀ V, Below w.heap.size w V → (convert 22 9 (.slice a len cap)).run Tryz.prog V = .ok (.string b) V) := Lib.hid (fun V hV => by rw [← hb, ← hlen]; exact ha cap V hV)
  rw [hlen] at hm ⊢
  clear htb ha he hg hb hlen
  go_enter Tryz.func3, Tryz.ntmps3
  go_wp2_with fail
  refine (awake_any w).mono ?_
  rintro e w1 ⟨rfl, hb1⟩
  have HB1 := Lib.hid hb1
  clear hb1
  by_cases hbig : 3000 < len
  · have q0 : (3000 : Int) < (len : Int) := by omega
    go_wp2_with fail
    go_ret
    exact ⟨rfl, HB1.out⟩
  have q0 : ¬ (3000 : Int) < (len : Int) := by omega
  have HDC := Lib.hid (decode_any a len cap b w1 (by have := HBL.out; omega) (fun V hV => HA.out V (HB1.out.trans (hV.mono HB1.out.size))) (HTB.out _ HB1.out) (HGE.out _ HB1.out).1 (HGE.out _ HB1.out).2)
  go_wp2_with fail
  refine HDC.out.mono ?_
  rintro e w2 hp
  have HP := Lib.hid hp
  have HB2 : Hid (Below w.heap.size w w2) := Lib.hid (HB1.out.trans (hp.1.mono HB1.out.size))
  have hcv := HA.out w2 HB2.out
  have HRD := Lib.hid (rdecode_any b w2 (by have := HBL.out; omega))
  clear hp HDC q0
  rcases HP.out.2 with ⟨cb, mb, n, c, l2, rfl, hc2, hcode, huniq, hn2, _, _⟩ | ⟨rfl, hno⟩
  · have HC2 : Hid (ClockAt w2 cb mb n c) := Lib.hid hc2
    have HCO := Lib.hid hcode
    have hnn : n ≤ 3000 := by have := HBL.out; omega
    clear hc2 hcode huniq hn2
    go_wp2_with fail
    refine HRD.out.mono ?_
    rintro e w3 hq
    obtain ⟨D, db, n3, c3, l3, rfl, hD, hd3, hn3, _, huniq⟩ : ∃ D db n3 c3 l3, e = .returned (.pointer (some ⟨db, 0, none⟩)) ∧ w2.heap.size ≤ D ∧ DocAt w3 D db n3 c3 ∧ n3 ≤ b.size ∧ CodeOf b c3 l3 ∧ ∀ c0 l0, CodeOf b c0 l0 → c0 = c3 := by
      rcases hq.2 with h | ⟨_, h⟩
      · exact h
      · exact absurd HCO.out (h _ _)
    obtain rfl := huniq _ _ HCO.out
    have hb3 := hq.1
    have HB3 : Hid (Below w.heap.size w w3) := Lib.hid (HB2.out.trans (hb3.mono HB2.out.size))
    have HC3 : Hid (ClockAt w3 cb mb 3000 c) := Lib.hid ((HC2.out.below hb3 HC2.out.blk.lt HC2.out.map.lt (Nat.le_refl _)).more hnn)
    have HD3 : Hid (DocAt w3 D db 3000 c) := Lib.hid (hd3.more (by have := HBL.out; omega))
    have HRO : Hid (Rows' c.src l2) := Lib.hid HCO.out.1.rows
    clear hq hd3 huniq hb3 HC2 hcv hnn hn3
    have HS3 : Hid (Below w.heap.size w w3.drew) := Lib.hid (Go.Proofs.YtobkgkiomapabaaGreatDoor.below_drew HB3.out)
    have HAL := Lib.hid (alike_any D cb mb db 3000 c w3.drew HC3.out.drew HD3.out.drew (by omega) (HTB.out _ HS3.out))
    go_wp2_with fail
    refine wp_plan (fun V => Below w.heap.size w V) [(0, false), (1, false), (2, false), (3, false), (4, false), (5, false), (6, false), (7, false), (8, false), (9, true), (10, false), (11, false), (12, false), (15, false), (16, false), (13, true), (14, true), (17, false), (18, false), (19, false)] (by kernel_rfl) (by kernel_rfl) HS3.out ?_
    simp only [planL, List.getElem?_cons_zero, List.getElem?_cons_succ]
    repeat (first | (refine plan_on _ (by rfl) (fun W hW => by (have y0 := HA.out W hW; go_simp; try (first | with_reducible rfl | rw [if_neg (by omega)] | rw [if_pos (by omega)]))) ?_; simp only [Act.put, List.setIfInBounds_toArray, List.set_cons_zero, List.set_cons_succ]) | (refine plan_off (by rfl) ?_; simp only [Act.put, List.setIfInBounds_toArray, List.set_cons_zero, List.set_cons_succ]))
    refine plan_turn ?_
    go_wp2_with fail
    refine HAL.out.mono ?_
    rintro e w4 ⟨rfl, hb4⟩
    have HC4 : Hid (ClockAt w4 cb mb 3000 c) := Lib.hid (HC3.out.drew.below hb4 HC3.out.blk.lt HC3.out.map.lt (Nat.le_refl _))
    have HB4 : Hid (Below w.heap.size w w4) := Lib.hid (HS3.out.trans (hb4.mono HS3.out.size))
    clear hb4 HAL
    go_wp2_with fail
    refine ⟨HB4.out, ?_⟩
    repeat (first | (refine plan_on _ (by rfl) (fun W hW => by (have y0 := HA.out W hW; go_simp; try (first | with_reducible rfl | rw [if_neg (by omega)] | rw [if_pos (by omega)]))) ?_; simp only [Act.put, List.setIfInBounds_toArray, List.set_cons_zero, List.set_cons_succ]) | (refine plan_off (by rfl) ?_; simp only [Act.put, List.setIfInBounds_toArray, List.set_cons_zero, List.set_cons_succ]))
    have HEN := Lib.hid (encode_any cb mb 3000 c w4 HC4.out (by omega) (rows_short HRO.out) (HTB.out _ HB4.out))
    refine plan_turn ?_
    go_wp2_with fail
    refine HEN.out.mono ?_
    rintro e w5 ⟨A5, c5, N5, ks, rfl, hk5, hN5, ho5, hb5⟩
    have HB5 : Hid (Below w.heap.size w w5) := Lib.hid (HB4.out.trans (hb5.mono HB4.out.size))
    have hN50 : 0 < N5 := by rw [← hN5]; exact enc_pos c ks
    have hcv := bytes_back ho5 hN50 hN5 w5 (Below.refl _ _)
    have hEB : (⟨(encC c ks).toArray⟩ : ByteArray) = b := by
      rw [HCO.out.2]
      unfold encB
      rw [← enc_rows HRO.out, keys_rows hk5 HRO.out]
    rw [hEB] at hcv
    clear hk5 hN5 ho5 hb5 hEB hN50 HEN
    go_wp2_with fail
    refine ⟨HB5.out, ?_⟩
    refine plan_turn ?_
    go_wp2_with fail
    clear hcv
    refine ⟨HB5.out, ?_⟩
    repeat (first | (refine plan_on _ (by rfl) (fun W hW => by (have y0 := HA.out W hW; go_simp; try (first | with_reducible rfl | rw [if_neg (by omega)] | rw [if_pos (by omega)]))) ?_; simp only [Act.put, List.setIfInBounds_toArray, List.set_cons_zero, List.set_cons_succ]) | (refine plan_off (by rfl) ?_; simp only [Act.put, List.setIfInBounds_toArray, List.set_cons_zero, List.set_cons_succ]))
    refine plan_done ?_
    go_wp2_with fail
    go_ret
    exact ⟨rfl, HB5.out⟩
  · have HNO := Lib.hid hno
    clear hno
    go_wp2_with fail
    refine HRD.out.mono ?_
    rintro e w3 hq
    obtain rfl : e = .returned (.pointer none) := by
      rcases hq.2 with ⟨_, _, _, _, _, _, _, _, _, h, _⟩ | ⟨h, _⟩
      · exact absurd h (HNO.out _ _)
      · exact h
    have HB3 : Hid (Below w.heap.size w w3) := Lib.hid (HB2.out.trans (hq.1.mono HB2.out.size))
    clear hq hcv
    go_wp2_with fail
    go_ret
    exact ⟨rfl, HB3.out⟩
end Go.Proofs.YtobkgkiomapabaaGreatDoor
