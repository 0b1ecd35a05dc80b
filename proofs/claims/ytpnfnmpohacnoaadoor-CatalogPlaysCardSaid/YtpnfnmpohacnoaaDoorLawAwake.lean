/- awake of the laws; CatalogStays: the walk. -/
import Derived.Test.YtpnfnmpohacnoaaDoorLawFew
namespace Go.Proofs.YtpnfnmpohacnoaaDoor
open Go.Shelf Go.RowKit Go.Maps
set_option linter.unusedVariables false

theorem ev_x1 : EvSh eX1 := by unfold EvSh; decide +kernel
theorem ev_x2 : EvSh eX2 := by unfold EvSh; decide +kernel
def itArr (x : It) : Array Value := #[.string x.name, .string x.maker, .string x.tags, .int .i64 x.stock, .int .i64 x.price, .int .i64 x.born, .bool x.listed]

set_option maxHeartbeats 2000000 in
set_option maxRecDepth 100000 in
theorem awake_any (w : World) (hg : GlobAt w) : Calls Tryd.prog 9 #[] w fun e w' => e = .returned (.bool true) ∧ Below w.heap.size w w' := by
  have HN := Lib.hid (new_any w)
  have HG := Lib.hid hg
  have hgl := hg.1
  clear hg
  go_enter Tryd.func9, Tryd.ntmps9
  go_wp2_with fail
  refine HN.out.mono ?_
  rintro e w1 ⟨cb, F, rfl, hc1, hf1, hb1⟩
  have HA := Lib.hid (apply_any cb F [] eX1 w1 hc1 ev_x1 (HG.out.keep hb1 (Nat.le_refl _)) (by simp) (fun i hi hFi => by have := hf1 i hFi; omega))
  rw [aw1] at HA
  have HF1 := Lib.hid hf1
  have HB1 := Lib.hid hb1
  clear hc1 hf1 hb1 HN
  go_wp2_with fail
  refine HA.out.mono ?_
  rintro e w2 ⟨rfl, F2, hc2, hs2, hf2, hk2⟩
  have HB2 : Hid (Below w.heap.size w w2) := Lib.hid (HB1.out.trans (hk2.toBelow HF1.out HB1.out.size))
  have HF2 : Hid (∀ q, F2 q → w.heap.size ≤ q) := Lib.hid (fun q hq => (hf2 q hq).elim (HF1.out q) (fun h => Nat.le_trans HB1.out.size h))
  have hc2' : CatAt w2 cb F2 [eX1] := by
    unfold aftP at hc2
    rw [aw1] at hc2
    exact hc2
  have HA2 := Lib.hid (apply_any cb F2 [eX1] eX2 w2 hc2' ev_x2 (HG.out.keep HB2.out (Nat.le_refl _)) (by simp) (fun i hi hFi => by have := HF2.out i hFi; omega))
  rw [aw2] at HA2
  clear hc2 hc2' hf2 hk2 hs2 HA HF1 HB1
  go_wp2_with fail
  refine HA2.out.mono ?_
  rintro e w3 ⟨rfl, F3, hc3, hs3, hf3, hk3⟩
  have HB3 : Hid (Below w.heap.size w w3) := Lib.hid (HB2.out.trans (hk3.toBelow HF2.out HB2.out.size))
  have hc3' : CatAt w3 cb F3 [eX1, eX2] := by
    unfold aftP at hc3
    rw [aw2] at hc3
    exact hc3
  have HT := Lib.hid (at_any cb F3 [eX1, eX2] ⟨#[120]⟩ 5 w3 hc3' (by decide) (by simp))
  rw [aw3] at HT
  unfold toldP at HT
  have HC3 := Lib.hid hc3'
  clear hc3 hc3' hf3 hk3 hs3 HA2 HF2 HB2
  go_wp2_with fail
  refine HT.out.mono ?_
  rintro e w4 ⟨rfl, hb4⟩
  have HB4 : Hid (Below w.heap.size w w4) := Lib.hid (HB3.out.trans (hb4.mono HB3.out.size))
  have HC4 : Hid (CatAt w4 cb F3 [eX1, eX2]) := Lib.hid (HC3.out.below hb4)
  clear HT hb4 HC3 HB3
  dsimp only [Option.getD_some, Option.isSome_some, itA]
  go_wp2_with fail
  obtain ⟨w5, hw5⟩ : ∃ w5, w4.alloc (.cells (itArr ⟨⟨#[120]⟩, ⟨#[109]⟩, ⟨#[]⟩, 0, 3, 5, true⟩) 30) = w5 := ⟨_, rfl⟩
  have HB5 : Hid (Below w.heap.size w w5) := Lib.hid (by rw [← hw5]; exact HB4.out.alloc HB4.out.size _)
  have HX5 : Hid (Blk w5 w4.heap.size 30 (itArr ⟨⟨#[120]⟩, ⟨#[109]⟩, ⟨#[]⟩, 0, 3, 5, true⟩)) := Lib.hid (by rw [← hw5]; exact Blk.new _ _ _)
  have HC5 : Hid (CatAt w5 cb F3 [eX1, eX2]) := Lib.hid (by rw [← hw5]; exact HC4.out.below ((Below.refl _ _).alloc (Nat.le_refl _) _))
  have HT := Lib.hid (at_any cb F3 [eX1, eX2] ⟨#[120]⟩ 4 w5 HC5.out (by decide) (by simp))
  rw [aw4] at HT
  unfold toldP at HT
  unfold itArr at hw5
  dsimp only at hw5
  rw [hw5]
  refine HT.out.mono ?_
  rintro e w6 ⟨rfl, hb6⟩
  have HB6 : Hid (Below w.heap.size w w6) := Lib.hid (HB5.out.trans (hb6.mono HB5.out.size))
  have HX6 : Hid (Blk w6 w4.heap.size 30 (itArr ⟨⟨#[120]⟩, ⟨#[109]⟩, ⟨#[]⟩, 0, 3, 5, true⟩)) := Lib.hid ((hb6.block _ HX5.out.lt).trans HX5.out)
  have hx6 := HX6.out.lt
  have x1 : w6.cell? ⟨w4.heap.size, 1, none⟩ = some (.string ⟨#[109]⟩) := HX6.out.cell 1
  have x3 : w6.cell? ⟨w4.heap.size, 3, none⟩ = some (.int .i64 0) := HX6.out.cell 3
  have x4 : w6.cell? ⟨w4.heap.size, 4, none⟩ = some (.int .i64 3) := HX6.out.cell 4
  have x5 : w6.cell? ⟨w4.heap.size, 5, none⟩ = some (.int .i64 5) := HX6.out.cell 5
  have x6 : w6.cell? ⟨w4.heap.size, 6, none⟩ = some (.bool true) := HX6.out.cell 6
  clear HT hb6 hw5
  dsimp only [Option.getD_none, Option.isSome_none, itA, it0]
  go_wp2_with fail
  go_ret
  exact ⟨rfl, HB6.out.alloc HB6.out.size _⟩

end Go.Proofs.YtpnfnmpohacnoaaDoor
