/- awake of the laws: the chapter's examples. -/
import Derived.Test.YtiaklkfdgnhonaaDoorLaw0
namespace Go.Proofs.YtiaklkfdgnhonaaDoor
open Go.Shelf Go.RowKit Go.Lib Go.Sort Go.Maps
set_option linter.unusedVariables false

def chX : Ch := ⟨⟨#[97]⟩, ⟨#[109]⟩, ⟨#[120]⟩, 9⟩
def chY : Ch := ⟨⟨#[98]⟩, ⟨#[109]⟩, ⟨#[120]⟩, 7⟩
def chZ : Ch := ⟨⟨#[99]⟩, ⟨#[109]⟩, ⟨#[]⟩, 5⟩

theorem rank_xyz : rankP [chX, chY, chZ] = [chX, chY, chZ] := by
  have h : IsRank [chX, chY, chZ] [chX, chY, chZ] := by
    refine ⟨?_, fun x => ⟨fun h => ⟨h, fun y hy e => ?_⟩, fun h => h.1⟩⟩
    · simp [aheadI, orL, cmpI, chX, chY, chZ]
    · simp only [List.mem_cons, List.mem_nil_iff, or_false] at h hy
      rcases h with rfl | rfl | rfl <;> rcases hy with rfl | rfl | rfl <;> first | exact ah_irr _ | (exfalso; revert e; decide)
  exact (rankP_is _).one h (fun _ => Iff.rfl)
theorem make_1 : makeP ⟨2, 1, 0⟩ [chX, chY, chZ] = [chX] := by
  unfold makeP
  rw [rank_xyz]
  kernel_rfl
theorem make_2 : makeP ⟨2, 0, 1⟩ [chX, chY, chZ] = [chX, chZ] := by
  unfold makeP
  rw [rank_xyz]
  kernel_rfl

theorem okc_xyz : Okc [chX, chY, chZ] := by
  intro x hx
  simp only [List.mem_cons, List.mem_nil_iff, or_false] at hx
  rcases hx with rfl | rfl | rfl <;> decide

set_option maxHeartbeats 2000000 in
set_option maxRecDepth 100000 in
theorem awake_any (w : World) (hg : GlobAt w) : Calls Tryd.prog 12 #[] w fun e w' => e = .returned (.bool true) ∧ Below w.heap.size w w' := by
  obtain ⟨w1, hw1⟩ : ∃ w1, w.alloc (.cells #[.string ⟨#[97]⟩, .string ⟨#[109]⟩, .string ⟨#[120]⟩, .int .i64 9, .string ⟨#[98]⟩, .string ⟨#[109]⟩, .string ⟨#[120]⟩, .int .i64 7, .string ⟨#[99]⟩, .string ⟨#[109]⟩, .string ⟨#[]⟩, .int .i64 5] 32) = w1 := ⟨_, rfl⟩
  have bl : Blk w1 w.heap.size 32 #[.string ⟨#[97]⟩, .string ⟨#[109]⟩, .string ⟨#[120]⟩, .int .i64 9, .string ⟨#[98]⟩, .string ⟨#[109]⟩, .string ⟨#[120]⟩, .int .i64 7, .string ⟨#[99]⟩, .string ⟨#[109]⟩, .string ⟨#[]⟩, .int .i64 5] := by rw [← hw1]; exact Blk.new _ _ _
  have hB1 : Below w.heap.size w w1 := by rw [← hw1]; exact (Below.refl _ _).alloc (Nat.le_refl _) _
  have hl1 : ChsAt w1 w1.heap.size (some ⟨w.heap.size, 0, none⟩) [chX, chY, chZ] := by
    refine ⟨rfl, Or.inr ⟨w.heap.size, 0, rfl, bl.lt, fun j u hu => ?_⟩⟩
    rw [bl.cell, Nat.zero_add, ← hu, List.getElem?_toArray]
    rfl
  have HM1 := Lib.hid (make_any w1 w1.heap.size (some ⟨w.heap.size, 0, none⟩) [chX, chY, chZ] 3 3 ⟨2, 1, 0⟩ rfl hl1 (Nat.le_refl _) (fun h => by cases h) (by omega) okc_xyz (hg.keep hB1 (Nat.le_refl _)))
  rw [make_1] at HM1
  have HG1 := Lib.hid (hg.keep hB1 (Nat.le_refl _))
  have HL1 := Lib.hid hl1
  have HBL := Lib.hid bl
  clear hg hl1 bl
  go_enter Tryd.func12, Tryd.ntmps12
  go_wp2_with fail
  clear hw1
  refine HM1.out.mono ?_
  rintro e w2 ⟨v2, rfl, hown2, hb2⟩
  obtain ⟨g2, cap2, rfl, hg2, hlt2⟩ := hown2.form (by decide)
  have hc2 : ChAt w2 g2 0 chX := by
    obtain ⟨g, h1, _, _, h4⟩ := own_at (l := [chX]) hown2 (by decide) rfl
    injection h1 with h1
    injection h1 with h1
    subst h1
    exact h4 0 chX rfl
  have HC2 := Lib.hid hc2
  have HB2 : Hid (Below w.heap.size w w2) := Lib.hid (hB1.trans (hb2.mono hB1.size))
  have HM2 := Lib.hid (make_any w2 w1.heap.size (some ⟨w.heap.size, 0, none⟩) [chX, chY, chZ] 3 3 ⟨2, 0, 1⟩ rfl (HL1.out.below hb2) hb2.size (fun h => by cases h) (by omega) okc_xyz (HG1.out.keep hb2 (Nat.le_refl _)))
  rw [make_2] at HM2
  have HBL2 : Hid (Blk w2 w.heap.size 32 #[.string ⟨#[97]⟩, .string ⟨#[109]⟩, .string ⟨#[120]⟩, .int .i64 9, .string ⟨#[98]⟩, .string ⟨#[109]⟩, .string ⟨#[120]⟩, .int .i64 7, .string ⟨#[99]⟩, .string ⟨#[109]⟩, .string ⟨#[]⟩, .int .i64 5]) := Lib.hid ((hb2.block _ HBL.out.lt).trans HBL.out)
  have hle2 : ([chX] : List Ch).length = 1 := rfl
  rw [hle2]
  clear HM1 hown2 hc2 hb2 hle2 HL1 HG1 HBL
  go_wp2_with fail
  refine HM2.out.mono ?_
  rintro e w3 ⟨v3, rfl, hown3, hb3⟩
  obtain ⟨g3, cap3, rfl, hg3, hlt3⟩ := hown3.form (by decide)
  obtain ⟨k0, k1, k2, k3⟩ : ChAt w3 g3 (1 * 4) chZ := by
    obtain ⟨g, h1, _, _, h4⟩ := own_at (l := [chX, chZ]) hown3 (by decide) rfl
    injection h1 with h1
    injection h1 with h1
    subst h1
    exact h4 1 chZ rfl
  obtain ⟨c0, c1, c2, c3⟩ : ChAt w3 g2 0 chX := HC2.out.keep (fun j => hb3.cell (p := ⟨g2, j, none⟩) hlt2)
  have bl3 : Blk w3 w.heap.size 32 #[.string ⟨#[97]⟩, .string ⟨#[109]⟩, .string ⟨#[120]⟩, .int .i64 9, .string ⟨#[98]⟩, .string ⟨#[109]⟩, .string ⟨#[120]⟩, .int .i64 7, .string ⟨#[99]⟩, .string ⟨#[109]⟩, .string ⟨#[]⟩, .int .i64 5] := (hb3.block _ HBL2.out.lt).trans HBL2.out
  have l0 : w3.cell? ⟨w.heap.size, 0, none⟩ = some (.string ⟨#[97]⟩) := bl3.cell 0
  have l1 : w3.cell? ⟨w.heap.size, 1, none⟩ = some (.string ⟨#[109]⟩) := bl3.cell 1
  have l2 : w3.cell? ⟨w.heap.size, 2, none⟩ = some (.string ⟨#[120]⟩) := bl3.cell 2
  have l3 : w3.cell? ⟨w.heap.size, 3, none⟩ = some (.int .i64 9) := bl3.cell 3
  have m0 : w3.cell? ⟨w.heap.size, 8, none⟩ = some (.string ⟨#[99]⟩) := bl3.cell 8
  have m1 : w3.cell? ⟨w.heap.size, 9, none⟩ = some (.string ⟨#[109]⟩) := bl3.cell 9
  have m2 : w3.cell? ⟨w.heap.size, 10, none⟩ = some (.string ⟨#[]⟩) := bl3.cell 10
  have m3 : w3.cell? ⟨w.heap.size, 11, none⟩ = some (.int .i64 5) := bl3.cell 11
  have HB3 : Hid (Below w.heap.size w w3) := Lib.hid (HB2.out.trans (hb3.mono HB2.out.size))
  have hle3 : ([chX, chZ] : List Ch).length = 2 := rfl
  rw [hle3]
  simp only [chX, chZ, Nat.zero_add, Nat.one_mul, Nat.reduceAdd] at c0 c1 c2 c3 k0 k1 k2 k3
  have he1 : eqB ⟨⟨#[97]⟩, ⟨#[109]⟩, ⟨#[120]⟩, 9⟩ ⟨⟨#[97]⟩, ⟨#[109]⟩, ⟨#[120]⟩, 9⟩ = true := by kernel_rfl
  have he2 : eqB ⟨⟨#[99]⟩, ⟨#[109]⟩, ⟨#[]⟩, 5⟩ ⟨⟨#[99]⟩, ⟨#[109]⟩, ⟨#[]⟩, 5⟩ = true := by kernel_rfl
  clear HM2 hown3 hb3 hle3 HBL2 HC2 HB2 bl3
  go_wp2_with fail
  go_quiet (fail)
  go_wp2_with fail
  go_ret
  exact ⟨rfl, below_drewN HB3.out _⟩

end Go.Proofs.YtiaklkfdgnhonaaDoor
