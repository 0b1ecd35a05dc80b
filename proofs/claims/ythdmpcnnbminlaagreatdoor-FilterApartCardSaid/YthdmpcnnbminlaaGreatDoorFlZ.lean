/- The law's examples, where no errors' tables are laid. -/
import Derived.Test.YthdmpcnnbminlaaGreatDoorFlH
namespace Go.Proofs.YthdmpcnnbminlaaGreatDoor
open Go.Shelf Go.RowKit Go.Maps
open Ru (Fz fzA fzX Nd holdsR RuleV ruleT Says errOf ErrAt TabAt ROf)
set_option linter.unusedVariables false
structure Lb3 (w : World) : Prop where
 g : GlobAt w
 k : KnAt w
 t : Ru.TabAt w
theorem Lb3.keep {w w' : World} (h : Lb3 w) (hb : Below w.heap.size w w') : Lb3 w' := ⟨h.g.keep hb (Nat.le_refl _), h.k.keep hb (Nat.le_refl _), h.t.keep hb⟩
structure LawIn3 (w : World) (c : Cfg) (A : Option Addr) (n cp : Nat) (l : List Ev) : Prop where
 arg : EvArg w A n cp l
 lib : Lb3 w
 nm : FnAt w
set_option maxHeartbeats 4000000 in
set_option maxRecDepth 100000 in
theorem lives3_any (w : World) (hg : Lb3 w) (hf : FnAt w) : Calls Tryz.prog 15 #[] w fun e w' => e = .returned (.bool true) ∧ Below w.heap.size w w' := by
 have HNW := zh (wnew_any cfgX w cfgX_ok)
 have HG := zh hg
 have HF := zh hf
 unfold cfgA cfgX at HNW
 dsimp only at HNW
 clear hg hf
 go_enter Tryz.func15, Tryz.ntmps15
 go_wp2_with fail
 refine HNW.out.mono ?_
 rintro e w1 ⟨wb, b, τ, rfl, h1, hb1⟩
 obtain ⟨ct1, cr1, hr1⟩ := WdG.read (E := []) h1
 have HO1 := zh (of_nil (p := exP) (i := exX) (now := 5) hr1 (by simp) (by simp) (by decide) (by decide) (by unfold InR; omega) (by decide) 1 exF0)
 have H1 := zh h1
 have HB1 := zh hb1
 unfold exP exX at HO1
 clear h1 hb1 HNW hr1
 go_wp2_with fail
 refine HO1.out.mono ?_
 rintro e w2 ⟨rfl, hb2⟩
 have HB2 : Hid (Below w.heap.size w w2) := zh (HB1.out.trans (hb2.mono HB1.out.size))
 have HA2 := zh (wadd_any w2 wb w.heap.size cfgX (.slice none 0 0) false ev0 b τ 0 (fun _ => false) [] exE1 (H1.out.below hb2) (fun x hx => (by cases hx)) exOk1 (by simp) (by simp) (by omega) (HG.out.g.keep HB2.out (Nat.le_refl _)) HG.out.g.1 (fun h => by cases h) rfl rfl (by decide))
 unfold evA exE1 at HA2
 dsimp only at HA2
 have HLOW : Hid (∀ q, τ q ≠ 0 → w.heap.size ≤ q) := zh (fun q hq => (H1.out.low q hq).1)
 clear hb2 HO1 H1
 go_wp2_with fail
 refine HA2.out.mono ?_
 rintro e w3 ⟨rfl, v3, b3, τ3, h3, k3, _⟩
 have HB3 : Hid (Below w.heap.size w w3) := zh (HB2.out.trans (k3.toBelow HLOW.out HB2.out.size))
 obtain ⟨ct3, cr3, hr3⟩ := WdG.read (E := [exE1]) h3
 have HO3 := zh (of_nil (p := exP) (i := exX) (now := 5) hr3 (by simp; exact exOk1) (by simp) (by decide) (by decide) (by unfold InR; omega) (by decide) 2 exF1)
 have H3 := zh h3
 unfold exP exX at HO3
 clear h3 k3 HA2 hr3
 go_wp2_with fail
 refine HO3.out.mono ?_
 rintro e w4 ⟨rfl, hb4⟩
 have HB4 : Hid (Below w.heap.size w w4) := zh (HB3.out.trans (hb4.mono HB3.out.size))
 have HA4 := zh (wadd_any w4 wb w.heap.size cfgX v3 true exE1 b3 τ3 9 (fun _ => false) [exE1] exE2 (H3.out.below hb4) exNx exOk2 (by simp; exact exOk1) (by simp) (by omega) (HG.out.g.keep HB4.out (Nat.le_refl _)) HG.out.g.1 (fun _ => by decide) (by decide) rfl (by decide))
 unfold evA exE2 at HA4
 dsimp only at HA4
 have HLOW3 : Hid (∀ q, τ3 q ≠ 0 → w.heap.size ≤ q) := zh (fun q hq => (H3.out.low q hq).1)
 clear hb4 HO3 H3
 go_wp2_with fail
 refine HA4.out.mono ?_
 rintro e w5 ⟨rfl, v5, b5, τ5, h5, k5, _⟩
 have HB5 : Hid (Below w.heap.size w w5) := zh (HB4.out.trans (k5.toBelow HLOW3.out HB4.out.size))
 obtain ⟨ct5, cr5, hr5⟩ := WdG.read (E := [exE1, exE2]) h5
 obtain ⟨w6, hw6⟩ : ∃ w6, w5.alloc (.cells #[.string ⟨#[120]⟩, .string ⟨#[121]⟩, .string ⟨#[120]⟩] 9) = w6 := ⟨_, rfl⟩
 have hx6 : Blk w6 w5.heap.size 9 #[.string exX, .string exY, .string exX] := by rw [← hw6]; exact Blk.new _ _ _
 have hb6 : Below w5.heap.size w5 w6 := by rw [← hw6]; exact (Below.refl _ _).alloc (Nat.le_refl _) _
 have HB6 : Hid (Below w.heap.size w w6) := zh (HB5.out.trans (hb6.mono HB5.out.size))
 have HP6 := zh (pass_any w6 wb exP 5 none exF w6.heap.size (some ⟨w5.heap.size, 0, none⟩) [exX, exY, exX] 3 3 rfl (row3_at hx6) (Nat.le_refl _) (by omega) (fun x hx W hW => by
  have hwr := (hr5.below hb6).below hW
  have hxs : x = exX ∨ x = exY := by simp at hx; rcases hx with h | h | h <;> simp [h]
  have hok : ∀ e ∈ [exE1, exE2], EvOk e := by
   intro e he
   simp at he
   rcases he with rfl | rfl
   ·exact exOk1
   ·exact exOk2
  rcases hxs with rfl | rfl
  ·exact of_nil (p := exP) (i := exX) (now := 5) hwr hok (by simp) (by decide) (by decide) (by unfold InR; omega) (by decide) _ rfl
  ·exact of_nil (p := exP) (i := exY) (now := 5) hwr hok (by simp) (by decide) (by decide) (by unfold InR; omega) (by decide) _ rfl))
 have hpl : passL exF [exX, exY, exX] = [exX, exX] := by decide
 rw [hpl] at HP6
 unfold PassR exP at HP6
 clear h5 k5 HA4 hr5 hx6 hb6 hpl
 go_wp2_with fail
 refine HP6.out.mono ?_
 rintro e w7 ⟨A7, c7, rfl, h7, hb7⟩
 have HB7 : Hid (Below w.heap.size w w7) := zh (HB6.out.trans (hb7.mono HB6.out.size))
 obtain ⟨g7, o7, rfl, _, hc7⟩ := (RowIn.of_own h7).at (by simp)
 have e1 : w7.cell? ⟨g7, o7 + 1, none⟩ = some (.string ⟨#[120]⟩) := hc7 1 _ rfl
 have HFN := zh (fname_any 6 w7 (HF.out.keep HB7.out))
 have hwn : whyN 6 = ⟨#[114, 117, 108, 101, 100]⟩ := by decide
 rw [hwn] at HFN
 have hln : ([exX, exX] : List ByteArray).length = 2 := rfl
 clear h7 hb7 hc7 HP6 hwn
 go_wp2_with fail
 refine HFN.out.mono ?_
 rintro e w8 ⟨rfl, hb8⟩
 have HB8 : Hid (Below w.heap.size w w8) := zh (HB7.out.trans (hb8.mono HB7.out.size))
 clear hb8 HFN
 go_wp2_with fail
 go_ret
 exact ⟨rfl, HB8.out⟩
end Go.Proofs.YthdmpcnnbminlaaGreatDoor
