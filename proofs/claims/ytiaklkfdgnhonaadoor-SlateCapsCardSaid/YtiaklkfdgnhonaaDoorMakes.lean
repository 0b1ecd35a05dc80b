/- SlateMakes: the walk. -/
import Derived.Test.YtiaklkfdgnhonaaDoorRefSpread
namespace Go.Proofs.YtiaklkfdgnhonaaDoor
open Go.Shelf Go.RowKit Go.Lib Go.Sort Go.Maps
set_option linter.unusedVariables false

theorem int_eq_self (n : Nat) : ((n : Int) == (n : Int)) = true := by simp

set_option maxHeartbeats 2000000 in
set_option maxRecDepth 100000 in
theorem slateMakes_walk (A : Option Addr) (n c : Nat) (l : List Ch) (cp : Cp) (w : World) (ha : ChArg w A n c l) (hg : GlobAt w) :
    Calls Tryd.prog 9 #[.slice A n c, .agg #[.int .i64 cp.size, .int .i64 cp.maker, .int .i64 cp.tag]] w fun e w' => e = .returned (.bool true) ∧ Below w.heap.size w w' := by
  have HA := Lib.hid ha
  have HG := Lib.hid hg
  clear ha hg
  obtain ⟨w0, hw0⟩ : ∃ w0, w.alloc (.cells #[.int .i64 cp.size, .int .i64 cp.maker, .int .i64 cp.tag] 28) = w0 := ⟨_, rfl⟩
  have hb0 : Below w.heap.size w w0 := by rw [← hw0]; exact (Below.refl _ _).alloc (Nat.le_refl _) _
  have bc : Blk w0 w.heap.size 28 #[.int .i64 cp.size, .int .i64 cp.maker, .int .i64 cp.tag] := by rw [← hw0]; exact Blk.new _ _ _
  have hl0 : ChsAt w0 w.heap.size A l := HA.out.at_.below hb0
  have HLG := Lib.hid (long_any w0 w.heap.size A l n c HA.out.len hl0 hb0.size HA.out.few HA.out.size)
  have hz0 := bc.lt
  have HC0 := Lib.hid bc
  clear bc
  go_enter Tryd.func9, Tryd.ntmps9
  go_wp2_with fail
  clear hw0
  refine HLG.out.mono ?_
  rintro e w1 ⟨r, rfl, hr, hb1'⟩
  have hb1 : Below w.heap.size w w1 := hb0.trans (hb1'.mono hb0.size)
  have bc1 : Blk w1 w.heap.size 28 #[.int .i64 cp.size, .int .i64 cp.maker, .int .i64 cp.tag] := (hb1'.block _ hz0).trans HC0.out
  have hl1 : ChsAt w1 w.heap.size A l := hl0.below (hb1'.mono hb0.size)
  have q0 : w1.cell? ⟨w.heap.size, 0, none⟩ = some (.int .i64 cp.size) := bc1.cell 0
  have q1 : w1.cell? ⟨w.heap.size, 1, none⟩ = some (.int .i64 cp.maker) := bc1.cell 1
  have q2 : w1.cell? ⟨w.heap.size, 2, none⟩ = some (.int .i64 cp.tag) := bc1.cell 2
  have HC1 := Lib.hid bc1
  clear HLG HC0 hb1' hb0 hl0 bc1 hz0
  cases r
  · have hs := hr rfl
    have hn40 : n ≤ 40 := by rw [← HA.out.len]; exact hs.1
    have HOK := Lib.hid hs.okc
    have HM := Lib.hid (make_any w1 w.heap.size A l n c cp HA.out.len hl1 hb1.size HA.out.nil (by omega) hs.okc (HG.out.keep hb1 (Nat.le_refl _)))
    clear hr hs
    go_wp2_with fail
    refine HM.out.mono ?_
    rintro e w2 ⟨v2, rfl, hown2, hb2⟩
    obtain ⟨A2, c2, rfl⟩ := own_shape hown2
    have HB2 : Hid (Below w.heap.size w w2) := Lib.hid (hb1.trans (hb2.mono hb1.size))
    have hl2 : ChsAt w2 w.heap.size A l := hl1.below (hb2.mono hb1.size)
    have bc2 : Blk w2 w.heap.size 28 #[.int .i64 cp.size, .int .i64 cp.maker, .int .i64 cp.tag] := (hb2.block _ HC1.out.lt).trans HC1.out
    have HR := Lib.hid (refmake_any w2 w.heap.size A l n c cp HA.out.len hl2 HB2.out.size (by omega) HOK.out)
    have hml : (makeP cp l).length ≤ n := by rw [← HA.out.len]; exact makeP_len cp l
    have HOM : Hid (Okc (makeP cp l)) := Lib.hid (fun x hx => HOK.out x ((rankP_is l).mem x |>.1 ((makeP_sub cp l).subset hx)).1)
    clear HM q0 q1 q2
    have q0 : w2.cell? ⟨w.heap.size, 0, none⟩ = some (.int .i64 cp.size) := bc2.cell 0
    have q1 : w2.cell? ⟨w.heap.size, 1, none⟩ = some (.int .i64 cp.maker) := bc2.cell 1
    have q2 : w2.cell? ⟨w.heap.size, 2, none⟩ = some (.int .i64 cp.tag) := bc2.cell 2
    clear bc2 HC1
    go_wp2_with fail
    refine HR.out.mono ?_
    rintro e w3 ⟨v3, rfl, hown3, hb3⟩
    obtain ⟨A3, c3, rfl⟩ := own_shape hown3
    have HB3 : Hid (Below w.heap.size w w3) := Lib.hid (HB2.out.trans (hb3.mono HB2.out.size))
    have hs3 : ChsAt w3 w3.heap.size A2 (makeP cp l) := RowIn.more (RowIn.below (RowIn.of_own hown2) hb3) hb3.size
    have HSM := Lib.hid (same_any w3 w3.heap.size A2 A3 (makeP cp l) (makeP cp l) (makeP cp l).length (makeP cp l).length c2 c3 rfl rfl hs3 (RowIn.of_own hown3) (by omega) (by omega))
    have HS3 := Lib.hid hs3
    clear HR hown2 hown3 hs3 q0 q1 q2
    generalize makeP cp l = S at *
    go_wp2_with fail
    refine HSM.out.mono ?_
    rintro e w4 ⟨r, rfl, hr, q, rfl⟩
    obtain rfl : r = true := (by simpa using hr)
    have HG4 : Hid (GlobAt (w3.drewN q)) := Lib.hid ((HG.out.keep HB3.out (Nat.le_refl _)).drewN q)
    have HP := Lib.hid (spread_any (w3.drewN q) w3.heap.size A2 S S.length c2 rfl HS3.out (Nat.le_refl _) (by omega) HOM.out HG4.out)
    clear HSM hr
    go_wp2_with fail
    refine HP.out.mono ?_
    rintro e w5 ⟨rfl, hb5⟩
    have HB5 : Hid (Below w.heap.size w w5) := Lib.hid ((below_drewN HB3.out q).trans (hb5.mono HB3.out.size))
    have hs5 : ChsAt w5 w3.heap.size A2 S := ChsAt.below (w := w3.drewN q) HS3.out hb5
    have HP2 := Lib.hid (refspread_any w5 w3.heap.size A2 S S.length c2 rfl hs5 hb5.size (by omega) HOM.out)
    clear HP hs5
    go_wp2_with fail
    refine HP2.out.mono ?_
    rintro e w6 ⟨rfl, hb6⟩
    have HB6 : Hid (Below w.heap.size w w6) := Lib.hid (HB5.out.trans (hb6.mono HB5.out.size))
    have hl6 : ChsAt w6 w.heap.size A l := HA.out.at_.below HB6.out
    have HP3 := Lib.hid (spread_any w6 w.heap.size A l n c HA.out.len hl6 HB6.out.size (by omega) HOK.out (HG.out.keep HB6.out (Nat.le_refl _)))
    clear HP2 hl6
    generalize (allM S).length = sp at *
    have heq := int_eq_self sp
    go_wp2_with fail
    refine HP3.out.mono ?_
    rintro e w7 ⟨rfl, hb7⟩
    have HB7 : Hid (Below w.heap.size w w7) := Lib.hid (HB6.out.trans (hb7.mono HB6.out.size))
    have hl7 : ChsAt w7 w.heap.size A l := HA.out.at_.below HB7.out
    have HP4 := Lib.hid (refspread_any w7 w.heap.size A l n c HA.out.len hl7 HB7.out.size (by omega) HOK.out)
    clear HP3 hl7
    go_wp2_with fail
    refine HP4.out.mono ?_
    rintro e w8 ⟨rfl, hb8⟩
    have HB8 : Hid (Below w.heap.size w w8) := Lib.hid (HB7.out.trans (hb8.mono HB7.out.size))
    have HW := Lib.hid (awake_any w8 (HG.out.keep HB8.out (Nat.le_refl _)))
    clear HP4
    generalize (allM l).length = sp2 at *
    have heq2 := int_eq_self sp2
    go_wp2_with fail
    refine HW.out.mono ?_
    rintro e w9 ⟨rfl, hb9⟩
    have HB9 : Hid (Below w.heap.size w w9) := Lib.hid (HB8.out.trans (hb9.mono HB8.out.size))
    clear hb9 HW
    go_wp2_with fail
    go_ret
    exact ⟨rfl, HB9.out⟩
  · have HW := Lib.hid (awake_any w1 (HG.out.keep hb1 (Nat.le_refl _)))
    clear hr
    go_wp2_with fail
    refine HW.out.mono ?_
    rintro e w5 ⟨rfl, hb5⟩
    have HB5 : Hid (Below w.heap.size w w5) := Lib.hid (hb1.trans (hb5.mono hb1.size))
    clear hb5 HW
    go_wp2_with fail
    go_ret
    exact ⟨rfl, HB5.out⟩

end Go.Proofs.YtiaklkfdgnhonaaDoor
