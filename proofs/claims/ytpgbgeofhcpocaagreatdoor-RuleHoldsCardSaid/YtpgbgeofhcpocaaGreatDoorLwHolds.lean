/- RuleHolds: the walk. -/
import Derived.Test.YtpgbgeofhcpocaaGreatDoorHdH
namespace Go.Proofs.YtpgbgeofhcpocaaGreatDoor
open Go.RowKit Go.Maps Go.Shelf
set_option linter.unusedVariables false

theorem rulev_shape2 {w : World} {B : Nat} {r : Option (Option Nd)} {v : Value} (h : RuleV w B r v) : (r = none ∧ v = .pointer none) ∨ ∃ r' p, r = some r' ∧ v = .pointer (some p) := by
  match r, h with
  | none, h => exact Or.inl ⟨rfl, h⟩
  | some none, ⟨g, e, _⟩ => exact Or.inr ⟨_, _, rfl, e⟩
  | some (some n), ⟨_, g, u, e, _⟩ => exact Or.inr ⟨_, _, rfl, e⟩
set_option maxHeartbeats 8000000 in
set_option maxRecDepth 100000 in
theorem ruleHolds_walk (s : ByteArray) (z : Fz) (w : World) (hs : s.size ≤ 140737488355328) (hL : LibAt w) (hg : GlobAt w) :
    Calls Tryz.prog 3 #[.string s, .agg (fzA z)] w fun e w' => e = .returned (.bool true) ∧ Below w.heap.size w w' := by
  show Calls Tryz.prog 3 #[.string s, .agg #[.string z.name, .string z.maker, .string z.tags, .int .i64 z.stock, .int .i64 z.price, .int .i64 z.born, .bool z.listed, .int .i64 z.now, .int .i64 z.age, .int .i64 z.fans, .bool z.follows, .bool z.done]] w _
  have HLB := Lib.hid hL
  have HG := Lib.hid hg
  obtain ⟨w1, hw1⟩ : ∃ w1, w.alloc (.cells #[.string z.name, .string z.maker, .string z.tags, .int .i64 z.stock, .int .i64 z.price, .int .i64 z.born, .bool z.listed, .int .i64 z.now, .int .i64 z.age, .int .i64 z.fans, .bool z.follows, .bool z.done] FAC) = w1 := ⟨_, rfl⟩
  have k1 : Below w.heap.size w w1 := by rw [← hw1]; exact (Below.refl _ _).alloc (Nat.le_refl _) _
  have HBF : Hid (Blk w1 w.heap.size FAC (fzA z)) := Lib.hid (by rw [← hw1]; exact Blk.new _ _ _)
  have HK := Lib.hid k1
  have HAW : Hid (∀ W, Below w.heap.size w W → Calls Tryz.prog 5 #[] W fun e w' => e = .returned (.bool true) ∧ Below W.heap.size W w') := Lib.hid (fun W hW => awake_any W (HLB.out.below hW))
  have c2 : w1.cell? ⟨w.heap.size, 2, none⟩ = some (.string z.tags) := HBF.out.cell 2
  clear k1 hL hg
  by_cases hlong : 600 < s.size ∨ 300 < z.tags.size
  · have HA := Lib.hid (HAW.out w1 HK.out)
    have q : ((600 : Int) < (s.size : Int)) ∨ (¬ ((600 : Int) < (s.size : Int)) ∧ (300 : Int) < (z.tags.size : Int)) := by omega
    clear hlong
    rcases q with q1 | ⟨q1, q2⟩
    all_goals
      go_enter Tryz.func3, Tryz.ntmps3
      go_wp2_with fail
      refine HA.out.mono ?_
      rintro e w2 ⟨rfl, hb⟩
      have HB := Lib.hid (HK.out.trans (hb.mono HK.out.size))
      clear hb
      go_wp2_with fail
      go_ret
      exact ⟨rfl, HB.out⟩
  have q1 : ¬ (600 : Int) < (s.size : Int) := by omega
  have q2 : ¬ (300 : Int) < (z.tags.size : Int) := by omega
  have hs1 : s.size ≤ 600 := by omega
  have hz1 : z.tags.size ≤ 300 := by omega
  have HP := Lib.hid (parse_any s w1 (by omega) (HLB.out.below HK.out).all)
  clear hlong
  go_enter Tryz.func3, Tryz.ntmps3
  go_wp2_with fail
  refine HP.out.mono ?_
  rintro e w1' ⟨r, at_, v1, hsy, rfl, hv1, hb1⟩
  have HSY := Lib.hid hsy
  have HB1 := Lib.hid (HK.out.trans (hb1.mono HK.out.size))
  have HBF1 := Lib.hid (HBF.out.under hb1)
  have HV1 := Lib.hid hv1
  have HD := Lib.hid (dparse_any s w1' (by omega))
  clear hsy hb1 hv1 HP c2
  go_wp2_with fail
  refine HD.out.mono ?_
  rintro e w2 ⟨r', a', v, hsy, rfl, hdr, hb2⟩
  obtain ⟨rfl, rfl⟩ := hsy.det HSY.out
  have HB2 := Lib.hid (HB1.out.trans (hb2.mono HB1.out.size))
  have HBF2 := Lib.hid (HBF1.out.under hb2)
  have HDR := Lib.hid hdr
  have HV2 : Hid (RuleV w2 w1.heap.size r' v1) := Lib.hid (HV1.out.below hb2)
  clear hsy hdr hb2 HD HV1 hw1
  obtain ⟨w3, hw3⟩ : ∃ w3, w2.alloc (.cells #[.int .i64 0, .slice none 0 0, .string ⟨#[]⟩] NOA) = w3 := ⟨_, rfl⟩
  obtain ⟨w4, hw4⟩ : ∃ w4, ((w3.setCell ⟨w2.heap.size, 0, none⟩ (.int .i64 v.k)).setCell ⟨w2.heap.size, 1, none⟩ (.slice v.A v.m v.c)).setCell ⟨w2.heap.size, 2, none⟩ (.string v.s) = w4 := ⟨_, rfl⟩
  have H4 := Lib.hid (set3_new w2 w3 w4 _ _ _ hw3 hw4)
  have HB4 := Lib.hid (HB2.out.trans (H4.out.2.1.mono HB2.out.size))
  have HA4 := Lib.hid (HAW.out w4 HB4.out)
  have b3 : Blk w3 w2.heap.size NOA #[.int .i64 0, .slice none 0 0, .string ⟨#[]⟩] := by rw [← hw3]; exact Blk.new _ _ _
  obtain ⟨m0, m1, m2, p0, p1, p2⟩ := b3.at3
  clear b3
  rcases rulev_shape2 HV2.out with ⟨rfl, rfl⟩ | ⟨r, p, rfl, rfl⟩
  · simp only [errOf, Option.isNone_none, Option.isSome_none]
    go_wp2_with fail
    refine HA4.out.mono ?_
    rintro e w5 ⟨rfl, hb⟩
    have HB5 := Lib.hid (HB4.out.trans (hb.mono HB4.out.size))
    clear hb
    go_wp2_with fail
    go_ret
    exact ⟨rfl, HB5.out⟩
  have HSZ := Lib.hid HSY.out.sz
  have HH : Hid (∀ W, Below w4.heap.size w4 W → Calls Tryz.prog 8 #[.pointer (some p), .agg #[.string z.name, .string z.maker, .string z.tags, .int .i64 z.stock, .int .i64 z.price, .int .i64 z.born, .bool z.listed, .int .i64 z.now, .int .i64 z.age, .int .i64 z.fans, .bool z.follows, .bool z.done]] W (ROf (holdsR (fzX z) r) W)) := Lib.hid (fun W hW => Holds_any z (by omega) r _ _ W ((HV2.out.below H4.out.2.1).below hW) (by have := HSZ.out; omega) ((HG.out.keep HB4.out (Nat.le_refl _)).keep hW (Nat.le_refl _)))
  have HDH : Hid (∀ W, Below w4.heap.size w4 W → Calls Tryz.prog 9 #[.agg #[.int .i64 v.k, .slice v.A v.m v.c, .string v.s], .agg #[.string z.name, .string z.maker, .string z.tags, .int .i64 z.stock, .int .i64 z.price, .int .i64 z.born, .bool z.listed, .int .i64 z.now, .int .i64 z.age, .int .i64 z.fans, .bool z.follows, .bool z.done]] W (ROf (holdsR (fzX z) r) W)) := Lib.hid (fun W hW => by
    have hd : DRule W w1'.heap.size (some r) v := by
      have hk := H4.out.2.1.trans (hW.mono H4.out.2.1.size)
      cases r with
      | none => exact HDR.out
      | some n => exact ⟨HDR.out.1, HDR.out.2.under hk⟩
    exact dholds_any z (by omega) r _ v W hd (by have := HSZ.out; omega))
  have HAX : Hid (∀ W, Below w4.heap.size w4 W → Calls Tryz.prog 5 #[] W fun e w' => e = .returned (.bool true) ∧ Below W.heap.size W w') := Lib.hid (fun W hW => HAW.out W (HB4.out.trans (hW.mono HB4.out.size)))
  obtain ⟨b, hb⟩ : ∃ b, holdsR (fzX z) r = b := ⟨_, rfl⟩
  rw [hb] at HH HDH
  have hbb : (b == b) = true := by simp
  clear hb HA4
  simp only [errOf, Option.isNone_some, Option.isSome_some]
  go_upto_region 7 with fail
  clear hw3 hw4 m0 m1 m2 p0 p1 p2
  have HNO : Hid (∀ W, Below w4.heap.size w4 W → W.cell? ⟨w2.heap.size, 0, none⟩ = some (.int .i64 v.k) ∧ W.cell? ⟨w2.heap.size, 1, none⟩ = some (.slice v.A v.m v.c) ∧ W.cell? ⟨w2.heap.size, 2, none⟩ = some (.string v.s)) := Lib.hid (fun W hW => by
    have k := H4.out.1.under hW
    exact ⟨k.cell 0, k.cell 1, k.cell 2⟩)
  have HSC : Hid (∀ W, Below w4.heap.size w4 W → Blk W w.heap.size FAC (fzA z)) := Lib.hid (fun W hW => (HBF2.out.under H4.out.2.1).under hW)
  have HS0 : Hid (Below w4.heap.size w4 w4.drew) := Lib.hid (below_drew (Below.refl _ _))
  refine wp_plan (fun V => Below w4.heap.size w4 V) [(0, false), (1, false), (2, false), (3, false), (4, false), (6, false), (7, false), (5, true), (8, true), (9, false), (10, false), (11, false), (12, true), (13, false), (14, false)] (by kernel_rfl) (by kernel_rfl) HS0.out ?_
  simp only [planL, List.getElem?_cons_zero, List.getElem?_cons_succ]
  repeat (first | (refine plan_on _ (by rfl) (fun W hW => by (obtain ⟨q0, q1, q2⟩ := HNO.out W hW; obtain ⟨c0, c1, c2, c3, c4, c5, c6, c7, c8, c9, c10, c11⟩ := fz_all (HSC.out W hW); go_simp; try (first | with_reducible rfl | rw [if_neg (by omega)]))) ?_; simp only [Act.put, List.setIfInBounds_toArray, List.set_cons_zero, List.set_cons_succ]) | (refine plan_off (by rfl) ?_; simp only [Act.put, List.setIfInBounds_toArray, List.set_cons_zero, List.set_cons_succ]))
  refine plan_turn ?_
  have HC1 := Lib.hid (HH.out _ HS0.out)
  go_wp2_with fail
  refine HC1.out.mono ?_
  rintro e x1 ⟨rfl, hx⟩
  have HX1 : Hid (Below w4.heap.size w4 x1) := Lib.hid (HS0.out.trans (hx.mono HS0.out.size))
  clear hx HC1
  go_wp2_with fail
  refine ⟨HX1.out, ?_⟩
  repeat (first | (refine plan_on _ (by rfl) (fun W hW => by (obtain ⟨q0, q1, q2⟩ := HNO.out W hW; obtain ⟨c0, c1, c2, c3, c4, c5, c6, c7, c8, c9, c10, c11⟩ := fz_all (HSC.out W hW); go_simp; try (first | with_reducible rfl | rw [if_neg (by omega)]))) ?_; simp only [Act.put, List.setIfInBounds_toArray, List.set_cons_zero, List.set_cons_succ]) | (refine plan_off (by rfl) ?_; simp only [Act.put, List.setIfInBounds_toArray, List.set_cons_zero, List.set_cons_succ]))
  refine plan_turn ?_
  have HC2 := Lib.hid (HDH.out _ HX1.out)
  go_wp2_with fail
  refine HC2.out.mono ?_
  rintro e x2 ⟨rfl, hx⟩
  have HX2 : Hid (Below w4.heap.size w4 x2) := Lib.hid (HX1.out.trans (hx.mono HX1.out.size))
  clear hx HC2
  go_wp2_with fail
  refine ⟨HX2.out, ?_⟩
  repeat (first | (refine plan_on _ (by rfl) (fun W hW => by (obtain ⟨q0, q1, q2⟩ := HNO.out W hW; obtain ⟨c0, c1, c2, c3, c4, c5, c6, c7, c8, c9, c10, c11⟩ := fz_all (HSC.out W hW); go_simp; try (first | with_reducible rfl | rw [if_neg (by omega)]))) ?_; simp only [Act.put, List.setIfInBounds_toArray, List.set_cons_zero, List.set_cons_succ]) | (refine plan_off (by rfl) ?_; simp only [Act.put, List.setIfInBounds_toArray, List.set_cons_zero, List.set_cons_succ]))
  refine plan_turn ?_
  have HC3 := Lib.hid (HAX.out _ HX2.out)
  go_wp2_with fail
  refine HC3.out.mono ?_
  rintro e x3 ⟨rfl, hx⟩
  have HX3 : Hid (Below w4.heap.size w4 x3) := Lib.hid (HX2.out.trans (hx.mono HX2.out.size))
  clear hx HC3
  go_wp2_with fail
  refine ⟨HX3.out, ?_⟩
  repeat (first | (refine plan_on _ (by rfl) (fun W hW => by (obtain ⟨q0, q1, q2⟩ := HNO.out W hW; obtain ⟨c0, c1, c2, c3, c4, c5, c6, c7, c8, c9, c10, c11⟩ := fz_all (HSC.out W hW); go_simp; try (first | with_reducible rfl | rw [if_neg (by omega)]))) ?_; simp only [Act.put, List.setIfInBounds_toArray, List.set_cons_zero, List.set_cons_succ]) | (refine plan_off (by rfl) ?_; simp only [Act.put, List.setIfInBounds_toArray, List.set_cons_zero, List.set_cons_succ]))
  refine plan_done ?_
  go_wp2_with fail
  go_ret
  exact ⟨rfl, HB4.out.trans (HX3.out.mono HB4.out.size)⟩
end Go.Proofs.YtpgbgeofhcpocaaGreatDoor
