/- RuleOwn: the walk. -/
import Derived.Test.YtpgbgeofhcpocaaDoorRuHn
namespace Go.Proofs.YtpgbgeofhcpocaaDoor
open Go.RowKit Go.Maps Go.Shelf
set_option linter.unusedVariables false

theorem rulev_shape {w : World} {B : Nat} {r : Option (Option Nd)} {v : Value} (h : RuleV w B r v) : (r = none ∧ v = .pointer none) ∨ ∃ r' p, r = some r' ∧ v = .pointer (some p) := by
  match r, h with
  | none, h => exact Or.inl ⟨rfl, h⟩
  | some none, ⟨g, e, _⟩ => exact Or.inr ⟨_, _, rfl, e⟩
  | some (some n), ⟨_, g, u, e, _⟩ => exact Or.inr ⟨_, _, rfl, e⟩
theorem says_empty : Says ⟨#[]⟩ (some none) 0 := .empty (by decide) (by decide)
theorem says_own {s : ByteArray} {r : Option Nd} {a : Nat} (h : Says s (some r) a) (hs : s.size ≤ 1000) : Says (ruleT r) (some r) 0 ∧ (ruleT r).size ≤ 2 * s.size := by
  cases r with
  | none => exact ⟨says_empty, Nat.zero_le _⟩
  | some n =>
    obtain ⟨_, h2, h3⟩ := h.own hs
    exact ⟨h2, by show (ownB n 0).size ≤ _; rw [ownB_size]; exact h3⟩

set_option maxHeartbeats 8000000 in
set_option maxRecDepth 100000 in
theorem ruleOwn_walk (s : ByteArray) (z : Fz) (w : World) (hs : s.size ≤ 140737488355328) (hL : LibAt w) (hg : GlobAt w) :
    Calls Tryd.prog 6 #[.string s, .agg (fzA z)] w fun e w' => e = .returned (.bool true) ∧ Below w.heap.size w w' := by
  show Calls Tryd.prog 6 #[.string s, .agg #[.string z.name, .string z.maker, .string z.tags, .int .i64 z.stock, .int .i64 z.price, .int .i64 z.born, .bool z.listed, .int .i64 z.now, .int .i64 z.age, .int .i64 z.fans, .bool z.follows, .bool z.done]] w _
  have HLB := Lib.hid hL
  have HG := Lib.hid hg
  obtain ⟨w1, hw1⟩ : ∃ w1, w.alloc (.cells #[.string z.name, .string z.maker, .string z.tags, .int .i64 z.stock, .int .i64 z.price, .int .i64 z.born, .bool z.listed, .int .i64 z.now, .int .i64 z.age, .int .i64 z.fans, .bool z.follows, .bool z.done] FAC) = w1 := ⟨_, rfl⟩
  have k1 : Below w.heap.size w w1 := by rw [← hw1]; exact (Below.refl _ _).alloc (Nat.le_refl _) _
  have HBF : Hid (Blk w1 w.heap.size FAC (fzA z)) := Lib.hid (by rw [← hw1]; exact Blk.new _ _ _)
  have HK := Lib.hid k1
  have HAW : Hid (∀ W, Below w.heap.size w W → Calls Tryd.prog 8 #[] W fun e w' => e = .returned (.bool true) ∧ Below W.heap.size W w') := Lib.hid (fun W hW => awake_any W (HLB.out.below hW))
  have c2 : w1.cell? ⟨w.heap.size, 2, none⟩ = some (.string z.tags) := HBF.out.cell 2
  clear k1 hL hg
  by_cases hlong : 600 < s.size ∨ 300 < z.tags.size
  · have HA := Lib.hid (HAW.out w1 HK.out)
    have q : ((600 : Int) < (s.size : Int)) ∨ (¬ ((600 : Int) < (s.size : Int)) ∧ (300 : Int) < (z.tags.size : Int)) := by omega
    clear hlong
    rcases q with q1 | ⟨q1, q2⟩
    all_goals
      go_enter Tryd.func6, Tryd.ntmps6
      go_wp2_with fail
      refine HA.out.mono ?_
      rintro e w2 ⟨rfl, hb⟩
      have HB := Lib.hid (HK.out.trans (hb.mono HK.out.size))
      clear hb
      go_wp2_with fail
      go_ret
      exact ⟨rfl, HB.out⟩
  have q1 : ¬ (600 : Int) < (s.size : Int) := by omega
  have q2 : ¬ (300 : Int) < (z.tags.size : Int) := by omega
  have hs1 : s.size ≤ 600 := by omega
  have hz1 : z.tags.size ≤ 300 := by omega
  have HP := Lib.hid (parse_any s w1 (by omega) (HLB.out.below HK.out).all)
  clear hlong
  go_enter Tryd.func6, Tryd.ntmps6
  go_wp2_with fail
  refine HP.out.mono ?_
  rintro e w2 ⟨r, at_, v1, hsy, rfl, hv1, hb2⟩
  have HB2 := Lib.hid (HK.out.trans (hb2.mono HK.out.size))
  have HBF2 := Lib.hid (HBF.out.under hb2)
  have HSY := Lib.hid hsy
  have HV1 := Lib.hid hv1
  have HA2 := Lib.hid (HAW.out w2 HB2.out)
  clear hsy hv1 hb2 HP c2 hw1
  rcases rulev_shape HV1.out with ⟨rfl, rfl⟩ | ⟨r, p1, rfl, rfl⟩
  · simp only [errOf, Option.isNone_none]
    go_wp2_with fail
    refine HA2.out.mono ?_
    rintro e w3 ⟨rfl, hb⟩
    have HB := Lib.hid (HB2.out.trans (hb.mono HB2.out.size))
    clear hb
    go_wp2_with fail
    go_ret
    exact ⟨rfl, HB.out⟩
  have HOWN := Lib.hid (says_own HSY.out (by omega))
  have HT1 : Hid (∀ W, Below w2.heap.size w2 W → Calls Tryd.prog 11 #[.pointer (some p1)] W fun e w' => e = .returned (.string (ruleT r)) ∧ Below W.heap.size W w') := Lib.hid (fun W hW => Text_any r _ _ W (HV1.out.below hW) (by have := HOWN.out.2; omega) ((HLB.out.below HB2.out).below hW).2)
  obtain ⟨t, ht⟩ : ∃ t, ruleT r = t := ⟨_, rfl⟩
  have HT := Lib.hid ht
  rw [ht] at HT1 HOWN
  have hts : t.size ≤ 2 * s.size := HOWN.out.2
  have HT1a := Lib.hid (HT1.out w2 (Below.refl _ _))
  clear ht HA2
  simp only [errOf, Option.isNone_some]
  go_wp2_with fail
  refine HT1a.out.mono ?_
  rintro e w3 ⟨rfl, hb3⟩
  have HB23 := Lib.hid hb3
  have HP2 := Lib.hid (parse_any t w3 (by omega) ((HLB.out.below HB2.out).below hb3).all)
  clear hb3 HT1a
  go_wp2_with fail
  refine HP2.out.mono ?_
  rintro e w4 ⟨r4, at4, v4, hsy4, rfl, hv4, hb4⟩
  obtain ⟨rfl, rfl⟩ := hsy4.det HOWN.out.1
  have HB24 := Lib.hid (HB23.out.trans (hb4.mono HB23.out.size))
  have HB4 := Lib.hid (HB2.out.trans (HB24.out.mono HB2.out.size))
  have HV4 := Lib.hid hv4
  obtain ⟨p4, hp4⟩ : ∃ p4, v4 = .pointer (some p4) := by
    rcases rulev_shape hv4 with ⟨h, _⟩ | ⟨_, p, _, h⟩
    · cases h
    · exact ⟨p, h⟩
  subst hp4
  have HT4 : Hid (∀ W, Below w4.heap.size w4 W → Calls Tryd.prog 11 #[.pointer (some p4)] W fun e w' => e = .returned (.string t) ∧ Below W.heap.size W w') := Lib.hid (fun W hW => by
    have := Text_any r _ _ W (HV4.out.below hW) (by rw [HT.out]; omega) ((HLB.out.below HB4.out).below hW).2
    rwa [HT.out] at this)
  have HH4 : Hid (∀ W, Below w4.heap.size w4 W → Calls Tryd.prog 14 #[.pointer (some p4), .agg #[.string z.name, .string z.maker, .string z.tags, .int .i64 z.stock, .int .i64 z.price, .int .i64 z.born, .bool z.listed, .int .i64 z.now, .int .i64 z.age, .int .i64 z.fans, .bool z.follows, .bool z.done]] W (ROf (holdsR (fzX z) r) W)) := Lib.hid (fun W hW => Holds_any z (by omega) r _ _ W (HV4.out.below hW) (by rw [HT.out]; omega) ((HG.out.keep HB4.out (Nat.le_refl _)).keep hW (Nat.le_refl _)))
  have HH1 : Hid (∀ W, Below w4.heap.size w4 W → Calls Tryd.prog 14 #[.pointer (some p1), .agg #[.string z.name, .string z.maker, .string z.tags, .int .i64 z.stock, .int .i64 z.price, .int .i64 z.born, .bool z.listed, .int .i64 z.now, .int .i64 z.age, .int .i64 z.fans, .bool z.follows, .bool z.done]] W (ROf (holdsR (fzX z) r) W)) := Lib.hid (fun W hW => Holds_any z (by omega) r _ _ W ((HV1.out.below HB24.out).below hW) (by rw [HT.out]; omega) ((HG.out.keep HB4.out (Nat.le_refl _)).keep hW (Nat.le_refl _)))
  have HT14 : Hid (∀ W, Below w4.heap.size w4 W → Calls Tryd.prog 11 #[.pointer (some p1)] W fun e w' => e = .returned (.string t) ∧ Below W.heap.size W w') := Lib.hid (fun W hW => HT1.out W (HB24.out.trans (hW.mono HB24.out.size)))
  have HAW4 : Hid (∀ W, Below w4.heap.size w4 W → Calls Tryd.prog 8 #[] W fun e w' => e = .returned (.bool true) ∧ Below W.heap.size W w') := Lib.hid (fun W hW => HAW.out W (HB4.out.trans (hW.mono HB4.out.size)))
  have HSC : Hid (∀ W, Below w4.heap.size w4 W → Blk W w.heap.size FAC (fzA z)) := Lib.hid (fun W hW => (HBF2.out.under HB24.out).under hW)
  obtain ⟨b, hb⟩ : ∃ b, holdsR (fzX z) r = b := ⟨_, rfl⟩
  rw [hb] at HH4 HH1
  have hbeq : (t.toList == t.toList) = true := by simp
  have hbb : (b == b) = true := by simp
  have hmul : IntKind.i64.wrap (2 * (s.size : Int)) = 2 * (s.size : Int) := by rw [IntKind.wrap_i64]; omega
  have hle : (t.size : Int) ≤ 2 * (s.size : Int) := by omega
  clear hsy4 hv4 hb4 hb HP2 HT1
  simp only [errOf, Option.isNone_some]
  go_upto_region 9 with fail
  have HS0 : Hid (Below w4.heap.size w4 w4.drew) := Lib.hid (below_drew (Below.refl _ _))
  refine wp_plan (fun V => Below w4.heap.size w4 V) [(0, false), (1, false), (2, false), (3, false), (4, false), (5, false), (6, false), (7, false), (9, false), (8, true), (10, true), (11, false), (12, false), (13, false), (14, false), (15, false), (17, false), (18, false), (16, true), (19, true), (20, false), (21, false), (22, false), (23, false), (26, false), (27, false), (28, false), (24, true), (25, false), (29, false), (30, false), (31, false), (32, true), (33, false), (34, false)] (by kernel_rfl) (by kernel_rfl) HS0.out ?_
  simp only [planL, List.getElem?_cons_zero, List.getElem?_cons_succ]
  repeat (first | (refine plan_on _ (by rfl) (fun W hW => by (obtain ⟨c0, c1, c2, c3, c4, c5, c6, c7, c8, c9, c10, c11⟩ := fz_all (HSC.out W hW); go_simp; try (first | with_reducible rfl | rw [if_neg (by omega)]))) ?_; simp only [Act.put, List.setIfInBounds_toArray, List.set_cons_zero, List.set_cons_succ]) | (refine plan_off (by rfl) ?_; simp only [Act.put, List.setIfInBounds_toArray, List.set_cons_zero, List.set_cons_succ]))
  refine plan_turn ?_
  have HC1 := Lib.hid (HT4.out _ HS0.out)
  go_wp2_with fail
  refine HC1.out.mono ?_
  rintro e x1 ⟨rfl, hx⟩
  have HX1 : Hid (Below w4.heap.size w4 x1) := Lib.hid (HS0.out.trans (hx.mono HS0.out.size))
  clear hx HC1
  go_wp2_with fail
  refine ⟨HX1.out, ?_⟩
  repeat (first | (refine plan_on _ (by rfl) (fun W hW => by (obtain ⟨c0, c1, c2, c3, c4, c5, c6, c7, c8, c9, c10, c11⟩ := fz_all (HSC.out W hW); go_simp; try (first | with_reducible rfl | rw [if_neg (by omega)]))) ?_; simp only [Act.put, List.setIfInBounds_toArray, List.set_cons_zero, List.set_cons_succ]) | (refine plan_off (by rfl) ?_; simp only [Act.put, List.setIfInBounds_toArray, List.set_cons_zero, List.set_cons_succ]))
  refine plan_turn ?_
  have HC2 := Lib.hid (HT14.out _ HX1.out)
  go_wp2_with fail
  refine HC2.out.mono ?_
  rintro e x2 ⟨rfl, hx⟩
  have HX2 : Hid (Below w4.heap.size w4 x2) := Lib.hid (HX1.out.trans (hx.mono HX1.out.size))
  clear hx HC2
  go_wp2_with fail
  refine ⟨HX2.out, ?_⟩
  repeat (first | (refine plan_on _ (by rfl) (fun W hW => by (obtain ⟨c0, c1, c2, c3, c4, c5, c6, c7, c8, c9, c10, c11⟩ := fz_all (HSC.out W hW); go_simp; try (first | with_reducible rfl | rw [if_neg (by omega)]))) ?_; simp only [Act.put, List.setIfInBounds_toArray, List.set_cons_zero, List.set_cons_succ]) | (refine plan_off (by rfl) ?_; simp only [Act.put, List.setIfInBounds_toArray, List.set_cons_zero, List.set_cons_succ]))
  refine plan_turn ?_
  have HC3 := Lib.hid (HH4.out _ HX2.out)
  go_wp2_with fail
  refine HC3.out.mono ?_
  rintro e x3 ⟨rfl, hx⟩
  have HX3 : Hid (Below w4.heap.size w4 x3) := Lib.hid (HX2.out.trans (hx.mono HX2.out.size))
  clear hx HC3
  go_wp2_with fail
  refine ⟨HX3.out, ?_⟩
  repeat (first | (refine plan_on _ (by rfl) (fun W hW => by (obtain ⟨c0, c1, c2, c3, c4, c5, c6, c7, c8, c9, c10, c11⟩ := fz_all (HSC.out W hW); go_simp; try (first | with_reducible rfl | rw [if_neg (by omega)]))) ?_; simp only [Act.put, List.setIfInBounds_toArray, List.set_cons_zero, List.set_cons_succ]) | (refine plan_off (by rfl) ?_; simp only [Act.put, List.setIfInBounds_toArray, List.set_cons_zero, List.set_cons_succ]))
  refine plan_turn ?_
  have HC4 := Lib.hid (HH1.out _ HX3.out)
  go_wp2_with fail
  refine HC4.out.mono ?_
  rintro e x4 ⟨rfl, hx⟩
  have HX4 : Hid (Below w4.heap.size w4 x4) := Lib.hid (HX3.out.trans (hx.mono HX3.out.size))
  clear hx HC4
  go_wp2_with fail
  refine ⟨HX4.out, ?_⟩
  repeat (first | (refine plan_on _ (by rfl) (fun W hW => by (obtain ⟨c0, c1, c2, c3, c4, c5, c6, c7, c8, c9, c10, c11⟩ := fz_all (HSC.out W hW); go_simp; try (first | with_reducible rfl | rw [if_neg (by omega)]))) ?_; simp only [Act.put, List.setIfInBounds_toArray, List.set_cons_zero, List.set_cons_succ]) | (refine plan_off (by rfl) ?_; simp only [Act.put, List.setIfInBounds_toArray, List.set_cons_zero, List.set_cons_succ]))
  refine plan_turn ?_
  have HC5 := Lib.hid (HT14.out _ HX4.out)
  go_wp2_with fail
  refine HC5.out.mono ?_
  rintro e x5 ⟨rfl, hx⟩
  have HX5 : Hid (Below w4.heap.size w4 x5) := Lib.hid (HX4.out.trans (hx.mono HX4.out.size))
  clear hx HC5
  go_wp2_with fail
  refine ⟨HX5.out, ?_⟩
  repeat (first | (refine plan_on _ (by rfl) (fun W hW => by (obtain ⟨c0, c1, c2, c3, c4, c5, c6, c7, c8, c9, c10, c11⟩ := fz_all (HSC.out W hW); go_simp; try (first | with_reducible rfl | rw [if_neg (by omega)]))) ?_; simp only [Act.put, List.setIfInBounds_toArray, List.set_cons_zero, List.set_cons_succ]) | (refine plan_off (by rfl) ?_; simp only [Act.put, List.setIfInBounds_toArray, List.set_cons_zero, List.set_cons_succ]))
  refine plan_turn ?_
  have HC6 := Lib.hid (HAW4.out _ HX5.out)
  go_wp2_with fail
  refine HC6.out.mono ?_
  rintro e x6 ⟨rfl, hx⟩
  have HX6 : Hid (Below w4.heap.size w4 x6) := Lib.hid (HX5.out.trans (hx.mono HX5.out.size))
  clear hx HC6
  go_wp2_with fail
  refine ⟨HX6.out, ?_⟩
  repeat (first | (refine plan_on _ (by rfl) (fun W hW => by (obtain ⟨c0, c1, c2, c3, c4, c5, c6, c7, c8, c9, c10, c11⟩ := fz_all (HSC.out W hW); go_simp; try (first | with_reducible rfl | rw [if_neg (by omega)]))) ?_; simp only [Act.put, List.setIfInBounds_toArray, List.set_cons_zero, List.set_cons_succ]) | (refine plan_off (by rfl) ?_; simp only [Act.put, List.setIfInBounds_toArray, List.set_cons_zero, List.set_cons_succ]))
  refine plan_done ?_
  go_wp2_with fail
  go_ret
  exact ⟨rfl, HB4.out.trans (HX6.out.mono HB4.out.size)⟩
end Go.Proofs.YtpgbgeofhcpocaaDoor
