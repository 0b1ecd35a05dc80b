/- RuleParses: the walk. -/
import Derived.Test.YtpgbgeofhcpocaaDoorRuAw
namespace Go.Proofs.YtpgbgeofhcpocaaDoor
open Go.RowKit Go.Maps Go.Shelf
set_option linter.unusedVariables false

theorem rule_eq (r : Option Nd) : ruleB r = ruleT r := by cases r <;> rfl
/-- How long a rule's own text is. -/
theorem Says.sz {s : ByteArray} {r : Option Nd} {a : Nat} (h : Says s (some r) a) : (ruleT r).size ≤ 4000 := by
  cases h with
  | empty h h0 => exact Nat.zero_le _
  | @good ns h h0 hp =>
    have hnf := hp.nf rfl
    have h1 := (hp.len rfl (by omega)).1 (by omega)
    have h2 := nodeOf_len (k := 0) (by omega) hnf.1 hnf.2
    have h3 := ownN_mono (nodeOf 0 ns) (show 0 ≤ 0 + 1 by omega)
    have h4 : szL (tx (toks s)) ≤ s.size := by
      rw [toks_tk]
      have := tkA_sz s.data.toList []
      unfold tkS
      simpa using this
    have h5 : szL [] = 0 := rfl
    have h6 : (ruleT (some (nodeOf 0 ns))).size = (ownN (nodeOf 0 ns) 0).length := ownB_sz _ 0
    rw [h6]
    omega
theorem below_set {B : Nat} {a w : World} (h : Below B a w) {b i : Nat} (hb : B ≤ b) (u : Value) : Below B a (w.setCell ⟨b, i, none⟩ u) := h.setCell hb u

set_option maxHeartbeats 4000000 in
set_option maxRecDepth 100000 in
theorem ruleParses_walk (s : ByteArray) (w : World) (hs : s.size ≤ 140737488355328) (hL : LibAt w) :
    Calls Tryd.prog 3 #[.string s] w fun e w' => e = .returned (.bool true) ∧ Below w.heap.size w w' := by
  have HLB := Lib.hid hL
  by_cases hlong : 2100 < s.size
  · have q1 : (2100 : Int) < (s.size : Int) := by omega
    have HA := Lib.hid (awake_any w hL)
    clear hL hlong
    go_enter Tryd.func3, Tryd.ntmps3
    go_wp2_with fail
    refine HA.out.mono ?_
    rintro e w1 ⟨rfl, hb⟩
    go_wp2_with fail
    go_ret
    exact ⟨rfl, hb⟩
  have q1 : ¬ (2100 : Int) < (s.size : Int) := by omega
  have HP := Lib.hid (parse_any s w (by omega) hL.all)
  have hs2 : s.size ≤ 2100 := by omega
  clear hL hlong
  go_enter Tryd.func3, Tryd.ntmps3
  go_wp2_with fail
  refine HP.out.mono ?_
  rintro e w1 ⟨r, a, v1, hsy, rfl, hv1, hb1⟩
  have HSY := Lib.hid hsy
  have HB1 := Lib.hid hb1
  have HV1 := Lib.hid hv1
  have HD := Lib.hid (dparse_any s w1 (by omega))
  clear hsy hb1 hv1 HP
  go_wp2_with fail
  refine HD.out.mono ?_
  rintro e w2 ⟨r', a', v, hsy, rfl, hdr, hb2⟩
  obtain ⟨rfl, rfl⟩ := hsy.det HSY.out
  have HB2 := Lib.hid (HB1.out.trans (hb2.mono HB1.out.size))
  have HDR := Lib.hid hdr
  have HV2 : Hid (RuleV w2 w.heap.size r' v1) := Lib.hid (HV1.out.below hb2)
  clear hsy hdr hb2 HD HV1
  obtain ⟨w3, hw3⟩ : ∃ w3, w2.alloc (.cells #[.int .i64 0, .slice none 0 0, .string ⟨#[]⟩] NOA) = w3 := ⟨_, rfl⟩
  obtain ⟨w4, hw4⟩ : ∃ w4, ((w3.setCell ⟨w2.heap.size, 0, none⟩ (.int .i64 v.k)).setCell ⟨w2.heap.size, 1, none⟩ (.slice v.A v.m v.c)).setCell ⟨w2.heap.size, 2, none⟩ (.string v.s) = w4 := ⟨_, rfl⟩
  have H4 := Lib.hid (set3_new w2 w3 w4 _ _ _ hw3 hw4)
  have HB4 := Lib.hid (HB2.out.trans (H4.out.2.1.mono HB2.out.size))
  have HA4 := Lib.hid (awake_any w4 (HLB.out.below HB4.out))
  have b3 : Blk w3 w2.heap.size NOA #[.int .i64 0, .slice none 0 0, .string ⟨#[]⟩] := by rw [← hw3]; exact Blk.new _ _ _
  obtain ⟨m0, m1, m2, p0, p1, p2⟩ := b3.at3
  clear b3
  cases r' with
  | none =>
    obtain rfl : v1 = .pointer none := HV2.out
    simp only [errOf, Option.isNone_none, Option.isSome_none]
    go_wp2_with fail
    refine HA4.out.mono ?_
    rintro e w5 ⟨rfl, hb⟩
    have HB5 := Lib.hid (HB4.out.trans (hb.mono HB4.out.size))
    clear hb
    go_wp2_with fail
    go_ret
    exact ⟨rfl, HB5.out⟩
  | some r =>
    have ha : a' = 0 := by
      have h := HSY.out
      cases h <;> rfl
    subst ha
    obtain ⟨p, hp⟩ : ∃ p, v1 = .pointer (some p) := by
      cases r with
      | none => obtain ⟨g, rfl, _⟩ := HV2.out; exact ⟨_, rfl⟩
      | some n => obtain ⟨_, g, u, rfl, _⟩ := HV2.out; exact ⟨_, rfl⟩
    subst hp
    have hsz := HSY.out.sz
    have HV4 : Hid (∀ W, Below w4.heap.size w4 W → Calls Tryd.prog 11 #[.pointer (some p)] W fun e w' => e = .returned (.string (ruleT r)) ∧ Below W.heap.size W w') := Lib.hid (fun W hW => Text_any r w.heap.size _ W ((HV2.out.below H4.out.2.1).below hW) (by omega) ((HLB.out.below HB4.out).below hW).2)
    have HD4 : Hid (∀ W, Below w4.heap.size w4 W → Calls Tryd.prog 12 #[.agg #[.int .i64 v.k, .slice v.A v.m v.c, .string v.s]] W fun e w' => e = .returned (.string (ruleT r)) ∧ Below W.heap.size W w') := Lib.hid (fun W hW => by
      have hd : DRule W w1.heap.size (some r) v := by
        have hk := H4.out.2.1.trans (hW.mono H4.out.2.1.size)
        cases r with
        | none => exact HDR.out
        | some n => exact ⟨HDR.out.1, HDR.out.2.under hk⟩
      have := dtext_any r w1.heap.size v W hd (by rw [rule_eq]; omega)
      rw [rule_eq] at this
      exact this)
    have HAW : Hid (∀ W, Below w4.heap.size w4 W → Calls Tryd.prog 8 #[] W fun e w' => e = .returned (.bool true) ∧ Below W.heap.size W w') := Lib.hid (fun W hW => awake_any W ((HLB.out.below HB4.out).below hW))
    obtain ⟨txt, htxt⟩ : ∃ txt, ruleT r = txt := ⟨_, rfl⟩
    rw [htxt] at HV4 HD4
    have hbeq : (txt.toList == txt.toList) = true := by simp
    clear htxt hsz HA4
    simp only [errOf, Option.isNone_some, Option.isSome_some]
    go_upto_region 7 with fail
    clear hw3 hw4 m0 m1 m2 p0 p1 p2
    have HNO : Hid (∀ W, Below w4.heap.size w4 W → W.cell? ⟨w2.heap.size, 0, none⟩ = some (.int .i64 v.k) ∧ W.cell? ⟨w2.heap.size, 1, none⟩ = some (.slice v.A v.m v.c) ∧ W.cell? ⟨w2.heap.size, 2, none⟩ = some (.string v.s)) := Lib.hid (fun W hW => by
      have k := H4.out.1.under hW
      exact ⟨k.cell 0, k.cell 1, k.cell 2⟩)
    have HS0 : Hid (Below w4.heap.size w4 w4.drew) := Lib.hid (below_drew (Below.refl _ _))
    refine wp_plan (fun V => Below w4.heap.size w4 V) [(0, false), (1, false), (2, false), (3, false), (4, false), (5, false), (6, false), (7, false), (8, false), (9, false), (10, false), (11, false), (13, false), (12, true), (14, true), (15, false), (16, false), (17, false), (18, true), (19, false), (20, false)] (by kernel_rfl) (by kernel_rfl) HS0.out ?_
    simp only [planL, List.getElem?_cons_zero, List.getElem?_cons_succ]
    repeat (first | (refine plan_on _ (by rfl) (fun W hW => by (obtain ⟨q0, q1, q2⟩ := HNO.out W hW; go_simp; try (first | with_reducible rfl | rw [if_neg (by omega)]))) ?_; simp only [Act.put, List.setIfInBounds_toArray, List.set_cons_zero, List.set_cons_succ]) | (refine plan_off (by rfl) ?_; simp only [Act.put, List.setIfInBounds_toArray, List.set_cons_zero, List.set_cons_succ]))
    refine plan_turn ?_
    have HC1 := Lib.hid (HV4.out _ HS0.out)
    go_wp2_with fail
    refine HC1.out.mono ?_
    rintro e x1 ⟨rfl, hx1⟩
    have HX1 : Hid (Below w4.heap.size w4 x1) := Lib.hid (HS0.out.trans (hx1.mono (Nat.le_refl _)))
    clear hx1
    go_wp2_with fail
    refine ⟨HX1.out, ?_⟩
    repeat (first | (refine plan_on _ (by rfl) (fun W hW => by (obtain ⟨q0, q1, q2⟩ := HNO.out W hW; go_simp; try (first | with_reducible rfl | rw [if_neg (by omega)]))) ?_; simp only [Act.put, List.setIfInBounds_toArray, List.set_cons_zero, List.set_cons_succ]) | (refine plan_off (by rfl) ?_; simp only [Act.put, List.setIfInBounds_toArray, List.set_cons_zero, List.set_cons_succ]))
    refine plan_turn ?_
    have HC2 := Lib.hid (HD4.out _ HX1.out)
    go_wp2_with fail
    refine HC2.out.mono ?_
    rintro e x2 ⟨rfl, hx2⟩
    have HX2 : Hid (Below w4.heap.size w4 x2) := Lib.hid (HX1.out.trans (hx2.mono HX1.out.size))
    clear hx2
    go_wp2_with fail
    refine ⟨HX2.out, ?_⟩
    repeat (first | (refine plan_on _ (by rfl) (fun W hW => by (obtain ⟨q0, q1, q2⟩ := HNO.out W hW; go_simp; try (first | with_reducible rfl | rw [if_neg (by omega)]))) ?_; simp only [Act.put, List.setIfInBounds_toArray, List.set_cons_zero, List.set_cons_succ]) | (refine plan_off (by rfl) ?_; simp only [Act.put, List.setIfInBounds_toArray, List.set_cons_zero, List.set_cons_succ]))
    refine plan_turn ?_
    have HC3 := Lib.hid (HAW.out _ HX2.out)
    go_wp2_with fail
    refine HC3.out.mono ?_
    rintro e x3 ⟨rfl, hx3⟩
    have HX3 : Hid (Below w4.heap.size w4 x3) := Lib.hid (HX2.out.trans (hx3.mono HX2.out.size))
    clear hx3
    go_wp2_with fail
    refine ⟨HX3.out, ?_⟩
    repeat (first | (refine plan_on _ (by rfl) (fun W hW => by (obtain ⟨q0, q1, q2⟩ := HNO.out W hW; go_simp; try (first | with_reducible rfl | rw [if_neg (by omega)]))) ?_; simp only [Act.put, List.setIfInBounds_toArray, List.set_cons_zero, List.set_cons_succ]) | (refine plan_off (by rfl) ?_; simp only [Act.put, List.setIfInBounds_toArray, List.set_cons_zero, List.set_cons_succ]))
    refine plan_done ?_
    go_wp2_with fail
    go_ret
    exact ⟨rfl, HB4.out.trans (HX3.out.mono HB4.out.size)⟩
end Go.Proofs.YtpgbgeofhcpocaaDoor
