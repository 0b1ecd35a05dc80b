/- A part of the joined base. -/
import Derived.Test.YthdmpcnnbminlaaGreatDoorR01
import Derived.Test.YthdmpcnnbminlaaGreatDoorR38
import Derived.BigQuiet
set_option linter.unusedVariables false
set_option maxHeartbeats 8000000
set_option maxRecDepth 100000
namespace Go.Proofs.YthdmpcnnbminlaaGreatDoor
open Go.Shelf Go.RowKit Go.Maps
theorem evtags_few (t : ByteArray) : (evTags t).length ≤ t.size + 1 := by
 unfold evTags
 split
 ·simp
 ·have h1 := Lib.splitB_length_le ⟨#[44]⟩ 0 (Lib.countB (restP t) ⟨#[44]⟩) (restP t)
  have h2 := cut_le t
  have h3 : Lib.countB (restP t) ⟨#[44]⟩ ≤ (restP t).size := Lib.countB_le ⟨#[44]⟩ (by decide) _ _ (Nat.le_refl _)
  unfold parts
  omega
theorem rlabel_any (s : ByteArray) (w : World) (hs : s.size ≤ 1000000) :
  Calls Tryz.prog 138 #[.string s] w fun e w' => e = .returned (.bool (listB s)) ∧ Below w.heap.size w w' := by
 have HPL := zh (place_any s w (by omega))
 have HMK := zh (rmaker_any s w (by omega))
 have hle := head_le s
 have HP := zh (parts_le s)
 have hfw := evtags_few s
 have HL : Hid (listB s = (cutsP s && (nameB (headP s) && (decide ((evTags s).length ≤ 8) && riseB (evTags s))))) := zh rfl
 have HN := zh (rname_any (headP s) w (by unfold maxLen; omega))
 have HT := zh (rtags_any s w hs)
 go_enter Tryz.func138, Tryz.ntmps138
 go_wp2_with fail
 refine HPL.out.mono ?_
 rintro e w1 ⟨r, rfl, hr, rfl⟩
 clear HPL
 rcases hr with ⟨k, rfl, hk, hsm⟩ | ⟨rfl, hno⟩
 ·have HCT := zh (cut_hit hsm).2.2
  have hk7 : decide ((k : Int) < 0) = false := decide_eq_false (by omega)
  clear hsm
  go_wp2_with fail
  refine HMK.out.mono ?_
  rintro e w1 ⟨rfl, rfl⟩
  clear HMK
  generalize headP s = h at *
  go_wp2_with fail
  refine HN.out.mono ?_
  rintro e w1 ⟨rfl, rfl⟩
  clear HN
  cases hn : nameB h
  ·have HNM := zh hn
   clear hn
   go_wp2_with fail
   go_ret
   exact ⟨ret_bool (by rw [HL.out, HCT.out, HNM.out]; rfl), Below.refl _ _⟩
  ·have HNM := zh hn
   clear hn
   go_wp2_with fail
   refine HT.out.mono ?_
   rintro e w2 ⟨A, c, rfl, hown, hb2⟩
   have hrow := RowIn.of_own hown
   clear HT
   have HB2 : Hid (Below w.heap.size w w2) := zh hb2
   generalize evTags s = l at *
   obtain ⟨n, hn⟩ : ∃ n, l.length = n := ⟨_, rfl⟩
   rw [hn] at hrow hfw ⊢
   have HLN := zh hn
   have HR := zh hrow
   clear hrow hb2 hn hown
   go_wp2_with fail
   go_loopw [4] (fun i wr => ∃ k q : Nat, k ≤ n ∧ i = .int .i64 k ∧ Hid (∀ j, j < k → okAt l j) ∧ wr = w2.drewN q) (fun i _ => n - (intOf i).toNat)
   case atStart => exact ⟨0, 0, Nat.zero_le _, rfl, zh (fun j hj => by omega), rfl⟩
   case round =>
    obtain ⟨k, q, hk, rfl, hok, hwr⟩ := hrel
    have HBR : Hid (Below w.heap.size w wr) := zh (by rw [hwr]; exact below_drewN HB2.out _)
    have HRR : Hid (RowIn wr w2.heap.size 1 A n (l.map .string)) := zh (by rw [hwr]; exact HR.out.drewN _)
    have HWR := zh hwr
    clear hwr
    by_cases hlt : k < n
    ·obtain ⟨t, ht⟩ : ∃ t, l[k]? = some t := ⟨l[k]'(by rw [HLN.out]; exact hlt), List.getElem?_eq_getElem _⟩
     obtain ⟨g, o, rfl, _, hc⟩ := HRR.out.at (by omega)
     have e0 : wr.cell? ⟨g, o + k, none⟩ = some (.string t) := hc k _ (by simp [ht])
     have hts := HP.out t (List.mem_of_getElem? ht)
     have HTK := zh ht
     have hk8 : (k : Int) < (n : Int) := by omega
     have hk9 : (0 : Int) ≤ (k : Int) := by omega
     cases hn : nameB t
     ·have HNT := zh hn
      have HN : Hid (∀ u, Calls Tryz.prog 79 #[.string t] u fun e w' => e = .returned (.bool false) ∧ w' = u) := zh (fun u => by have := rname_any t u (by unfold maxLen; omega); rw [hn] at this; exact this.mono (fun _ _ h => ⟨h.1, h.2.symm⟩))
      clear hn ht hc
      go_wp2_with fail
      go_quiet (refine Calls.quiet_of_same (HN.out _))
      go_wp2_with fail
      go_ret
      refine ⟨ret_bool ?_, below_drewN HBR.out _⟩
      have hr : riseB l = false := by
       cases hr : riseB l
       ·rfl
       ·have := ((rise_of l).1 hr k t HTK.out).1
        rw [HNT.out] at this; cases this
      rw [HL.out, hr]; simp
     ·have HNT := zh hn
      have HN : Hid (∀ u, Calls Tryz.prog 79 #[.string t] u fun e w' => e = .returned (.bool true) ∧ w' = u) := zh (fun u => by have := rname_any t u (by unfold maxLen; omega); rw [hn] at this; exact this.mono (fun _ _ h => ⟨h.1, h.2.symm⟩))
      by_cases hk0 : k = 0
      ·subst hk0
       rw [Nat.add_zero] at e0
       clear hn ht hc
       go_wp2_with fail
       go_quiet (refine Calls.quiet_of_same (HN.out _))
       go_wp2_with fail
       go_roundw
       case rel =>
        refine ⟨1, q + nq, by omega, by go_num, zh (fun j hj => ?_), by rw [HWR.out, World.drewN_drewN]⟩
        obtain rfl : j = 0 := by omega
        intro t' ht'
        rw [HTK.out] at ht'
        cases ht'
        exact ⟨HNT.out, fun u h0 => by omega⟩
       case measure => simp [intOf]; omega
      ·obtain ⟨u, hu⟩ : ∃ u, l[k - 1]? = some u := ⟨l[k - 1]'(by rw [HLN.out]; omega), List.getElem?_eq_getElem _⟩
       have e1 : wr.cell? ⟨g, o + (k - 1), none⟩ = some (.string u) := hc (k - 1) _ (by simp [hu])
       have HU := zh hu
       have hkk : ((k : Int) - 1).toNat = k - 1 := by omega
       have hk1 : decide ((0 : Int) < (k : Int)) = true := decide_eq_true (by omega)
       have hk1n : decide (0 < k) = true := decide_eq_true (by omega)
       have hk1p : 0 < k := by omega
       have hk2 : (0 : Int) ≤ (k : Int) - 1 := by omega
       have hk3 : (k : Int) - 1 < (n : Int) := by omega
       clear hn ht hc hu
       cases hlt2 : Op.bytesLess u.toList t.toList
       ·have HLT := zh hlt2
        go_wp2_with fail
        go_quiet (refine Calls.quiet_of_same (HN.out _))
        go_wp2_with fail
        go_ret
        refine ⟨ret_bool ?_, below_drewN HBR.out _⟩
        have hr : riseB l = false := by
         cases hr : riseB l
         ·rfl
         ·have := ((rise_of l).1 hr k t HTK.out).2 u (by omega) HU.out
          unfold ltB at this
          rw [HLT.out] at this; cases this
        rw [HL.out, hr]; simp
       ·have HLT := zh hlt2
        go_wp2_with fail
        go_quiet (refine Calls.quiet_of_same (HN.out _))
        go_wp2_with fail
        go_roundw
        case rel =>
         refine ⟨k + 1, q + nq, by omega, by go_num, zh (fun j hj => ?_), by rw [HWR.out, World.drewN_drewN]⟩
         by_cases e : j = k
         ·subst e
          intro t' ht'
          rw [HTK.out] at ht'
          cases ht'
          refine ⟨HNT.out, fun u' _ hu' => ?_⟩
          rw [HU.out] at hu'
          cases hu'
          exact HLT.out
         ·exact hok.out j (by omega)
        case measure => simp [intOf]; omega
    ·have HF : Hid (listB s = decide ((n : Int) ≤ 8)) := zh (by
      have hr : riseB l = true := (rise_of l).2 (fun j => by
       by_cases hj : j < k
       ·exact hok.out j hj
       ·intro t ht
        have := (List.getElem?_eq_some_iff.1 ht).1
        rw [HLN.out] at this
        omega)
      rw [HL.out, hr, HCT.out, HNM.out, HLN.out]
      simp only [Bool.true_and, Bool.and_true]
      exact decide_eq_decide.2 (by omega))
     go_wp2_with fail
     go_ret
     exact ⟨ret_bool HF.out.symm, HBR.out⟩
 ·have HCT := zh (cut_miss hno).2.2
  clear hno
  go_wp2_with fail
  go_ret
  exact ⟨ret_bool (by rw [HL.out, HCT.out]; rfl), Below.refl _ _⟩
end Go.Proofs.YthdmpcnnbminlaaGreatDoor
namespace Go.Proofs.YthdmpcnnbminlaaGreatDoor
open Go.Shelf Go.RowKit Go.Maps
theorem rmay_any (x : Ev) (w : World) (hs : EvSh x) :
  Calls Tryz.prog 98 #[evA x] w fun e w' => e = .returned (.bool (mayB x)) ∧ Below w.heap.size w w' := by
 obtain ⟨s0, n0, t0, k0, p0, i0, v0, x0⟩ := x
 obtain ⟨h0, h1, h2, h3⟩ := hs
 dsimp only at h0 h1 h2 h3
 have HM : Hid (mayB ⟨s0, n0, t0, k0, p0, i0, v0, x0⟩ = (nameB s0 && (decide (1 ≤ n0 ∧ n0 ≤ 1099511627776) && (decide (0 ≤ t0 ∧ t0 ≤ 1099511627776) && kindB ⟨s0, n0, t0, k0, p0, i0, v0, x0⟩)))) := zh rfl
 unfold evA
 dsimp only
 obtain ⟨w1, hw1⟩ : ∃ w1, w.alloc (.cells #[.string s0, .int .i64 n0, .int .i64 t0, .int .i64 k0, .string p0, .string i0, .int .i64 v0, .string x0] 31) = w1 := ⟨_, rfl⟩
 have bl : Blk w1 w.heap.size 31 #[.string s0, .int .i64 n0, .int .i64 t0, .int .i64 k0, .string p0, .string i0, .int .i64 v0, .string x0] := by rw [← hw1]; exact Blk.new _ _ _
 have HB1 : Hid (Below w.heap.size w w1) := by rw [← hw1]; exact (Below.refl _ _).alloc (Nat.le_refl _) _
 have c0 : w1.cell? ⟨w.heap.size, 0, none⟩ = some (.string s0) := bl.cell 0
 have c1 : w1.cell? ⟨w.heap.size, 1, none⟩ = some (.int .i64 n0) := bl.cell 1
 have c2 : w1.cell? ⟨w.heap.size, 2, none⟩ = some (.int .i64 t0) := bl.cell 2
 have c3 : w1.cell? ⟨w.heap.size, 3, none⟩ = some (.int .i64 k0) := bl.cell 3
 have c4 : w1.cell? ⟨w.heap.size, 4, none⟩ = some (.string p0) := bl.cell 4
 have c5 : w1.cell? ⟨w.heap.size, 5, none⟩ = some (.string i0) := bl.cell 5
 have c6 : w1.cell? ⟨w.heap.size, 6, none⟩ = some (.int .i64 v0) := bl.cell 6
 have c7 : w1.cell? ⟨w.heap.size, 7, none⟩ = some (.string x0) := bl.cell 7
 have HN0 := zh (rname_any s0 w1 (by unfold maxLen; omega))
 have HI1 := zh (in_any n0 1 1099511627776 w1)
 have HI2 := zh (in_any t0 0 1099511627776 w1)
 clear bl
 go_enter Tryz.func98, Tryz.ntmps98
 go_wp2_with fail
 refine HN0.out.mono ?_
 rintro e w2 ⟨rfl, rfl⟩
 clear hw1 HN0
 cases hn0 : nameB s0
 ·have HS := zh hn0
  clear hn0
  go_wp2_with fail
  go_ret
  exact ⟨ret_bool (by rw [HM.out, HS.out]; rfl), HB1.out⟩
 have HS := zh hn0
 clear hn0
 go_wp2_with fail
 refine HI1.out.mono ?_
 rintro e w2 ⟨rfl, rfl⟩
 clear HI1
 by_cases hnum : 1 ≤ n0 ∧ n0 ≤ 1099511627776
 rotate_left
 ·have HD : Hid (decide (1 ≤ n0 ∧ n0 ≤ 1099511627776) = false) := zh (decide_eq_false hnum)
  rw [HD.out]
  clear hnum
  go_wp2_with fail
  go_ret
  exact ⟨ret_bool (by rw [HM.out, HS.out, HD.out]; rfl), HB1.out⟩
 have HD1 : Hid (decide (1 ≤ n0 ∧ n0 ≤ 1099511627776) = true) := zh (decide_eq_true hnum)
 rw [HD1.out]
 clear hnum
 go_wp2_with fail
 refine HI2.out.mono ?_
 rintro e w2 ⟨rfl, rfl⟩
 clear HI2
 by_cases htick : 0 ≤ t0 ∧ t0 ≤ 1099511627776
 rotate_left
 ·have HD : Hid (decide (0 ≤ t0 ∧ t0 ≤ 1099511627776) = false) := zh (decide_eq_false htick)
  rw [HD.out]
  clear htick
  go_wp2_with fail
  go_ret
  exact ⟨ret_bool (by rw [HM.out, HS.out, HD1.out, HD.out]; rfl), HB1.out⟩
 have HD2 : Hid (decide (0 ≤ t0 ∧ t0 ≤ 1099511627776) = true) := zh (decide_eq_true htick)
 rw [HD2.out]
 clear htick
 have HM2 : Hid (mayB ⟨s0, n0, t0, k0, p0, i0, v0, x0⟩ = kindB ⟨s0, n0, t0, k0, p0, i0, v0, x0⟩) := zh (by rw [HM.out, HS.out, HD1.out, HD2.out]; rfl)
 clear HM HS HD1 HD2
 go_wp2_with fail
 go_quiet (fail)
 obtain ⟨w2, hw2⟩ : ∃ w2, w1.drewN nq = w2 := ⟨_, rfl⟩
 rw [hw2]
 have d3 : w2.cell? ⟨w.heap.size, 3, none⟩ = some (.int .i64 k0) := by rw [← hw2]; exact c3
 have d4 : w2.cell? ⟨w.heap.size, 4, none⟩ = some (.string p0) := by rw [← hw2]; exact c4
 have d5 : w2.cell? ⟨w.heap.size, 5, none⟩ = some (.string i0) := by rw [← hw2]; exact c5
 have d6 : w2.cell? ⟨w.heap.size, 6, none⟩ = some (.int .i64 v0) := by rw [← hw2]; exact c6
 have d7 : w2.cell? ⟨w.heap.size, 7, none⟩ = some (.string x0) := by rw [← hw2]; exact c7
 have HB2 : Hid (Below w.heap.size w w2) := zh (by rw [← hw2]; exact below_drewN HB1.out _)
 clear c0 c1 c2 c3 c4 c5 c6 c7 HB1 hw2
 have HNP := zh (rname_any p0 w2 (by unfold maxLen; omega))
 have HNI := zh (rname_any i0 w2 (by unfold maxLen; omega))
 have HNX := zh (rname_any x0 w2 (by unfold maxLen; omega))
 have HLX := zh (rlabel_any x0 w2 (by omega))
 have HV5 := zh (in_any v0 1 5 w2)
 have HVM := zh (in_any v0 0 1048576 w2)
 clear h0 h1 h2 h3
 by_cases g1 : k0 = 0 ∨ k0 = 1 ∨ k0 = 2 ∨ k0 = 3 ∨ k0 = 5 ∨ k0 = 6
 ·have HK : Hid (kindB ⟨s0, n0, t0, k0, p0, i0, v0, x0⟩ = (nameB p0 && (nameB i0 && (decide (v0 = 0) && empB x0)))) := zh (by simp only [kindB]; rw [if_pos g1])
  rcases g1 with rfl | rfl | rfl | rfl | rfl | rfl
  all_goals
   go_wp2_with fail
   refine HNP.out.mono ?_
   rintro e w3 ⟨rfl, rfl⟩
   go_wp2_with fail
   refine HNI.out.mono ?_
   rintro e w3 ⟨rfl, rfl⟩
   (go_wp2_with fail) <;> (go_ret; exact ⟨ret_bool (by rw [HM2.out, HK.out]; first | (simp [empB, *]; done) | (simp [empB, *] <;> omega) | (by_cases hv : v0 = 0 <;> simp [empB, *])), HB2.out⟩)
 by_cases g2 : k0 = 4
 ·have HK : Hid (kindB ⟨s0, n0, t0, k0, p0, i0, v0, x0⟩ = (nameB p0 && (nameB i0 && (decide (1 ≤ v0) && (decide (v0 ≤ 5) && empB x0))))) := zh (by simp only [kindB]; rw [if_neg g1, if_pos g2])
  clear g1
  rcases g2 with rfl
  all_goals
   go_wp2_with fail
   refine HNP.out.mono ?_
   rintro e w3 ⟨rfl, rfl⟩
   go_wp2_with fail
   refine HNI.out.mono ?_
   rintro e w3 ⟨rfl, rfl⟩
   go_wp2_with fail
   refine HV5.out.mono ?_
   rintro e w3 ⟨rfl, rfl⟩
   (go_wp2_with fail) <;> (go_ret; exact ⟨ret_bool (by rw [HM2.out, HK.out]; first | (simp [empB, *]; done) | (simp [empB, *] <;> omega) | (by_cases hv : v0 = 0 <;> simp [empB, *])), HB2.out⟩)
 by_cases g3 : k0 = 7 ∨ k0 = 8 ∨ k0 = 9 ∨ k0 = 10
 ·have HK : Hid (kindB ⟨s0, n0, t0, k0, p0, i0, v0, x0⟩ = (nameB p0 && (empB i0 && (decide (v0 = 0) && nameB x0)))) := zh (by simp only [kindB]; rw [if_neg g1, if_neg g2, if_pos g3])
  clear g1 g2
  rcases g3 with rfl | rfl | rfl | rfl
  all_goals
   go_wp2_with fail
   refine HNP.out.mono ?_
   rintro e w3 ⟨rfl, rfl⟩
   go_wp2_with fail
   refine HNX.out.mono ?_
   rintro e w3 ⟨rfl, rfl⟩
   (go_wp2_with fail) <;> (go_ret; exact ⟨ret_bool (by rw [HM2.out, HK.out]; first | (simp [empB, *]; done) | (simp [empB, *] <;> omega) | (by_cases hv : v0 = 0 <;> simp [empB, *])), HB2.out⟩)
 by_cases g4 : k0 = 11
 ·have HK : Hid (kindB ⟨s0, n0, t0, k0, p0, i0, v0, x0⟩ = (empB p0 && (nameB i0 && (decide (0 ≤ v0) && (decide (v0 ≤ 1048576) && listB x0))))) := zh (by simp only [kindB]; rw [if_neg g1, if_neg g2, if_neg g3, if_pos g4])
  clear g1 g2 g3
  rcases g4 with rfl
  all_goals
   go_wp2_with fail
   refine HNI.out.mono ?_
   rintro e w3 ⟨rfl, rfl⟩
   go_wp2_with fail
   refine HVM.out.mono ?_
   rintro e w3 ⟨rfl, rfl⟩
   go_wp2_with fail
   refine HLX.out.mono ?_
   rintro e w3 ⟨rfl, hb3⟩
   have HB3 : Hid (Below w.heap.size w w3) := zh (HB2.out.trans (hb3.mono HB2.out.size))
   clear hb3
   (go_wp2_with fail) <;> (go_ret; exact ⟨ret_bool (by rw [HM2.out, HK.out]; first | (simp [empB, *]; done) | (simp [empB, *] <;> omega) | (by_cases hv : v0 = 0 <;> simp [empB, *])), HB3.out⟩)
 by_cases g5 : k0 = 12
 ·have HK : Hid (kindB ⟨s0, n0, t0, k0, p0, i0, v0, x0⟩ = (empB p0 && (nameB i0 && (decide (0 ≤ v0) && (decide (v0 ≤ 1048576) && empB x0))))) := zh (by simp only [kindB]; rw [if_neg g1, if_neg g2, if_neg g3, if_neg g4, if_pos g5])
  clear g1 g2 g3 g4
  rcases g5 with rfl
  all_goals
   go_wp2_with fail
   refine HNI.out.mono ?_
   rintro e w3 ⟨rfl, rfl⟩
   go_wp2_with fail
   refine HVM.out.mono ?_
   rintro e w3 ⟨rfl, rfl⟩
   (go_wp2_with fail) <;> (go_ret; exact ⟨ret_bool (by rw [HM2.out, HK.out]; first | (simp [empB, *]; done) | (simp [empB, *] <;> omega) | (by_cases hv : v0 = 0 <;> simp [empB, *])), HB2.out⟩)
 by_cases g6 : k0 = 13
 ·have HK : Hid (kindB ⟨s0, n0, t0, k0, p0, i0, v0, x0⟩ = (empB p0 && (nameB i0 && (decide (v0 = 0) && empB x0)))) := zh (by simp only [kindB]; rw [if_neg g1, if_neg g2, if_neg g3, if_neg g4, if_neg g5, if_pos g6])
  clear g1 g2 g3 g4 g5
  rcases g6 with rfl
  all_goals
   go_wp2_with fail
   refine HNI.out.mono ?_
   rintro e w3 ⟨rfl, rfl⟩
   (go_wp2_with fail) <;> (go_ret; exact ⟨ret_bool (by rw [HM2.out, HK.out]; first | (simp [empB, *]; done) | (simp [empB, *] <;> omega) | (by_cases hv : v0 = 0 <;> simp [empB, *])), HB2.out⟩)
 by_cases g7 : k0 = 14
 ·have HK : Hid (kindB ⟨s0, n0, t0, k0, p0, i0, v0, x0⟩ = (nameB p0 && (empB i0 && (decide (v0 = 0) && empB x0)))) := zh (by simp only [kindB]; rw [if_neg g1, if_neg g2, if_neg g3, if_neg g4, if_neg g5, if_neg g6, if_pos g7])
  clear g1 g2 g3 g4 g5 g6
  rcases g7 with rfl
  all_goals
   go_wp2_with fail
   refine HNP.out.mono ?_
   rintro e w3 ⟨rfl, rfl⟩
   (go_wp2_with fail) <;> (go_ret; exact ⟨ret_bool (by rw [HM2.out, HK.out]; first | (simp [empB, *]; done) | (simp [empB, *] <;> omega) | (by_cases hv : v0 = 0 <;> simp [empB, *])), HB2.out⟩)
 have HK : Hid (kindB ⟨s0, n0, t0, k0, p0, i0, v0, x0⟩ = false) := zh (by simp only [kindB]; rw [if_neg g1, if_neg g2, if_neg g3, if_neg g4, if_neg g5, if_neg g6, if_neg g7])
 have e0 : (k0 == 0) = false := by rw [Bool.eq_false_iff]; intro e; have := beq_iff_eq.1 e; omega
 have e1 : (k0 == 1) = false := by rw [Bool.eq_false_iff]; intro e; have := beq_iff_eq.1 e; omega
 have e2 : (k0 == 2) = false := by rw [Bool.eq_false_iff]; intro e; have := beq_iff_eq.1 e; omega
 have e3 : (k0 == 3) = false := by rw [Bool.eq_false_iff]; intro e; have := beq_iff_eq.1 e; omega
 have e4 : (k0 == 4) = false := by rw [Bool.eq_false_iff]; intro e; have := beq_iff_eq.1 e; omega
 have e5 : (k0 == 5) = false := by rw [Bool.eq_false_iff]; intro e; have := beq_iff_eq.1 e; omega
 have e6 : (k0 == 6) = false := by rw [Bool.eq_false_iff]; intro e; have := beq_iff_eq.1 e; omega
 have e7 : (k0 == 7) = false := by rw [Bool.eq_false_iff]; intro e; have := beq_iff_eq.1 e; omega
 have e8 : (k0 == 8) = false := by rw [Bool.eq_false_iff]; intro e; have := beq_iff_eq.1 e; omega
 have e9 : (k0 == 9) = false := by rw [Bool.eq_false_iff]; intro e; have := beq_iff_eq.1 e; omega
 have e10 : (k0 == 10) = false := by rw [Bool.eq_false_iff]; intro e; have := beq_iff_eq.1 e; omega
 have e11 : (k0 == 11) = false := by rw [Bool.eq_false_iff]; intro e; have := beq_iff_eq.1 e; omega
 have e12 : (k0 == 12) = false := by rw [Bool.eq_false_iff]; intro e; have := beq_iff_eq.1 e; omega
 have e13 : (k0 == 13) = false := by rw [Bool.eq_false_iff]; intro e; have := beq_iff_eq.1 e; omega
 have e14 : (k0 == 14) = false := by rw [Bool.eq_false_iff]; intro e; have := beq_iff_eq.1 e; omega
 clear g1 g2 g3 g4 g5 g6 g7
 go_wp2_with fail
 go_ret
 exact ⟨ret_bool (by rw [HM2.out, HK.out]), HB2.out⟩
end Go.Proofs.YthdmpcnnbminlaaGreatDoor
namespace Go.Proofs.YthdmpcnnbminlaaGreatDoor
open Go.Shelf Go.RowKit Go.Maps
def EvSmall (e : Ev) : Prop := e.src.size ≤ 300 ∧ e.person.size ≤ 300 ∧ e.item.size ≤ 300 ∧ e.text.size ≤ 300
theorem EvSmall.sh {e : Ev} (h : EvSmall e) : EvSh e := by obtain ⟨h1, h2, h3, h4⟩ := h; exact ⟨by omega, by omega, by omega, by omega⟩
theorem big_any (x : Ev) (w : World) (hb : EvBd x) :
  Calls Tryz.prog 95 #[evA x, .int .i64 300] w fun e w' => ∃ b : Bool, e = .returned (.bool b) ∧ (b = false → EvSmall x) ∧ Below w.heap.size w w' := by
 obtain ⟨s0, n0, t0, k0, p0, i0, v0, x0⟩ := x
 obtain ⟨h0, h1, h2, h3⟩ := hb
 dsimp only at h0 h1 h2 h3
 have HES : Hid (EvSmall ⟨s0, n0, t0, k0, p0, i0, v0, x0⟩ ↔ (s0.size ≤ 300 ∧ p0.size ≤ 300 ∧ i0.size ≤ 300 ∧ x0.size ≤ 300)) := zh Iff.rfl
 unfold evA
 dsimp only
 obtain ⟨w1, hw1⟩ : ∃ w1, w.alloc (.cells #[.string s0, .int .i64 n0, .int .i64 t0, .int .i64 k0, .string p0, .string i0, .int .i64 v0, .string x0] 31) = w1 := ⟨_, rfl⟩
 have bl : Blk w1 w.heap.size 31 #[.string s0, .int .i64 n0, .int .i64 t0, .int .i64 k0, .string p0, .string i0, .int .i64 v0, .string x0] := by rw [← hw1]; exact Blk.new _ _ _
 have HB1 : Hid (Below w.heap.size w w1) := zh (by rw [← hw1]; exact (Below.refl _ _).alloc (Nat.le_refl _) _)
 have c0 : w1.cell? ⟨w.heap.size, 0, none⟩ = some (.string s0) := bl.cell 0
 have c4 : w1.cell? ⟨w.heap.size, 4, none⟩ = some (.string p0) := bl.cell 4
 have c5 : w1.cell? ⟨w.heap.size, 5, none⟩ = some (.string i0) := bl.cell 5
 have c7 : w1.cell? ⟨w.heap.size, 7, none⟩ = some (.string x0) := bl.cell 7
 clear bl
 by_cases q0 : (300 : Int) < (s0.size : Int)
 ·go_enter Tryz.func95, Tryz.ntmps95
  go_wp2_with fail
  go_ret
  first | exact ⟨true, rfl, fun h => (by cases h), HB1.out⟩ | exact Or.inr ⟨rfl, HB1.out⟩
 have d0 : decide ((300 : Int) < (s0.size : Int)) = false := decide_eq_false q0
 by_cases q1 : (300 : Int) < (p0.size : Int)
 ·go_enter Tryz.func95, Tryz.ntmps95
  go_wp2_with fail
  go_ret
  first | exact ⟨true, rfl, fun h => (by cases h), HB1.out⟩ | exact Or.inr ⟨rfl, HB1.out⟩
 have d1 : decide ((300 : Int) < (p0.size : Int)) = false := decide_eq_false q1
 by_cases q2 : (300 : Int) < (i0.size : Int)
 ·go_enter Tryz.func95, Tryz.ntmps95
  go_wp2_with fail
  go_ret
  first | exact ⟨true, rfl, fun h => (by cases h), HB1.out⟩ | exact Or.inr ⟨rfl, HB1.out⟩
 have d2 : decide ((300 : Int) < (i0.size : Int)) = false := decide_eq_false q2
 by_cases q3 : (300 : Int) < (x0.size : Int)
 ·go_enter Tryz.func95, Tryz.ntmps95
  go_wp2_with fail
  go_ret
  first | exact ⟨true, rfl, fun h => (by cases h), HB1.out⟩ | exact Or.inr ⟨rfl, HB1.out⟩
 have d3 : decide ((300 : Int) < (x0.size : Int)) = false := decide_eq_false q3
 have HE : Hid (EvSmall ⟨s0, n0, t0, k0, p0, i0, v0, x0⟩) := zh (HES.out.2 (by omega))
 go_enter Tryz.func95, Tryz.ntmps95
 go_wp2_with fail
 go_ret
 first | exact ⟨false, rfl, fun _ => HE.out, HB1.out⟩ | exact Or.inl ⟨rfl, HE.out, HB1.out⟩
theorem some_any (w : World) (B : Nat) (A : Option Addr) (l : List Ev) (n c : Nat) (hn : l.length = n) (hl : EvsAt w B A l) (hB : B ≤ w.heap.size) (hb : n ≤ 140737488355328) (hbd : ∀ e ∈ l, EvBd e) :
  Calls Tryz.prog 50 #[.slice A n c, .int .i64 300] w fun e w' => ∃ b : Bool, e = .returned (.bool b) ∧ (b = false → ∀ e ∈ l, EvSmall e) ∧ Below w.heap.size w w' := by
 have HN := zh hn
 have HL := zh hl
 have HD := zh hbd
 clear hn hl hbd
 go_enter Tryz.func50, Tryz.ntmps50
 go_wp2_with fail
 go_loopw [5] (fun i wr => ∃ k : Nat, k ≤ n ∧ i = .int .i64 k ∧ Hid (∀ j e, j < k → l[j]? = some e → EvSmall e) ∧ Hid (Below w.heap.size w wr)) (fun i _ => n - (intOf i).toNat)
 case atStart => exact ⟨0, Nat.zero_le _, rfl, zh (fun j e hj => by omega), zh (Below.refl _ _)⟩
 case round =>
  obtain ⟨k, hk, rfl, hok, hbw⟩ := hrel
  by_cases hlt : k < n
  ·obtain ⟨x, hx⟩ : ∃ x, l[k]? = some x := ⟨l[k]'(by rw [HN.out]; exact hlt), List.getElem?_eq_getElem _⟩
   obtain ⟨g, o, rfl, hgB, hcl⟩ := HL.out.at (by rw [HN.out]; omega)
   obtain ⟨e0, e1, e2, e3, e4, e5, e6, e7⟩ : EvAt wr g (o + k * 8) x := (hcl k x hx).keep (fun j => hbw.out.cell (p := ⟨g, j, none⟩) (Nat.lt_of_lt_of_le hgB hB))
   have HBG := zh (big_any x wr (HD.out x (List.mem_of_getElem? hx)))
   have HX := zh hx
   have hk8 : (k : Int) < (n : Int) := by omega
   have hk9 : (0 : Int) ≤ (k : Int) := by omega
   unfold evA at HBG
   clear hcl hx
   go_wp2_with fail
   refine HBG.out.mono ?_
   rintro e w2 ⟨b, rfl, hbs, hb2⟩
   have HB2 : Hid (Below w.heap.size w w2) := zh (hbw.out.trans (hb2.mono hbw.out.size))
   clear HBG hb2
   cases b
   ·have HSM := zh (hbs rfl)
    clear hbs
    go_wp2_with fail
    go_roundw
    case rel =>
     refine ⟨k + 1, by omega, by go_num, zh (fun j e hj he => ?_), HB2⟩
     by_cases h : j = k
     ·subst h; rw [HX.out] at he; cases he; exact HSM.out
     ·exact hok.out j e (by omega) he
    case measure => simp [intOf]; omega
   ·clear hbs
    go_wp2_with fail
    go_ret
    exact ⟨true, rfl, fun h => (by cases h), HB2.out⟩
  ·go_wp2_with fail
   go_ret
   refine ⟨false, rfl, fun _ e he => ?_, hbw.out⟩
   obtain ⟨j, hj⟩ := List.mem_iff_getElem?.1 he
   have := (List.getElem?_eq_some_iff.1 hj).1
   rw [HN.out] at this
   exact hok.out j e (by omega) hj
theorem rcfg_any (c : Cfg) (w : World) :
  Calls Tryz.prog 56 #[cfgA c] w fun e w' => ∃ b : Bool, e = .returned (.bool b) ∧ (b = true → CfgOk c) ∧ Below w.heap.size w w' := by
 obtain ⟨w1, hw1⟩ : ∃ w1, w.alloc (.cells (cfgArr c) 23) = w1 := ⟨_, rfl⟩
 have be1 : Blk w1 w.heap.size 23 (cfgArr c) := by rw [← hw1]; exact Blk.new _ _ _
 have HB1 : Hid (Below w.heap.size w w1) := zh (by rw [← hw1]; exact (Below.refl _ _).alloc (Nat.le_refl _) _)
 have c0 : w1.cell? ⟨w.heap.size, 0, none⟩ = some (.int .i64 c.half) := be1.cell 0
 have c1 : w1.cell? ⟨w.heap.size, 1, none⟩ = some (.int .i64 c.width) := be1.cell 1
 have c2 : w1.cell? ⟨w.heap.size, 2, none⟩ = some (.int .i64 c.gap) := be1.cell 2
 have c3 : w1.cell? ⟨w.heap.size, 3, none⟩ = some (.int .i64 c.span) := be1.cell 3
 have c4 : w1.cell? ⟨w.heap.size, 4, none⟩ = some (.int .i64 c.floor) := be1.cell 4
 have c5 : w1.cell? ⟨w.heap.size, 5, none⟩ = some (.int .i64 c.crowd) := be1.cell 5
 obtain ⟨b_half, hb_half⟩ : ∃ b, decide (1 ≤ c.half ∧ c.half ≤ 1099511627776) = b := ⟨_, rfl⟩
 have H_half := zh (in_any c.half 1 1099511627776 w1)
 rw [hb_half] at H_half
 have B_half := zh hb_half
 clear hb_half
 obtain ⟨b_width, hb_width⟩ : ∃ b, decide (1 ≤ c.width ∧ c.width ≤ 1099511627776) = b := ⟨_, rfl⟩
 have H_width := zh (in_any c.width 1 1099511627776 w1)
 rw [hb_width] at H_width
 have B_width := zh hb_width
 clear hb_width
 obtain ⟨b_span, hb_span⟩ : ∃ b, decide (1 ≤ c.span ∧ c.span ≤ 1099511627776) = b := ⟨_, rfl⟩
 have H_span := zh (in_any c.span 1 1099511627776 w1)
 rw [hb_span] at H_span
 have B_span := zh hb_span
 clear hb_span
 obtain ⟨b_gap, hb_gap⟩ : ∃ b, decide (0 ≤ c.gap ∧ c.gap ≤ 1099511627776) = b := ⟨_, rfl⟩
 have H_gap := zh (in_any c.gap 0 1099511627776 w1)
 rw [hb_gap] at H_gap
 have B_gap := zh hb_gap
 clear hb_gap
 obtain ⟨b_floor, hb_floor⟩ : ∃ b, decide (0 ≤ c.floor ∧ c.floor ≤ 1048576) = b := ⟨_, rfl⟩
 have H_floor := zh (in_any c.floor 0 1048576 w1)
 rw [hb_floor] at H_floor
 have B_floor := zh hb_floor
 clear hb_floor
 obtain ⟨b_crowd, hb_crowd⟩ : ∃ b, decide (0 ≤ c.crowd ∧ c.crowd ≤ 1048576) = b := ⟨_, rfl⟩
 have H_crowd := zh (in_any c.crowd 0 1048576 w1)
 rw [hb_crowd] at H_crowd
 have B_crowd := zh hb_crowd
 clear hb_crowd
 clear be1
 unfold cfgA
 unfold cfgArr at hw1
 go_enter Tryz.func56, Tryz.ntmps56
 go_wp2_with fail
 refine H_half.out.mono ?_
 rintro e w2 ⟨rfl, rfl⟩
 cases b_half with
 | false =>
  go_wp2_with fail
  go_ret
  exact ⟨false, rfl, fun h => (by cases h), HB1.out⟩
 | true =>
 have ok_half := of_decide_eq_true B_half.out
 go_wp2_with fail
 refine H_width.out.mono ?_
 rintro e w2 ⟨rfl, rfl⟩
 cases b_width with
 | false =>
  go_wp2_with fail
  go_ret
  exact ⟨false, rfl, fun h => (by cases h), HB1.out⟩
 | true =>
 have ok_width := of_decide_eq_true B_width.out
 go_wp2_with fail
 refine H_span.out.mono ?_
 rintro e w2 ⟨rfl, rfl⟩
 cases b_span with
 | false =>
  go_wp2_with fail
  go_ret
  exact ⟨false, rfl, fun h => (by cases h), HB1.out⟩
 | true =>
 have ok_span := of_decide_eq_true B_span.out
 have OKW := zh ok_width
 have hz : (c.width == 0) = false := by simp; omega
 have ht : c.span.tmod c.width = c.span % c.width := Int.tmod_eq_emod_of_nonneg (by omega)
 by_cases hf : c.span % c.width = 0
 rotate_left
 ·have hfit : (c.span % c.width == 0) = false := by simp [hf]
  go_wp2_with fail
  go_ret
  exact ⟨false, rfl, fun h => (by cases h), HB1.out⟩
 have hfit : (c.span % c.width == 0) = true := by simp [hf]
 have HF := zh hf
 clear hf
 go_wp2_with fail
 refine H_gap.out.mono ?_
 rintro e w2 ⟨rfl, rfl⟩
 cases b_gap with
 | false =>
  go_wp2_with fail
  go_ret
  exact ⟨false, rfl, fun h => (by cases h), HB1.out⟩
 | true =>
 have ok_gap := of_decide_eq_true B_gap.out
 go_wp2_with fail
 refine H_floor.out.mono ?_
 rintro e w2 ⟨rfl, rfl⟩
 cases b_floor with
 | false =>
  go_wp2_with fail
  go_ret
  exact ⟨false, rfl, fun h => (by cases h), HB1.out⟩
 | true =>
 have ok_floor := of_decide_eq_true B_floor.out
 go_wp2_with fail
 refine H_crowd.out.mono ?_
 rintro e w2 ⟨rfl, rfl⟩
 cases b_crowd with
 | false =>
  go_wp2_with fail
  go_ret
  exact ⟨false, rfl, fun h => (by cases h), HB1.out⟩
 | true =>
 have ok_crowd := of_decide_eq_true B_crowd.out
 go_wp2_with fail
 go_ret
 exact ⟨true, rfl, fun _ => ⟨of_decide_eq_true B_half.out, of_decide_eq_true B_width.out, of_decide_eq_true B_span.out, HF.out, of_decide_eq_true B_gap.out, of_decide_eq_true B_floor.out, of_decide_eq_true B_crowd.out⟩, HB1.out⟩
theorem rall_any (w : World) (B : Nat) (A : Option Addr) (l : List Ev) (n c : Nat) (hn : l.length = n) (hl : EvsAt w B A l) (hB : B ≤ w.heap.size) (hb : n ≤ 1000) (hs : ∀ e ∈ l, EvSmall e) :
  Calls Tryz.prog 55 #[.slice A n c] w fun e w' => ∃ b : Bool, e = .returned (.bool b) ∧ (b = true → ∀ e ∈ l, mayB e = true) ∧ Below w.heap.size w w' := by
 have HN := zh hn
 have HL := zh hl
 have HD := zh hs
 clear hn hl hs
 go_enter Tryz.func55, Tryz.ntmps55
 go_wp2_with fail
 go_loopw [3] (fun i wr => ∃ k : Nat, k ≤ n ∧ i = .int .i64 k ∧ Hid (∀ j e, j < k → l[j]? = some e → mayB e = true) ∧ Hid (Below w.heap.size w wr)) (fun i _ => n - (intOf i).toNat)
 case atStart => exact ⟨0, Nat.zero_le _, rfl, zh (fun j e hj => by omega), zh (Below.refl _ _)⟩
 case round =>
  obtain ⟨k, hk, rfl, hok, hbw⟩ := hrel
  by_cases hlt : k < n
  ·obtain ⟨x, hx⟩ : ∃ x, l[k]? = some x := ⟨l[k]'(by rw [HN.out]; exact hlt), List.getElem?_eq_getElem _⟩
   obtain ⟨g, o, rfl, hgB, hcl⟩ := HL.out.at (by rw [HN.out]; omega)
   obtain ⟨e0, e1, e2, e3, e4, e5, e6, e7⟩ : EvAt wr g (o + k * 8) x := (hcl k x hx).keep (fun j => hbw.out.cell (p := ⟨g, j, none⟩) (Nat.lt_of_lt_of_le hgB hB))
   have HBG := zh (rmay_any x wr (HD.out x (List.mem_of_getElem? hx)).sh)
   have HX := zh hx
   have hk8 : (k : Int) < (n : Int) := by omega
   have hk9 : (0 : Int) ≤ (k : Int) := by omega
   unfold evA at HBG
   obtain ⟨b, hbm⟩ : ∃ b, mayB x = b := ⟨_, rfl⟩
   rw [hbm] at HBG
   have HBM := zh hbm
   clear hcl hx hbm
   go_wp2_with fail
   refine HBG.out.mono ?_
   rintro e w2 ⟨rfl, hb2⟩
   have HB2 : Hid (Below w.heap.size w w2) := zh (hbw.out.trans (hb2.mono hbw.out.size))
   clear HBG hb2
   cases b
   ·go_wp2_with fail
    go_ret
    exact ⟨false, rfl, fun h => (by cases h), HB2.out⟩
   ·go_wp2_with fail
    go_roundw
    case rel =>
     refine ⟨k + 1, by omega, by go_num, zh (fun j e hj he => ?_), HB2⟩
     by_cases h : j = k
     ·subst h; rw [HX.out] at he; cases he; exact HBM.out
     ·exact hok.out j e (by omega) he
    case measure => simp [intOf]; omega
  ·go_wp2_with fail
   go_ret
   refine ⟨true, rfl, fun _ e he => ?_, hbw.out⟩
   obtain ⟨j, hj⟩ := List.mem_iff_getElem?.1 he
   have := (List.getElem?_eq_some_iff.1 hj).1
   rw [HN.out] at this
   exact hok.out j e (by omega) hj
def MadeR (w : World) (c : Cfg) (l : List Ev) (x : Ending) (w' : World) : Prop := (x = .returned (.pointer none) ∨ ∃ wb base E, x = .returned (.pointer (some ⟨wb, 0, none⟩)) ∧ AnewIs fmtB l E ∧ WorldAt w' wb base c E ∧ w.heap.size ≤ base ∧ CfgOk c ∧ l.length ≤ 40 ∧ ∀ e ∈ l, EvOk e) ∧ Below w.heap.size w w'
theorem made_any (c : Cfg) (w : World) (B : Nat) (A : Option Addr) (l : List Ev) (n cp : Nat) (hn : l.length = n) (hl : EvsAt w B A l) (hB : B ≤ w.heap.size) (hb : n ≤ 140737488355328) (hbd : ∀ e ∈ l, EvBd e) (hg : ∀ V, Below w.heap.size w V → GlobAt V ∧ KnAt V ∧ Ru.TabAt V) :
  Calls Tryz.prog 16 #[cfgA c, .slice A n cp] w (MadeR w c l) := by
 obtain ⟨w1, hw1⟩ : ∃ w1, w.alloc (.cells (cfgArr c) 23) = w1 := ⟨_, rfl⟩
 have be1 : Hid (Blk w1 w.heap.size 23 (cfgArr c)) := zh (by rw [← hw1]; exact Blk.new _ _ _)
 have HB1 : Hid (Below w.heap.size w w1) := zh (by rw [← hw1]; exact (Below.refl _ _).alloc (Nat.le_refl _) _)
 have HSO := zh (some_any w1 B A l n cp hn (hl.below (HB1.out.mono hB)) (Nat.le_trans hB HB1.out.size) hb hbd)
 have HN := zh hn
 have HL := zh hl
 have HG := zh hg
 have HBB := zh hB
 unfold cfgA
 unfold cfgArr at hw1
 clear hn hl hg hbd hB
 by_cases h40 : (40 : Int) < (n : Int)
 ·go_enter Tryz.func16, Tryz.ntmps16
  go_wp2_with fail
  go_ret
  exact ⟨Or.inl rfl, HB1.out⟩
 have d40 : decide ((40 : Int) < (n : Int)) = false := decide_eq_false h40
 have hn40 : n ≤ 40 := by omega
 go_enter Tryz.func16, Tryz.ntmps16
 go_wp2_with fail
 refine HSO.out.mono ?_
 rintro e w2 ⟨b2, rfl, hs2, hb2⟩
 have HB2 := zh (HB1.out.trans (hb2.mono HB1.out.size))
 have HE2 : Hid (Blk w2 w.heap.size 23 (cfgArr c)) := zh ((hb2.block _ be1.out.lt).trans be1.out)
 have HSM := zh hs2
 clear hs2 hb2 HSO be1
 cases b2 with
 | true =>
  go_wp2_with fail
  go_ret
  exact ⟨Or.inl rfl, HB2.out⟩
 | false =>
 have HS2 := zh (HSM.out rfl)
 have HAL := zh (rall_any w2 B A l n cp HN.out (HL.out.below (HB2.out.mono HBB.out)) (Nat.le_trans HBB.out HB2.out.size) (by omega) HS2.out)
 go_wp2_with fail
 refine HAL.out.mono ?_
 rintro e w3 ⟨b3, rfl, hs3, hb3⟩
 have HB3 := zh (HB2.out.trans (hb3.mono HB2.out.size))
 have HE3 : Hid (Blk w3 w.heap.size 23 (cfgArr c)) := zh ((hb3.block _ HE2.out.lt).trans HE2.out)
 have HMY := zh hs3
 clear hs3 hb3 HAL HE2 HB1
 cases b3 with
 | false =>
  go_wp2_with fail
  go_ret
  exact ⟨Or.inl rfl, HB3.out⟩
 | true =>
 have HM2 := zh (HMY.out rfl)
 have y0 : w3.cell? ⟨w.heap.size, 0, none⟩ = some (.int .i64 c.half) := HE3.out.cell 0
 have y1 : w3.cell? ⟨w.heap.size, 1, none⟩ = some (.int .i64 c.width) := HE3.out.cell 1
 have y2 : w3.cell? ⟨w.heap.size, 2, none⟩ = some (.int .i64 c.gap) := HE3.out.cell 2
 have y3 : w3.cell? ⟨w.heap.size, 3, none⟩ = some (.int .i64 c.span) := HE3.out.cell 3
 have y4 : w3.cell? ⟨w.heap.size, 4, none⟩ = some (.int .i64 c.floor) := HE3.out.cell 4
 have y5 : w3.cell? ⟨w.heap.size, 5, none⟩ = some (.int .i64 c.crowd) := HE3.out.cell 5
 have HCF := zh (rcfg_any c w3)
 unfold cfgA at HCF
 go_wp2_with fail
 refine HCF.out.mono ?_
 rintro e w4 ⟨b4, rfl, hs4, hb4⟩
 have HB4 := zh (HB3.out.trans (hb4.mono HB3.out.size))
 have HE4 : Hid (Blk w4 w.heap.size 23 (cfgArr c)) := zh ((hb4.block _ HE3.out.lt).trans HE3.out)
 have HOK := zh hs4
 clear hs4 hb4 HCF HE3 y0 y1 y2 y3 y4 y5
 cases b4 with
 | false =>
  go_wp2_with fail
  go_ret
  exact ⟨Or.inl rfl, HB4.out⟩
 | true =>
 have HC2 := zh (HOK.out rfl)
 have z0 : w4.cell? ⟨w.heap.size, 0, none⟩ = some (.int .i64 c.half) := HE4.out.cell 0
 have z1 : w4.cell? ⟨w.heap.size, 1, none⟩ = some (.int .i64 c.width) := HE4.out.cell 1
 have z2 : w4.cell? ⟨w.heap.size, 2, none⟩ = some (.int .i64 c.gap) := HE4.out.cell 2
 have z3 : w4.cell? ⟨w.heap.size, 3, none⟩ = some (.int .i64 c.span) := HE4.out.cell 3
 have z4 : w4.cell? ⟨w.heap.size, 4, none⟩ = some (.int .i64 c.floor) := HE4.out.cell 4
 have z5 : w4.cell? ⟨w.heap.size, 5, none⟩ = some (.int .i64 c.crowd) := HE4.out.cell 5
 have HEV : Hid (∀ e ∈ l, EvOk e) := zh (fun e he => ⟨HM2.out e he, HS2.out e he⟩)
 have HWO := zh (wof_any c w4 B A l n cp HC2.out HN.out (HL.out.below (HB4.out.mono HBB.out)) (Nat.le_trans HBB.out HB4.out.size) (by omega) HEV.out (HG.out w4 HB4.out).1 (HG.out w4 HB4.out).2.1 (HG.out w4 HB4.out).2.2)
 unfold cfgA at HWO
 go_wp2_with fail
 refine HWO.out.mono ?_
 rintro e w5 ⟨wb, base, E, rfl, h1, h2, h3, h4⟩
 have H1 := zh (And.intro h1 (And.intro h2 (And.intro h3 h4)))
 clear h1 h2 h3 h4 HWO
 go_wp2_with fail
 go_ret
 exact ⟨Or.inr ⟨wb, base, E, rfl, H1.out.1, H1.out.2.1, Nat.le_trans HB4.out.size H1.out.2.2.1, HC2.out, by rw [HN.out]; omega, HEV.out⟩, HB4.out.trans (H1.out.2.2.2.mono HB4.out.size)⟩
end Go.Proofs.YthdmpcnnbminlaaGreatDoor
