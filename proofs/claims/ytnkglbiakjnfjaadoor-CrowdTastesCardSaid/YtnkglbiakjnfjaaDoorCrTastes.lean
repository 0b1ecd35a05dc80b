/- CrowdTastes: the walk. -/
import Derived.Test.YtnkglbiakjnfjaaDoorCrRTaste
import Derived.Test.YtnkglbiakjnfjaaDoorOpenN
namespace Go.Proofs.YtnkglbiakjnfjaaDoor
open Go.Shelf Go.RowKit Go.Maps
set_option linter.unusedVariables false

theorem half_bd (h : Int) : 1 ≤ halfP h ∧ halfP h ≤ 1099511627776 := by unfold halfP; omega

set_option maxHeartbeats 8000000 in
set_option maxRecDepth 100000 in
theorem crowdTastes_walk (half : Int) (A : Option Addr) (n c : Nat) (l : List Ri) (ps : ByteArray) (AN : Option Addr) (nn cn : Nat) (ns : List Int) (w : World) (ha : RwArg w A n c l) (hps : ps.size ≤ 140737488355328) (hns : InArg w AN nn cn ns) (hg : GlobAt w) :
    Calls Tryd.prog 3 #[.int .i64 half, .slice A n c, .string ps, .slice AN nn cn] w fun e w' => e = .returned (.bool true) ∧ Below w.heap.size w w' := by
  have HLG := Lib.hid (long_any w A l n c ha)
  have HRW := Lib.hid ha
  have HNS := Lib.hid hns
  have HG := Lib.hid hg
  have hpm : ps.size ≤ maxLen := by unfold maxLen; omega
  have hnb : nn ≤ maxLen := hns.2.2
  clear ha hg hns
  go_enter Tryd.func3, Tryd.ntmps3
  go_wp2_with fail
  refine HLG.out.mono ?_
  rintro e w1 ⟨bl, rfl, hbl, hb1⟩
  have HB1 := Lib.hid hb1
  have HW1 := Lib.hid (awake_any w1 (HG.out.keep hb1 (Nat.le_refl _)))
  clear HLG hb1
  cases bl
  rotate_left
  · go_wp2_with fail
    refine HW1.out.mono ?_
    rintro e w2 ⟨rfl, hb2⟩
    have HB2 : Hid (Below w.heap.size w w2) := Lib.hid (HB1.out.trans (hb2.mono HB1.out.size))
    go_wp2_with fail
    go_ret
    exact ⟨rfl, HB2.out⟩
  have hsm := hbl rfl
  have h40 := hsm.1
  clear hbl
  by_cases q1 : (60 : Int) < (ps.size : Int)
  · go_wp2_with fail
    refine HW1.out.mono ?_
    rintro e w2 ⟨rfl, hb2⟩
    have HB2 : Hid (Below w.heap.size w w2) := Lib.hid (HB1.out.trans (hb2.mono HB1.out.size))
    go_wp2_with fail
    go_ret
    exact ⟨rfl, HB2.out⟩
  have d1 : decide ((60 : Int) < (ps.size : Int)) = false := decide_eq_false q1
  by_cases q2 : (8 : Int) < (nn : Int)
  · go_wp2_with fail
    refine HW1.out.mono ?_
    rintro e w2 ⟨rfl, hb2⟩
    have HB2 : Hid (Below w.heap.size w w2) := Lib.hid (HB1.out.trans (hb2.mono HB1.out.size))
    go_wp2_with fail
    go_ret
    exact ⟨rfl, HB2.out⟩
  have d2 : decide ((8 : Int) < (nn : Int)) = false := decide_eq_false q2
  have HFI := Lib.hid (fill_any half A n c l w1 (rw_below HRW.out HB1.out) hsm (HG.out.keep HB1.out (Nat.le_refl _)))
  clear HW1 hsm
  go_wp2_with fail
  refine HFI.out.mono ?_
  rintro e w3 ⟨cb, A', n', c', rfl, hfi, hb3⟩
  have HB3 : Hid (Below w.heap.size w w3) := Lib.hid (HB1.out.trans (hb3.mono HB1.out.size))
  obtain ⟨U, V, xl, xs, hcr, hdo, hdj, huv, htw, hri, hev, hxl⟩ := fill_open hfi
  obtain ⟨hf, hhf⟩ : ∃ hf, halfP half = hf := ⟨_, rfl⟩
  obtain ⟨rs, hrs⟩ : ∃ rs, crowdOf (l.map rwOf) = rs := ⟨_, rfl⟩
  have hn40 : n' ≤ 40 := by
    have h1 := htw.len
    rw [hdo.len] at h1
    have h2 := crowdOf_len (l.map rwOf)
    rw [List.length_map, HRW.out.1] at h2
    omega
  have hhb : 1 ≤ hf ∧ hf ≤ 1099511627776 := by rw [← hhf]; exact half_bd half
  rw [hhf, hrs] at hcr
  rw [hrs] at hev htw
  have HXM : Hid (∀ x ∈ xs, mayB x.e = true) := Lib.hid (fun x hx => by
    obtain ⟨r, h1, h2⟩ := htw.mem x hx
    rw [← h2.1]
    exact cr_may (hcr.may r h1))
  have HRL : Hid (rs.length ≤ 1000) := Lib.hid (by have := htw.len; rw [hdo.len] at this; omega)
  have HW : Hid (∀ W, Below w3.heap.size w3 W → CrAt W cb hf U rs ∧ DocIn W A' n' c' xl V xs ∧ w3.heap.size ≤ W.heap.size) := Lib.hid (fun W hW => ⟨hcr.below hW, hdo.below hW, hW.size⟩)
  have HXL := Lib.hid hxl
  have HTA : Hid (∀ (W : World) (now : Int), Below w3.heap.size w3 W → -2199023255552 ≤ now → now ≤ 2199023255552 → Calls Tryd.prog 15 #[.pointer (some ⟨cb, 0, none⟩), .string ps, .int .i64 now] W fun e w' => ∃ (A : Option Addr) (c : Nat) (L : List Ct), e = .returned (.slice A L.length c) ∧ IsTaste rs hf ps now L ∧ L.length ≤ 1000000 ∧ RowIn w' w'.heap.size 2 A L.length (L.flatMap ctC) ∧ Below W.heap.size W w') := Lib.hid (fun W now hW h1 h2 => taste_any W cb hf U rs ps now (HW.out W hW).1 hpm hhb.1 hhb.2 HRL.out (by omega) (by omega))
  have HRT : Hid (∀ (W : World) (now : Int), Below w3.heap.size w3 W → -2199023255552 ≤ now → now ≤ 2199023255552 → Calls Tryd.prog 16 #[.slice A' n' c', .int .i64 hf, .string ps, .int .i64 now] W fun e w' => ∃ (A' : Option Addr) (n' c' : Nat) (out : List Ct), e = .returned (.slice A' n' c') ∧ out.length = n' ∧ n' ≤ 100000 ∧ RowIn w' w'.heap.size 2 A' n' (out.flatMap ctC) ∧ IsTaste xs hf ps now out ∧ Below W.heap.size W w') := Lib.hid (fun W now hW h1 h2 => by
    obtain ⟨_, h3, h4⟩ := HW.out W hW
    exact rtaste_any W W.heap.size A' n' c' xl xs hf ps now HXL.out (RowIn.of_own h3.own) (Nat.le_refl _) h3.rel HXM.out hri hn40 hhb.1 hhb.2 (by omega) (by omega))
  have HON : Hid (∀ (now : Int) L L', IsTaste rs hf ps now L → IsTaste xs hf ps now L' → L = L') := Lib.hid (fun now L L' h1 h2 => h1.one h2 (fun t => (htw.own ps).sums hf now t))
  have HHF : Hid (∀ W, Calls Tryd.prog 17 #[.int .i64 half] W fun e w' => e = .returned (.int .i64 hf) ∧ W = w') := Lib.hid (fun W => by
    have := rhalf_any half W
    rw [hhf] at this
    exact this)
  have HAW : Hid (∀ W, Below w3.heap.size w3 W → Calls Tryd.prog 12 #[] W fun e w' => e = .returned (.bool true) ∧ Below W.heap.size W w') := Lib.hid (fun W hW => awake_any W (HG.out.keep (HB3.out.trans (hW.mono HB3.out.size)) (Nat.le_refl _)))
  have HNW : Hid (∀ W, Below w3.heap.size w3 W → RowIn W w.heap.size 1 AN nn (ns.map (.int .i64))) := Lib.hid (fun W hW => HNS.out.2.1.below (HB3.out.trans (hW.mono HB3.out.size)))
  clear hb3 hfi hcr hdo hdj huv htw hri hev hxl hhf hrs HFI HW HXM HRL hhb
  have hB0 : Hid (Below w3.heap.size w3 w3) := Lib.hid (Below.refl _ _)
  go_wp2_with fail
  go_loopw [36] (fun i wr => ∃ k : Nat, k ≤ nn ∧ i = .int .i64 k ∧ Hid (Below w3.heap.size w3 wr)) (fun i _ => nn - (intOf i).toNat)
  case atStart => exact ⟨0, Nat.zero_le _, rfl, hB0⟩
  case round =>
    clear hB0
    obtain ⟨k, hk, rfl, hbw⟩ := hrel
    have hwz := hbw.out.size
    by_cases hlt : k < nn
    · obtain ⟨now, hx⟩ : ∃ x, ns[k]? = some x := ⟨ns[k]'(by rw [HNS.out.1]; exact hlt), List.getElem?_eq_getElem _⟩
      obtain ⟨gt, ot, hAt, hgt, hct⟩ := (HNW.out _ hbw.out).at (by omega)
      have t0 := hct k (.int .i64 now) (by simp [hx])
      have hk8 : (k : Int) < (nn : Int) := by omega
      have hk9 : (0 : Int) ≤ (k : Int) := by omega
      have HA0 := Lib.hid (HAW.out _ hbw.out)
      clear hx hct
      subst hAt
      by_cases p1 : now < -2199023255552
      · go_wp2_with fail
        refine HA0.out.mono ?_
        rintro e w5 ⟨rfl, hb5⟩
        have HB5 : Hid (Below w.heap.size w w5) := Lib.hid (HB3.out.trans ((hbw.out.trans (hb5.mono hwz)).mono HB3.out.size))
        go_wp2_with fail
        go_ret
        exact ⟨rfl, HB5.out⟩
      have dp1 : decide (now < -2199023255552) = false := decide_eq_false p1
      by_cases p2 : 2199023255552 < now
      · go_wp2_with fail
        refine HA0.out.mono ?_
        rintro e w5 ⟨rfl, hb5⟩
        have HB5 : Hid (Below w.heap.size w w5) := Lib.hid (HB3.out.trans ((hbw.out.trans (hb5.mono hwz)).mono HB3.out.size))
        go_wp2_with fail
        go_ret
        exact ⟨rfl, HB5.out⟩
      have dp2 : decide (2199023255552 < now) = false := decide_eq_false p2
      have HT0 := Lib.hid (HTA.out _ now hbw.out (by omega) (by omega))
      have HR0 := Lib.hid (fun W hW => HRT.out W now hW (by omega) (by omega))
      clear HA0
      go_wp2_with fail
      refine HT0.out.mono ?_
      rintro e w5 ⟨A5, c5, L, rfl, hL, hLl, hr5, hb5⟩
      have HB5 : Hid (Below w3.heap.size w3 w5) := Lib.hid (hbw.out.trans (hb5.mono hwz))
      have HL := Lib.hid hL
      have HR5 := Lib.hid hr5
      obtain ⟨m, hm⟩ : ∃ m, L.length = m := ⟨_, rfl⟩
      rw [hm] at HR5 hLl ⊢
      have HM := Lib.hid hm
      clear hL hr5 hb5 hm HT0
      go_wp2_with fail
      refine (HHF.out _).mono ?_
      rintro e w6 ⟨rfl, rfl⟩
      go_wp2_with fail
      refine (HR0.out _ HB5.out).mono ?_
      rintro e w7 ⟨A7, n7, c7, out, rfl, hl7, hn7, hr7, ht7, hb7⟩
      obtain rfl : out = L := (HON.out now L out HL.out ht7).symm
      obtain rfl : n7 = m := by rw [← hl7, HM.out]
      have HB7 : Hid (Below w3.heap.size w3 w7) := Lib.hid (HB5.out.trans (hb7.mono HB5.out.size))
      have HS := Lib.hid (same10_any w7 w5.heap.size w7.heap.size A5 A7 out n7 c5 c7 HM.out (HR5.out.below hb7) hr7 hLl)
      clear hr7 ht7 hb7 HR0 hl7 HL HM
      go_wp2_with fail
      refine HS.out.mono ?_
      rintro e w8 ⟨rfl, hb8⟩
      have HB8 : Hid (Below w3.heap.size w3 w8) := Lib.hid (HB7.out.trans (hb8.mono HB7.out.size))
      clear hb8
      go_wp2_with fail
      go_roundw
      case rel => exact ⟨k + 1, by omega, by go_num, HB8⟩
      case measure => simp [intOf]; omega
    · have HA0 := Lib.hid (HAW.out _ hbw.out)
      go_wp2_with fail
      refine HA0.out.mono ?_
      rintro e w5 ⟨rfl, hb5⟩
      have HB5 : Hid (Below w.heap.size w w5) := Lib.hid (HB3.out.trans ((hbw.out.trans (hb5.mono hwz)).mono HB3.out.size))
      go_wp2_with fail
      go_ret
      exact ⟨rfl, HB5.out⟩

end Go.Proofs.YtnkglbiakjnfjaaDoor
