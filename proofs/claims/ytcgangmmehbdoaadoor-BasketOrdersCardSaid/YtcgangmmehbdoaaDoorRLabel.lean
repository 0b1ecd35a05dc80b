/- The document's Label. -/
import Derived.Test.YtcgangmmehbdoaaDoorRLess
import Derived.BigQuiet
namespace Go.Proofs.YtcgangmmehbdoaaDoor
open Go.Shelf Go.RowKit Go.Maps
set_option linter.unusedVariables false

theorem evtags_few (t : ByteArray) : (evTags t).length ≤ t.size + 1 := by
  unfold evTags
  split
  · simp
  · have h1 := Lib.splitB_length_le ⟨#[44]⟩ 0 (Lib.countB (restP t) ⟨#[44]⟩) (restP t)
    have h2 := cut_le t
    have h3 : Lib.countB (restP t) ⟨#[44]⟩ ≤ (restP t).size := Lib.countB_le ⟨#[44]⟩ (by decide) _ _ (Nat.le_refl _)
    unfold parts
    omega

set_option maxHeartbeats 4000000 in
set_option maxRecDepth 100000 in
theorem rlabel_any (s : ByteArray) (w : World) (hs : s.size ≤ 1000000) :
    Calls Tryd.prog 49 #[.string s] w fun e w' => e = .returned (.bool (listB s)) ∧ Below w.heap.size w w' := by
  have HPL := Lib.hid (place_any s w (by omega))
  have HMK := Lib.hid (rmaker_any s w (by omega))
  have hle := head_le s
  have HP := Lib.hid (parts_le s)
  have hfw := evtags_few s
  have HL : Hid (listB s = (cutsP s && (nameB (headP s) && (decide ((evTags s).length ≤ 8) && riseB (evTags s))))) := Lib.hid rfl
  have HN := Lib.hid (rname_any (headP s) w (by unfold maxLen; omega))
  have HT := Lib.hid (rtags_any s w hs)
  go_enter Tryd.func49, Tryd.ntmps49
  go_wp2_with fail
  refine HPL.out.mono ?_
  rintro e w1 ⟨r, rfl, hr, rfl⟩
  clear HPL
  rcases hr with ⟨k, rfl, hk, hsm⟩ | ⟨rfl, hno⟩
  · have HCT := Lib.hid (cut_hit hsm).2.2
    have hk7 : decide ((k : Int) < 0) = false := decide_eq_false (by omega)
    clear hsm
    go_wp2_with fail
    refine HMK.out.mono ?_
    rintro e w1 ⟨rfl, rfl⟩
    clear HMK
    generalize headP s = h at *
    go_wp2_with fail
    refine HN.out.mono ?_
    rintro e w1 ⟨rfl, rfl⟩
    clear HN
    cases hn : nameB h
    · have HNM := Lib.hid hn
      clear hn
      go_wp2_with fail
      go_ret
      exact ⟨ret_bool (by rw [HL.out, HCT.out, HNM.out]; rfl), Below.refl _ _⟩
    · have HNM := Lib.hid hn
      clear hn
      go_wp2_with fail
      refine HT.out.mono ?_
      rintro e w2 ⟨A, c, rfl, hown, hb2⟩
      have hrow := RowIn.of_own hown
      clear HT
      have HB2 : Hid (Below w.heap.size w w2) := Lib.hid hb2
      generalize evTags s = l at *
      obtain ⟨n, hn⟩ : ∃ n, l.length = n := ⟨_, rfl⟩
      rw [hn] at hrow hfw ⊢
      have HLN := Lib.hid hn
      have HR := Lib.hid hrow
      clear hrow hb2 hn hown
      go_wp2_with fail
      go_loopw [4] (fun i wr => ∃ k q : Nat, k ≤ n ∧ i = .int .i64 k ∧ Hid (∀ j, j < k → okAt l j) ∧ wr = w2.drewN q) (fun i _ => n - (intOf i).toNat)
      case atStart => exact ⟨0, 0, Nat.zero_le _, rfl, Lib.hid (fun j hj => by omega), rfl⟩
      case round =>
        obtain ⟨k, q, hk, rfl, hok, hwr⟩ := hrel
        have HBR : Hid (Below w.heap.size w wr) := Lib.hid (by rw [hwr]; exact below_drewN HB2.out _)
        have HRR : Hid (RowIn wr w2.heap.size 1 A n (l.map .string)) := Lib.hid (by rw [hwr]; exact HR.out.drewN _)
        have HWR := Lib.hid hwr
        clear hwr
        by_cases hlt : k < n
        · obtain ⟨t, ht⟩ : ∃ t, l[k]? = some t := ⟨l[k]'(by rw [HLN.out]; exact hlt), List.getElem?_eq_getElem _⟩
          obtain ⟨g, o, rfl, _, hc⟩ := HRR.out.at (by omega)
          have e0 : wr.cell? ⟨g, o + k, none⟩ = some (.string t) := hc k _ (by simp [ht])
          have hts := HP.out t (List.mem_of_getElem? ht)
          have HTK := Lib.hid ht
          have hk8 : (k : Int) < (n : Int) := by omega
          have hk9 : (0 : Int) ≤ (k : Int) := by omega
          cases hn : nameB t
          · have HNT := Lib.hid hn
            have HN : Hid (∀ u, Calls Tryd.prog 47 #[.string t] u fun e w' => e = .returned (.bool false) ∧ w' = u) := Lib.hid (fun u => by have := rname_any t u (by unfold maxLen; omega); rw [hn] at this; exact this.mono (fun _ _ h => ⟨h.1, h.2.symm⟩))
            clear hn ht hc
            go_wp2_with fail
            go_quiet (refine Calls.quiet_of_same (HN.out _))
            go_wp2_with fail
            go_ret
            refine ⟨ret_bool ?_, below_drewN HBR.out _⟩
            have hr : riseB l = false := by
              cases hr : riseB l
              · rfl
              · have := ((rise_of l).1 hr k t HTK.out).1
                rw [HNT.out] at this; cases this
            rw [HL.out, hr]; simp
          · have HNT := Lib.hid hn
            have HN : Hid (∀ u, Calls Tryd.prog 47 #[.string t] u fun e w' => e = .returned (.bool true) ∧ w' = u) := Lib.hid (fun u => by have := rname_any t u (by unfold maxLen; omega); rw [hn] at this; exact this.mono (fun _ _ h => ⟨h.1, h.2.symm⟩))
            by_cases hk0 : k = 0
            · subst hk0
              rw [Nat.add_zero] at e0
              clear hn ht hc
              go_wp2_with fail
              go_quiet (refine Calls.quiet_of_same (HN.out _))
              go_wp2_with fail
              go_roundw
              case rel =>
                refine ⟨1, q + nq, by omega, by go_num, Lib.hid (fun j hj => ?_), by rw [HWR.out, World.drewN_drewN]⟩
                obtain rfl : j = 0 := by omega
                intro t' ht'
                rw [HTK.out] at ht'
                cases ht'
                exact ⟨HNT.out, fun u h0 => by omega⟩
              case measure => simp [intOf]; omega
            · obtain ⟨u, hu⟩ : ∃ u, l[k - 1]? = some u := ⟨l[k - 1]'(by rw [HLN.out]; omega), List.getElem?_eq_getElem _⟩
              have e1 : wr.cell? ⟨g, o + (k - 1), none⟩ = some (.string u) := hc (k - 1) _ (by simp [hu])
              have HU := Lib.hid hu
              have hkk : ((k : Int) - 1).toNat = k - 1 := by omega
              have hk1 : decide ((0 : Int) < (k : Int)) = true := decide_eq_true (by omega)
              have hk1n : decide (0 < k) = true := decide_eq_true (by omega)
              have hk1p : 0 < k := by omega
              have hk2 : (0 : Int) ≤ (k : Int) - 1 := by omega
              have hk3 : (k : Int) - 1 < (n : Int) := by omega
              clear hn ht hc hu
              cases hlt2 : Op.bytesLess u.toList t.toList
              · have HLT := Lib.hid hlt2
                go_wp2_with fail
                go_quiet (refine Calls.quiet_of_same (HN.out _))
                go_wp2_with fail
                go_ret
                refine ⟨ret_bool ?_, below_drewN HBR.out _⟩
                have hr : riseB l = false := by
                  cases hr : riseB l
                  · rfl
                  · have := ((rise_of l).1 hr k t HTK.out).2 u (by omega) HU.out
                    unfold ltB at this
                    rw [HLT.out] at this; cases this
                rw [HL.out, hr]; simp
              · have HLT := Lib.hid hlt2
                go_wp2_with fail
                go_quiet (refine Calls.quiet_of_same (HN.out _))
                go_wp2_with fail
                go_roundw
                case rel =>
                  refine ⟨k + 1, q + nq, by omega, by go_num, Lib.hid (fun j hj => ?_), by rw [HWR.out, World.drewN_drewN]⟩
                  by_cases e : j = k
                  · subst e
                    intro t' ht'
                    rw [HTK.out] at ht'
                    cases ht'
                    refine ⟨HNT.out, fun u' _ hu' => ?_⟩
                    rw [HU.out] at hu'
                    cases hu'
                    exact HLT.out
                  · exact hok.out j (by omega)
                case measure => simp [intOf]; omega
        · have HF : Hid (listB s = decide ((n : Int) ≤ 8)) := Lib.hid (by
            have hr : riseB l = true := (rise_of l).2 (fun j => by
              by_cases hj : j < k
              · exact hok.out j hj
              · intro t ht
                have := (List.getElem?_eq_some_iff.1 ht).1
                rw [HLN.out] at this
                omega)
            rw [HL.out, hr, HCT.out, HNM.out, HLN.out]
            simp only [Bool.true_and, Bool.and_true]
            exact decide_eq_decide.2 (by omega))
          go_wp2_with fail
          go_ret
          exact ⟨ret_bool HF.out.symm, HBR.out⟩
  · have HCT := Lib.hid (cut_miss hno).2.2
    clear hno
    go_wp2_with fail
    go_ret
    exact ⟨ret_bool (by rw [HL.out, HCT.out]; rfl), Below.refl _ _⟩

end Go.Proofs.YtcgangmmehbdoaaDoor
