/- CrowdMakers, CrowdApplies: plain, and the walks. -/
import Derived.Test.YtnkglbiakjnfjaaDoorCrHist
import Derived.Test.YtnkglbiakjnfjaaDoorCrFades
namespace Go.Proofs.YtnkglbiakjnfjaaDoor
open Go.Shelf Go.RowKit Go.Maps
set_option linter.unusedVariables false

/-! ### plain -/
theorem fol_item {e : Ev} (h : crB e = true) (hk : e.kind = 7 ∨ e.kind = 8 ∨ e.kind = 9 ∨ e.kind = 10) : e.item = ⟨#[]⟩ := by
  unfold crB mayB at h
  simp only [Bool.and_eq_true] at h
  have h2 := h.1.2.2.2
  unfold kindB at h2
  rw [if_neg (by omega), if_neg (by omega), if_pos hk] at h2
  simp only [Bool.and_eq_true] at h2
  exact emp_of h2.2.1
theorem fol_word (a b : Int) (hab : (a = 7 ∧ b = 8) ∨ (a = 9 ∧ b = 10)) (rs : List Rw) (h : ∀ r ∈ rs, crB r.e = true) (p t : ByteArray) : (wordO (isT p t) a b rs = none ∧ lsE (evsR rs) p ⟨#[]⟩ t a b = -1) ∨ ∃ q : Bool, wordO (isT p t) a b rs = some q ∧ lsE (evsR rs) p ⟨#[]⟩ t a b = if q then a else b := by
  revert h
  refine snocInd' (p := fun rs => (∀ r ∈ rs, crB r.e = true) → (wordO (isT p t) a b rs = none ∧ lsE (evsR rs) p ⟨#[]⟩ t a b = -1) ∨ ∃ q : Bool, wordO (isT p t) a b rs = some q ∧ lsE (evsR rs) p ⟨#[]⟩ t a b = if q then a else b) rs (fun _ => Or.inl ⟨rfl, rfl⟩) (fun l r ih hc => ?_)
  have ih := ih (fun x hx => hc x (List.mem_append_left _ hx))
  have hr := hc r (by simp)
  rw [wordO_snoc, show evsR (l ++ [r]) = evsR l ++ [r.e] by unfold evsR; simp, lsE_snoc]
  unfold lsF isT
  by_cases h1 : r.e.person = p ∧ r.e.text = t
  · by_cases h2 : r.e.kind = a ∨ r.e.kind = b
    · have h3 := fol_item hr (by clear ih; omega)
      rw [if_pos (by simp [h1, h2]), if_pos ⟨h1.1, h3, h1.2, h2⟩]
      refine Or.inr ⟨_, rfl, ?_⟩
      rcases h2 with h2 | h2
      · simp [h2]
      · have h4 : ¬ b = a := by clear ih; omega
        simp [h2, h4]
    · rw [if_neg (by simp [h2]), if_neg (fun h => h2 h.2.2.2)]
      exact ih
  · rw [if_neg (by simp only [Bool.and_eq_true, decide_eq_true_eq]; exact fun h => h1 h.1), if_neg (fun h => h1 ⟨h.1, h.2.2.1⟩)]
    exact ih
theorem fol_last {a b : Int} (hab : (a = 7 ∧ b = 8) ∨ (a = 9 ∧ b = 10)) {rs : List Rw} (h : ∀ r ∈ rs, crB r.e = true) (p t : ByteArray) : lsE (evsR rs) p ⟨#[]⟩ t a b = a ↔ wordO (isT p t) a b rs = some true := by
  rcases fol_word a b hab rs h p t with ⟨h1, h2⟩ | ⟨q, h1, h2⟩
  · rw [h1, h2]
    constructor
    · intro e; omega
    · intro e; cases e
  · rw [h1, h2]
    cases q
    · constructor
      · intro e; simp at e; omega
      · intro e; cases e
    · simp
theorem mk_one {a b : Int} (hab : (a = 7 ∧ b = 8) ∨ (a = 9 ∧ b = 10)) {rs : List Rw} {xl : List Rd} (h : ∀ r ∈ rs, crB r.e = true) (he : evsD xl = evsR rs) (p y : ByteArray) : decide (wordO (isT p y) a b rs = some true) = rmkB xl p a b (ownR xl p) y := by
  rw [Bool.eq_iff_iff, decide_eq_true_eq]
  unfold rmkB
  rw [List.any_eq_true]
  constructor
  · intro hw
    obtain ⟨r, hr, hk, ht⟩ := fol_has hw
    obtain ⟨d, hd, hde⟩ := own_in he hr
    refine ⟨d, hd, decide_eq_true ⟨?_, by rw [hde]; exact ht⟩⟩
    rw [lstK_own, he, hde, ht]
    exact (fol_last hab h p y).2 hw
  · rintro ⟨d, hd, hq⟩
    obtain ⟨h1, h2⟩ := of_decide_eq_true hq
    rw [lstK_own, he, h2] at h1
    exact (fol_last hab h p y).1 h1
theorem ppl_one {rs : List Rw} {xl : List Rd} (he : evsD xl = evsR rs) (y : ByteArray) : (rs.any fun r => decide (r.e.person = y)) = (xl.any fun r => decide (r.e.person = y)) := by
  have h1 : (rs.any fun r => decide (r.e.person = y)) = (evsR rs).any fun e => decide (e.person = y) := by unfold evsR; rw [List.any_map]; rfl
  have h2 : (xl.any fun r => decide (r.e.person = y)) = (evsD xl).any fun e => decide (e.person = y) := by unfold evsD; rw [List.any_map]; rfl
  rw [h1, h2, he]
theorem evs_own {rs : List Rw} {xl : List Rd} (he : evsD xl = evsR rs) (p : ByteArray) : evsR (ownC rs p) = evsD (ownR xl p) := by
  have h1 : evsR (ownC rs p) = (evsR rs).filter fun e => decide (e.person = p) := by unfold evsR ownC; rw [List.filter_map]; rfl
  have h2 : evsD (ownR xl p) = (evsD xl).filter fun e => decide (e.person = p) := by unfold evsD ownR; rw [List.filter_map]; rfl
  rw [h1, h2, he]


set_option maxHeartbeats 8000000 in
set_option maxRecDepth 100000 in
theorem crowdMakers_walk (half : Int) (A : Option Addr) (n c : Nat) (l : List Ri) (ps : ByteArray) (w : World) (ha : RwArg w A n c l) (hps : ps.size ≤ 140737488355328) (hg : GlobAt w) :
    Calls Tryd.prog 9 #[.int .i64 half, .slice A n c, .string ps] w fun e w' => e = .returned (.bool true) ∧ Below w.heap.size w w' := by
  have HLG := Lib.hid (long_any w A l n c ha)
  have HRW := Lib.hid ha
  have HG := Lib.hid hg
  have hpm : ps.size ≤ maxLen := by unfold maxLen; omega
  clear ha hg
  go_enter Tryd.func9, Tryd.ntmps9
  go_wp2_with fail
  refine HLG.out.mono ?_
  rintro e w1 ⟨bl, rfl, hbl, hb1⟩
  have HB1 := Lib.hid hb1
  have HW1 := Lib.hid (awake_any w1 (HG.out.keep hb1 (Nat.le_refl _)))
  clear HLG hb1
  cases bl
  rotate_left
  · go_wp2_with fail
    refine HW1.out.mono ?_
    rintro e w2 ⟨rfl, hb2⟩
    have HB2 : Hid (Below w.heap.size w w2) := Lib.hid (HB1.out.trans (hb2.mono HB1.out.size))
    go_wp2_with fail
    go_ret
    exact ⟨rfl, HB2.out⟩
  have hsm := hbl rfl
  have h40 := hsm.1
  clear hbl
  by_cases q1 : (60 : Int) < (ps.size : Int)
  · go_wp2_with fail
    refine HW1.out.mono ?_
    rintro e w2 ⟨rfl, hb2⟩
    have HB2 : Hid (Below w.heap.size w w2) := Lib.hid (HB1.out.trans (hb2.mono HB1.out.size))
    go_wp2_with fail
    go_ret
    exact ⟨rfl, HB2.out⟩
  have d1 : decide ((60 : Int) < (ps.size : Int)) = false := decide_eq_false q1
  have HFI := Lib.hid (fill_any half A n c l w1 (rw_below HRW.out HB1.out) hsm (HG.out.keep HB1.out (Nat.le_refl _)))
  clear HW1 hsm
  go_wp2_with fail
  refine HFI.out.mono ?_
  rintro e w3 ⟨cb, A', n', c', rfl, hfi, hb3⟩
  have HB3 : Hid (Below w.heap.size w w3) := Lib.hid (HB1.out.trans (hb3.mono HB1.out.size))
  obtain ⟨U, V, xl, xs, hcr, hdo, hdj, huv, htw, hri, hev, hxl⟩ := fill_open hfi
  obtain ⟨hf, hhf⟩ : ∃ hf, halfP half = hf := ⟨_, rfl⟩
  obtain ⟨rs, hrs⟩ : ∃ rs, crowdOf (l.map rwOf) = rs := ⟨_, rfl⟩
  have hn40 : n' ≤ 40 := by
    have h1 := htw.len
    rw [hdo.len] at h1
    have h2 := crowdOf_len (l.map rwOf)
    rw [List.length_map, HRW.out.1] at h2
    omega
  rw [hhf, hrs] at hcr
  rw [hrs] at hev htw
  have HRL : Hid (rs.length ≤ 1000) := Lib.hid (by have := htw.len; rw [hdo.len] at this; omega)
  have HCM := Lib.hid hcr.may
  have HEV := Lib.hid hev
  have HW : Hid (∀ W, Below w3.heap.size w3 W → CrAt W cb hf U rs ∧ RowIn W w3.heap.size 9 A' n' (xl.flatMap rdC) ∧ w3.heap.size ≤ W.heap.size) := Lib.hid (fun W hW => ⟨hcr.below hW, (RowIn.of_own hdo.own).below hW, hW.size⟩)
  have HXL := Lib.hid hxl
  have HAW : Hid (∀ W, Below w3.heap.size w3 W → Calls Tryd.prog 12 #[] W fun e w' => e = .returned (.bool true) ∧ Below W.heap.size W w') := Lib.hid (fun W hW => awake_any W (HG.out.keep (HB3.out.trans (hW.mono HB3.out.size)) (Nat.le_refl _)))
  clear hb3 hfi hcr hdo hdj huv htw hri hev hxl hhf hrs HFI
  have hB0 : Hid (Below w3.heap.size w3 w3) := Lib.hid (Below.refl _ _)

  have HP1 := Lib.hid (follows_any cb hf U rs ps w3 (HW.out _ hB0.out).1 hpm HRL.out)
  go_wp2_with fail
  refine HP1.out.mono ?_
  rintro e u1 ⟨A1, c1, ks1, rfl, hk1, ho1, hl1, hb1⟩
  have HU1 : Hid (Below w3.heap.size w3 u1) := Lib.hid (hB0.out.trans (hb1.mono hB0.out.size))
  have HK1 := Lib.hid hk1
  have HO1 := Lib.hid (RowIn.of_own ho1)
  obtain ⟨m1, hm1⟩ : ∃ m, ks1.length = m := ⟨_, rfl⟩
  rw [hm1] at HO1 hl1 ⊢
  have HM1 := Lib.hid hm1
  clear hk1 ho1 hb1 hm1 HP1
  have HD1 := Lib.hid (rmakers_any u1 w3.heap.size A' n' c' xl ps 7 8 HXL.out (HW.out _ HU1.out).2.1 (HW.out _ HU1.out).2.2 (by omega))
  go_wp2_with fail
  refine HD1.out.mono ?_
  rintro e v1 ⟨B1, n1, d1, out1, rfl, hn1, hi1, hr1, hz1, hv1⟩
  obtain rfl : out1 = ks1 := (HK1.out.one hi1 (fun y => mk_one (Or.inl ⟨rfl, rfl⟩) HCM.out HEV.out ps y)).symm
  obtain rfl : m1 = n1 := by rw [← hn1, HM1.out]
  have HV1 : Hid (Below w3.heap.size w3 v1) := Lib.hid (HU1.out.trans (hv1.mono HU1.out.size))
  have HS1 := Lib.hid (same16_any v1 u1.heap.size v1.heap.size A1 B1 out1 m1 c1 d1 HM1.out (HO1.out.below hv1) (RowIn.of_own hr1) (by omega))
  clear hn1 hi1 hr1 hv1 HD1 HK1 HM1 HO1
  go_wp2_with fail
  refine HS1.out.mono ?_
  rintro e z1 ⟨rfl, hb1⟩
  have HZ1 : Hid (Below w3.heap.size w3 z1) := Lib.hid (HV1.out.trans (hb1.mono HV1.out.size))
  clear hb1 HS1

  have HP2 := Lib.hid (mutes_any cb hf U rs ps z1 (HW.out _ HZ1.out).1 hpm HRL.out)
  go_wp2_with fail
  refine HP2.out.mono ?_
  rintro e u2 ⟨A2, c2, ks2, rfl, hk2, ho2, hl2, hb2⟩
  have HU2 : Hid (Below w3.heap.size w3 u2) := Lib.hid (HZ1.out.trans (hb2.mono HZ1.out.size))
  have HK2 := Lib.hid hk2
  have HO2 := Lib.hid (RowIn.of_own ho2)
  obtain ⟨m2, hm2⟩ : ∃ m, ks2.length = m := ⟨_, rfl⟩
  rw [hm2] at HO2 hl2 ⊢
  have HM2 := Lib.hid hm2
  clear hk2 ho2 hb2 hm2 HP2
  have HD2 := Lib.hid (rmakers_any u2 w3.heap.size A' n' c' xl ps 9 10 HXL.out (HW.out _ HU2.out).2.1 (HW.out _ HU2.out).2.2 (by omega))
  go_wp2_with fail
  refine HD2.out.mono ?_
  rintro e v2 ⟨B2, n2, d2, out2, rfl, hn2, hi2, hr2, hz2, hv2⟩
  obtain rfl : out2 = ks2 := (HK2.out.one hi2 (fun y => mk_one (Or.inr ⟨rfl, rfl⟩) HCM.out HEV.out ps y)).symm
  obtain rfl : m2 = n2 := by rw [← hn2, HM2.out]
  have HV2 : Hid (Below w3.heap.size w3 v2) := Lib.hid (HU2.out.trans (hv2.mono HU2.out.size))
  have HS2 := Lib.hid (same16_any v2 u2.heap.size v2.heap.size A2 B2 out2 m2 c2 d2 HM2.out (HO2.out.below hv2) (RowIn.of_own hr2) (by omega))
  clear hn2 hi2 hr2 hv2 HD2 HK2 HM2 HO2
  go_wp2_with fail
  refine HS2.out.mono ?_
  rintro e z2 ⟨rfl, hb2⟩
  have HZ2 : Hid (Below w3.heap.size w3 z2) := Lib.hid (HV2.out.trans (hb2.mono HV2.out.size))
  clear hb2 HS2

  have HA9 := Lib.hid (HAW.out _ HZ2.out)
  go_wp2_with fail
  refine HA9.out.mono ?_
  rintro e z9 ⟨rfl, hb9⟩
  have HZ9 : Hid (Below w.heap.size w z9) := Lib.hid (HB3.out.trans ((HZ2.out.trans (hb9.mono HZ2.out.size)).mono HB3.out.size))
  clear hb9
  go_wp2_with fail
  go_ret
  exact ⟨rfl, HZ9.out⟩

set_option maxHeartbeats 8000000 in
set_option maxRecDepth 100000 in
theorem crowdApplies_walk (half : Int) (A : Option Addr) (n c : Nat) (l : List Ri) (ps : ByteArray) (w : World) (ha : RwArg w A n c l) (hps : ps.size ≤ 140737488355328) (hg : GlobAt w) :
    Calls Tryd.prog 8 #[.int .i64 half, .slice A n c, .string ps] w fun e w' => e = .returned (.bool true) ∧ Below w.heap.size w w' := by
  have HLG := Lib.hid (long_any w A l n c ha)
  have HRW := Lib.hid ha
  have HG := Lib.hid hg
  have hpm : ps.size ≤ maxLen := by unfold maxLen; omega
  clear ha hg
  go_enter Tryd.func8, Tryd.ntmps8
  go_wp2_with fail
  refine HLG.out.mono ?_
  rintro e w1 ⟨bl, rfl, hbl, hb1⟩
  have HB1 := Lib.hid hb1
  have HW1 := Lib.hid (awake_any w1 (HG.out.keep hb1 (Nat.le_refl _)))
  clear HLG hb1
  cases bl
  rotate_left
  · go_wp2_with fail
    refine HW1.out.mono ?_
    rintro e w2 ⟨rfl, hb2⟩
    have HB2 : Hid (Below w.heap.size w w2) := Lib.hid (HB1.out.trans (hb2.mono HB1.out.size))
    go_wp2_with fail
    go_ret
    exact ⟨rfl, HB2.out⟩
  have hsm := hbl rfl
  have h40 := hsm.1
  clear hbl
  by_cases q1 : (60 : Int) < (ps.size : Int)
  · go_wp2_with fail
    refine HW1.out.mono ?_
    rintro e w2 ⟨rfl, hb2⟩
    have HB2 : Hid (Below w.heap.size w w2) := Lib.hid (HB1.out.trans (hb2.mono HB1.out.size))
    go_wp2_with fail
    go_ret
    exact ⟨rfl, HB2.out⟩
  have d1 : decide ((60 : Int) < (ps.size : Int)) = false := decide_eq_false q1
  have HFI := Lib.hid (fill_any half A n c l w1 (rw_below HRW.out HB1.out) hsm (HG.out.keep HB1.out (Nat.le_refl _)))
  clear HW1 hsm
  go_wp2_with fail
  refine HFI.out.mono ?_
  rintro e w3 ⟨cb, A', n', c', rfl, hfi, hb3⟩
  have HB3 : Hid (Below w.heap.size w w3) := Lib.hid (HB1.out.trans (hb3.mono HB1.out.size))
  obtain ⟨U, V, xl, xs, hcr, hdo, hdj, huv, htw, hri, hev, hxl⟩ := fill_open hfi
  obtain ⟨hf, hhf⟩ : ∃ hf, halfP half = hf := ⟨_, rfl⟩
  obtain ⟨rs, hrs⟩ : ∃ rs, crowdOf (l.map rwOf) = rs := ⟨_, rfl⟩
  have hn40 : n' ≤ 40 := by
    have h1 := htw.len
    rw [hdo.len] at h1
    have h2 := crowdOf_len (l.map rwOf)
    rw [List.length_map, HRW.out.1] at h2
    omega
  rw [hhf, hrs] at hcr
  rw [hrs] at hev htw
  have HRL : Hid (rs.length ≤ 1000) := Lib.hid (by have := htw.len; rw [hdo.len] at this; omega)
  have HCM := Lib.hid hcr.may
  have HEV := Lib.hid hev
  have HW : Hid (∀ W, Below w3.heap.size w3 W → CrAt W cb hf U rs ∧ RowIn W w3.heap.size 9 A' n' (xl.flatMap rdC) ∧ w3.heap.size ≤ W.heap.size) := Lib.hid (fun W hW => ⟨hcr.below hW, (RowIn.of_own hdo.own).below hW, hW.size⟩)
  have HXL := Lib.hid hxl
  have HAW : Hid (∀ W, Below w3.heap.size w3 W → Calls Tryd.prog 12 #[] W fun e w' => e = .returned (.bool true) ∧ Below W.heap.size W w') := Lib.hid (fun W hW => awake_any W (HG.out.keep (HB3.out.trans (hW.mono HB3.out.size)) (Nat.le_refl _)))
  clear hb3 hfi hcr hdo hdj huv htw hri hev hxl hhf hrs HFI
  have hB0 : Hid (Below w3.heap.size w3 w3) := Lib.hid (Below.refl _ _)

  have HP1 := Lib.hid (people_any cb hf U rs w3 (HW.out _ hB0.out).1 HRL.out)
  go_wp2_with fail
  refine HP1.out.mono ?_
  rintro e u1 ⟨A1, c1, ks1, rfl, hk1, ho1, hl1, hb1⟩
  have HU1 : Hid (Below w3.heap.size w3 u1) := Lib.hid (hB0.out.trans (hb1.mono hB0.out.size))
  have HK1 := Lib.hid hk1
  have HO1 := Lib.hid (RowIn.of_own ho1)
  obtain ⟨m1, hm1⟩ : ∃ m, ks1.length = m := ⟨_, rfl⟩
  rw [hm1] at HO1 hl1 ⊢
  have HM1 := Lib.hid hm1
  clear hk1 ho1 hb1 hm1 HP1
  have HD1 := Lib.hid (rpeople_any u1 w3.heap.size A' n' c' xl HXL.out (HW.out _ HU1.out).2.1 (HW.out _ HU1.out).2.2 (by omega))
  go_wp2_with fail
  refine HD1.out.mono ?_
  rintro e v1 ⟨B1, n1, d1, out1, rfl, hn1, hi1, hr1, hz1, hv1⟩
  obtain rfl : out1 = ks1 := (HK1.out.one hi1 (fun y => ppl_one HEV.out y)).symm
  obtain rfl : m1 = n1 := by rw [← hn1, HM1.out]
  have HV1 : Hid (Below w3.heap.size w3 v1) := Lib.hid (HU1.out.trans (hv1.mono HU1.out.size))
  have HS1 := Lib.hid (same16_any v1 u1.heap.size v1.heap.size A1 B1 out1 m1 c1 d1 HM1.out (HO1.out.below hv1) (RowIn.of_own hr1) (by omega))
  clear hn1 hi1 hr1 hv1 HD1 HK1 HM1 HO1
  go_wp2_with fail
  refine HS1.out.mono ?_
  rintro e z1 ⟨rfl, hb1⟩
  have HZ1 : Hid (Below w3.heap.size w3 z1) := Lib.hid (HV1.out.trans (hb1.mono HV1.out.size))
  clear hb1 HS1

  have HP2 := Lib.hid (history_any cb hf U rs ps z1 (HW.out _ HZ1.out).1 hpm HRL.out)
  go_wp2_with fail
  refine HP2.out.mono ?_
  rintro e u2 ⟨A2, m2, c2, rfl, hm2, hl2, ho2, hb2⟩
  have HU2 : Hid (Below w3.heap.size w3 u2) := Lib.hid (HZ1.out.trans (hb2.mono HZ1.out.size))
  have HO2 : Hid (RowIn u2 u2.heap.size 8 A2 m2 ((evsD (ownR xl ps)).flatMap evC)) := Lib.hid (by rw [← evs_own HEV.out]; exact ho2)
  have HM2 : Hid (m2 = (ownR xl ps).length) := Lib.hid (by
    have := congrArg List.length (evs_own HEV.out ps)
    unfold evsR evsD at this
    simp at this
    rw [hm2, this])
  clear hm2 ho2 hb2 HP2
  have HD2 := Lib.hid (own_any u2 w3.heap.size A' n' c' xl ps HXL.out (HW.out _ HU2.out).2.1 (HW.out _ HU2.out).2.2 (by omega))
  go_wp2_with fail
  refine HD2.out.mono ?_
  rintro e v2 ⟨B2, n2, d2, rfl, hn2, hz2, hr2, hv2⟩
  obtain rfl : m2 = n2 := by rw [hn2, HM2.out]
  have HV2 : Hid (Below w3.heap.size w3 v2) := Lib.hid (HU2.out.trans (hv2.mono HU2.out.size))
  have HS2 := Lib.hid (same_any v2 u2.heap.size v2.heap.size A2 B2 (ownR xl ps) m2 c2 d2 HM2.out.symm (HO2.out.below hv2) (RowIn.of_own hr2) (by omega))
  clear hn2 hr2 hv2 HD2 HM2 HO2
  go_wp2_with fail
  refine HS2.out.mono ?_
  rintro e z2 ⟨rfl, hb2⟩
  have HZ2 : Hid (Below w3.heap.size w3 z2) := Lib.hid (HV2.out.trans (hb2.mono HV2.out.size))
  clear hb2 HS2
  have HA9 := Lib.hid (HAW.out _ HZ2.out)
  go_wp2_with fail
  refine HA9.out.mono ?_
  rintro e z9 ⟨rfl, hb9⟩
  have HZ9 : Hid (Below w.heap.size w z9) := Lib.hid (HB3.out.trans ((HZ2.out.trans (hb9.mono HZ2.out.size)).mono HB3.out.size))
  clear hb9
  go_wp2_with fail
  go_ret
  exact ⟨rfl, HZ9.out⟩

end Go.Proofs.YtnkglbiakjnfjaaDoor
