/- FeedBack: the walk. -/
import Derived.Test.YtikbckpphkpaiaaGreatDoorFdParse
import Derived.Test.YtikbckpphkpaiaaGreatDoorFdRL
import Derived.Test.YtikbckpphkpaiaaGreatDoorFdParS
import Derived.Test.YtikbckpphkpaiaaGreatDoorOpenF
namespace Go.Proofs.YtikbckpphkpaiaaGreatDoor
open Go.Shelf Go.RowKit Go.Maps
set_option linter.unusedVariables false

theorem its_few {l : List Ro} (h : ∀ r ∈ l, RoFew r) (hw : ∀ y ∈ l, RoWf y) : ∀ x ∈ itsOf l, ItFew x := by
  intro x hx
  unfold itsOf at hx
  obtain ⟨i, hi, rfl⟩ := List.mem_mapIdx.1 hx
  have h1 := h _ (List.getElem_mem hi)
  obtain ⟨h2, h3⟩ := hw _ (List.getElem_mem hi)
  unfold RoFew at h1
  have q : ∀ z : Int, (Lit.int .i64 z).wf = true → InI z := fun z hz => by
    have h := hz
    unfold Lit.wf at h
    rw [Bool.and_eq_true, decide_eq_true_iff, decide_eq_true_iff] at h
    exact h
  exact ⟨by show l[i].name.size + l[i].maker.size + l[i].tags.size ≤ 1000000; omega, q _ h2, q _ h3⟩
theorem print_few {l : List Ro} (h : ∀ r ∈ l, RoFew r) (hn : l.length ≤ 31) : (printB l).size ≤ 100000 := by
  unfold printB
  by_cases ho : okL l = true
  · rw [if_pos ho]
    have h1 := text_size (l := l) (n := 647) (fun r hr => by
      have h2 := mayR_num (((okL_iff l).1 ho).1 r hr)
      have h3 := h r hr
      unfold RoFew at h3
      exact line_size ⟨by omega, by omega⟩ ⟨by omega, by omega⟩ (by omega))
    have h4 := Nat.mul_le_mul_right (647 + 1) hn
    omega
  · rw [if_neg ho]
    show 0 ≤ _
    omega

set_option maxHeartbeats 8000000 in
set_option maxRecDepth 100000 in
theorem feedBack_walk (A2 : Option Addr) (m c2 : Nat) (want : List Ro) (s : ByteArray) (w : World) (hr : RoArg w A2 m c2 want) (hrw : ∀ y ∈ want, RoWf y) (hlc : m ≤ c2) (hsz : s.size ≤ 140737488355328) (hg : GlobAt w) (ht : TabAt w) (he : ErrAt w) :
    Calls Tryz.prog 4 #[.slice A2 m c2, .string s] w fun e w' => e = .returned (.bool true) ∧ Below w.heap.size w w' := by
  obtain ⟨hm, hr2, hmb, hnil2, hrbd⟩ := hr
  have HM := Lib.hid hm
  have HR := Lib.hid hr2
  have HRD := Lib.hid hrbd
  have HG := Lib.hid hg
  have HT := Lib.hid ht
  have HE := Lib.hid he
  have HRW := Lib.hid hrw
  have HLV := Lib.hid (lives_any w hg)
  clear hm hr2 hnil2 hrbd hg hrw ht he
  go_enter Tryz.func4, Tryz.ntmps4
  go_wp2_with fail
  refine HLV.out.mono ?_
  rintro e w1 ⟨rfl, hb1⟩
  have HB1 := Lib.hid hb1
  clear hb1 HLV
  have HFW := Lib.hid (few_any w1 w.heap.size A2 want m c2 HM.out (HR.out.below HB1.out) HB1.out.size hmb HRD.out)
  go_wp2_with fail
  refine HFW.out.mono ?_
  rintro e w3 ⟨b, rfl, hbf, q, rfl⟩
  have HB3 : Hid (Below w.heap.size w (w1.drewN q)) := Lib.hid (below_drewN HB1.out q)
  obtain ⟨w3, hw3⟩ : ∃ w3, w1.drewN q = w3 := ⟨_, rfl⟩
  rw [hw3] at HB3 ⊢
  clear HFW hw3
  cases b
  · clear hbf
    go_wp2_with fail
    go_ret
    exact ⟨rfl, HB3.out⟩
  obtain ⟨hm31, hfew⟩ := hbf rfl
  have HFEW := Lib.hid hfew
  clear hbf hfew
  by_cases h3000 : 3000 < s.size
  · have q3 : (3000 : Int) < (s.size : Int) := by omega
    go_wp2_with fail
    go_ret
    exact ⟨rfl, HB3.out⟩
  have q3 : ¬ (3000 : Int) < (s.size : Int) := by omega
  have HI1 := Lib.hid (items_any w3 w.heap.size A2 want m c2 HM.out (HR.out.below HB3.out) HB3.out.size (by omega))
  have HPF := Lib.hid (print_few HFEW.out (by rw [HM.out]; exact hm31))
  have HPP := Lib.hid (parse_print want)
  go_wp2_with fail
  refine HI1.out.mono ?_
  rintro e wa ⟨Aa, ca, rfl, hra, _, hba⟩
  have HBa : Hid (Below w.heap.size w wa) := Lib.hid (HB3.out.trans (hba.mono HB3.out.size))
  have HP := Lib.hid (fprint_any wa wa.heap.size Aa (itsOf want) m ca (by rw [its_len]; exact HM.out) hra (Nat.le_refl _) (by omega) (its_few HFEW.out HRW.out) (HG.out.keep HBa.out (Nat.le_refl _)) (HT.out.keep HBa.out))
  rw [its_rows] at HP
  clear hra hba HI1
  go_wp2_with fail
  refine HP.out.mono ?_
  rintro e wb ⟨rfl, hbb⟩
  have HBb : Hid (Below w.heap.size w wb) := Lib.hid (HBa.out.trans (hbb.mono HBa.out.size))
  have HQ := Lib.hid (parse_any (printB want) wb HPF.out (HG.out.keep HBb.out (Nat.le_refl _)) (HT.out.keep HBb.out) (HE.out.keep HBb.out))
  have HPT : Hid (¬ printB want = ⟨#[]⟩ → okL want = true) := Lib.hid (fun h => by
    cases ho : okL want
    · exact absurd (by unfold printB; rw [ho]; rfl) h
    · rfl)
  generalize printB want = text at *
  clear hbb HP
  go_wp2_with fail
  refine HQ.out.mono ?_
  rintro e wc ⟨Ac, cc, xs, n1, k1, er1, rfl, hn1, hpp, hgd, hrx, _, hn4, hbc⟩
  have HBc : Hid (Below w.heap.size w wc) := Lib.hid (HBb.out.trans (hbc.mono HBb.out.size))
  rw [HPP.out] at hpp
  have HX1 := Lib.hid hn1
  have HRX := Lib.hid hrx
  obtain rfl : er1 = 0 := by
    split at hpp
    · simp only [Prod.mk.injEq] at hpp; exact hpp.2.2.symm
    · simp only [Prod.mk.injEq] at hpp; exact hpp.2.2.symm
  have HXS : Hid (¬ text = ⟨#[]⟩ → xs.map roOf = want ∧ k1 = m ∧ n1 = m) := Lib.hid (fun h => by
    rw [if_pos (HPT.out h)] at hpp
    simp only [Prod.mk.injEq] at hpp
    refine ⟨hpp.1.symm, by rw [← hpp.2.1]; exact HM.out, ?_⟩
    rw [← HX1.out, ← List.length_map (f := roOf), ← hpp.1]
    exact HM.out)
  clear hn1 hpp hgd hbc HQ
  by_cases ht0 : text = ⟨#[]⟩
  · have q0 : text.toList.isEmpty = true := by rw [emp_iff]; exact decide_eq_true ht0
    clear ht0 HXS HRX hrx
    go_wp2_with fail
    have HQ2 := Lib.hid (parse_any s wc (by omega) (HG.out.keep HBc.out (Nat.le_refl _)) (HT.out.keep HBc.out) (HE.out.keep HBc.out))
    go_wp2_with fail
    refine HQ2.out.mono ?_
    rintro e W5 ⟨A5, c5, ys, n5, k5, er5, rfl, hn5, hp5, hg5, hr5, _, hn54, hb5⟩
    have HB5 : Hid (Below w.heap.size w W5) := Lib.hid (HBc.out.trans (hb5.mono HBc.out.size))
    by_cases her : er5 = 0
    · subst her
      have hn6 : n5 ≤ 600 := by rw [← hn5, ← List.length_map (f := roOf)]; exact parseP_few hp5 (by omega)
      have HP5 := Lib.hid (fprint_any W5 W5.heap.size A5 ys n5 c5 hn5 hr5 (Nat.le_refl _) (by omega) (fun x hx => (hg5 x hx).2.2) (HG.out.keep HB5.out (Nat.le_refl _)) (HT.out.keep HB5.out))
      rw [parseP_print hp5] at HP5
      clear hn5 hp5 hg5 hr5 hb5 HQ2
      go_wp2_with fail
      refine HP5.out.mono ?_
      rintro e W6 ⟨rfl, hb6⟩
      have HB6 : Hid (Below w.heap.size w W6) := Lib.hid (HB5.out.trans (hb6.mono HB5.out.size))
      clear hb6 HP5
      go_wp2_with fail
      go_ret
      exact ⟨rfl, HB6.out⟩
    · have qe : (er5 == 0) = false := by rw [Bool.eq_false_iff]; intro e; exact her (beq_iff_eq.1 e)
      obtain rfl : n5 = 0 := by
        have := parseP_err hp5 her
        rw [← hn5, ← List.length_map (f := roOf), this]; rfl
      clear hn5 hp5 hg5 hr5 hb5 HQ2
      go_wp2_with fail
      go_ret
      exact ⟨rfl, HB5.out⟩
  · have q0 : text.toList.isEmpty = false := by rw [emp_iff]; exact decide_eq_false ht0
    obtain ⟨hxm, e1, e2⟩ := HXS.out ht0
    obtain rfl : m = k1 := e1.symm
    obtain rfl : m = n1 := e2.symm
    have HXM := Lib.hid hxm
    have HRL := Lib.hid (rowsl_any wc wc.heap.size Ac xs m cc HX1.out HRX.out (Nat.le_refl _) (by omega))
    rw [hxm] at HRL
    clear ht0 HXS hrx hxm
    go_wp2_with fail
    refine HRL.out.mono ?_
    rintro e wd ⟨Ad, cd, rfl, hrd, _, hbd⟩
    have HBd : Hid (Below w.heap.size w wd) := Lib.hid (HBc.out.trans (hbd.mono HBc.out.size))
    have HSM := Lib.hid (rsame_any wd wd.heap.size w.heap.size Ad A2 want m cd c2 HM.out hrd (HR.out.below HBd.out) (by omega))
    clear hrd hbd HRL
    go_wp2_with fail
    refine HSM.out.mono ?_
    rintro e we ⟨rfl, hbe⟩
    have HBe : Hid (Below w.heap.size w we) := Lib.hid (HBd.out.trans (hbe.mono HBd.out.size))
    clear hbe HSM
    go_wp2_with fail
    have HQ2 := Lib.hid (parse_any s we (by omega) (HG.out.keep HBe.out (Nat.le_refl _)) (HT.out.keep HBe.out) (HE.out.keep HBe.out))
    go_wp2_with fail
    refine HQ2.out.mono ?_
    rintro e W5 ⟨A5, c5, ys, n5, k5, er5, rfl, hn5, hp5, hg5, hr5, _, hn54, hb5⟩
    have HB5 : Hid (Below w.heap.size w W5) := Lib.hid (HBe.out.trans (hb5.mono HBe.out.size))
    by_cases her : er5 = 0
    · subst her
      have hn6 : n5 ≤ 600 := by rw [← hn5, ← List.length_map (f := roOf)]; exact parseP_few hp5 (by omega)
      have HP5 := Lib.hid (fprint_any W5 W5.heap.size A5 ys n5 c5 hn5 hr5 (Nat.le_refl _) (by omega) (fun x hx => (hg5 x hx).2.2) (HG.out.keep HB5.out (Nat.le_refl _)) (HT.out.keep HB5.out))
      rw [parseP_print hp5] at HP5
      clear hn5 hp5 hg5 hr5 hb5 HQ2
      go_wp2_with fail
      refine HP5.out.mono ?_
      rintro e W6 ⟨rfl, hb6⟩
      have HB6 : Hid (Below w.heap.size w W6) := Lib.hid (HB5.out.trans (hb6.mono HB5.out.size))
      clear hb6 HP5
      go_wp2_with fail
      go_ret
      exact ⟨rfl, HB6.out⟩
    · have qe : (er5 == 0) = false := by rw [Bool.eq_false_iff]; intro e; exact her (beq_iff_eq.1 e)
      obtain rfl : n5 = 0 := by
        have := parseP_err hp5 her
        rw [← hn5, ← List.length_map (f := roOf), this]; rfl
      clear hn5 hp5 hg5 hr5 hb5 HQ2
      go_wp2_with fail
      go_ret
      exact ⟨rfl, HB5.out⟩

end Go.Proofs.YtikbckpphkpaiaaGreatDoor
