/- Does a clock stand as the document's does? -/
import Derived.Test.YtobkgkiomapabaaGreatDoorDcH
import Derived.Deep.DeepCutAuto
import Derived.Deep.CutBlock
namespace Go.Proofs.YtobkgkiomapabaaGreatDoor
open Go.RowKit Go.Maps Go.Shelf
set_option linter.unusedVariables false

theorem rows_short {c : Ck} {l : List Sc} (hr : Rows' c.src l) : Short c := fun s hs => by
  obtain ⟨x, hx⟩ := Option.isSome_iff_exists.1 hs
  have := (hr.ok _ ((hr.mem ⟨s.toArray⟩ x).1 (by simpa using hx))).2.2.2.2
  have e : (⟨s.toArray⟩ : ByteArray).size = s.length := by show s.toArray.size = _; simp
  dsimp only at this
  omega
theorem bytes_back {w : World} {base N cc : Nat} {A : Option Addr} {bs : List UInt8} (h : w.ownsRow base 5 1 (.slice A N cc) N (Lib.byteCells bs)) (hN : 0 < N) (hb : bs.length = N) (V : World) (hV : Below w.heap.size w V) :
    (convert 22 9 (.slice A N cc)).run Tryz.prog V = .ok (.string ⟨bs.toArray⟩) V := by
  obtain ⟨g, o, rfl, hg, hc⟩ := (RowIn.of_own h).at hN
  have h1 := run_convert_bytes_back (P := Tryz.prog) V 22 9 5 ⟨g, o, none⟩ cc bs Tryz.underlying22 Tryz.underlying5 Tryz.underlying9 (fun j hj => by
    rw [at_add, hV.cell (p := ⟨g, o + j, none⟩) hg]
    refine hc j _ ?_
    unfold Lib.byteCells
    simp [List.getElem?_eq_getElem hj])
  rw [hb] at h1
  exact h1

set_option maxHeartbeats 8000000 in
set_option maxRecDepth 100000 in
theorem alike_any (D cb mb db n : Nat) (c : Ck) (w : World) (hc : ClockAt w cb mb n c) (hd : DocAt w D db n c) (hn : n ≤ 5000) (ht : TabB w.heap.size w) :
    Calls Tryz.prog 7 #[.pointer (some ⟨cb, 0, none⟩), .pointer (some ⟨db, 0, none⟩)] w fun e w' => e = .returned (.bool true) ∧ Below w.heap.size w w' := by
  obtain ⟨A, cc, l, hl, h⟩ := hd
  obtain ⟨m, hm⟩ : ∃ m, l.length = m := ⟨_, rfl⟩
  have HM := Lib.hid hm
  have HD : Hid (∀ V, Below w.heap.size w V → DocIn V D db A cc l c) := Lib.hid (fun V hV => h.below hV)
  have HC : Hid (∀ V, Below w.heap.size w V → ClockAt V cb mb n c) := Lib.hid (fun V hV => hc.below hV hc.blk.lt hc.map.lt (Nat.le_refl _))
  have HRO := Lib.hid h.rows
  have HT := Lib.hid ht
  have HSR := Lib.hid (sources_any cb mb n c w hc (by omega))
  have HDC : Hid (∀ V, Below w.heap.size w V → V.cell? ⟨db, 2, none⟩ = some (.int .i64 c.now) ∧ V.cell? ⟨db, 3, none⟩ = some (.int .i64 c.mark) ∧ V.cell? ⟨db, 4, none⟩ = some (.slice A m cc)) := Lib.hid (fun V hV => by
    have k := (h.below hV).blk
    rw [hm] at k
    exact ⟨k.cell 2, k.cell 3, k.cell 4⟩)
  have hmn : m ≤ n := by omega
  clear hc h ht hm hl
  go_enter Tryz.func7, Tryz.ntmps7
  go_wp2_with fail
  refine HSR.out.mono ?_
  rintro e w1 ⟨v, ks, rfl, hks, hown, hb1, _, _⟩
  obtain ⟨Ak, ck, hv⟩ := own_shape hown
  subst hv
  have HKL : Hid (ks = l.map fun x => x.1.data.toList) := Lib.hid (keys_rows hks HRO.out)
  have HKN : Hid (ks.length = m) := Lib.hid (by rw [HKL.out, List.length_map]; exact HM.out)
  rw [HKN.out] at hown ⊢
  have HOW := Lib.hid hown
  have HB1 := Lib.hid hb1
  clear hks hown hb1 HSR
  go_upto_region 2 with fail
  go_cut [42] (fun c2 wx => c2 = .bool false ∧ Hid (Below w1.heap.size w1 wx))
  case first =>
    have HEN : Hid (∀ V, Below w.heap.size w V → Calls Tryz.prog 8 #[.pointer (some ⟨cb, 0, none⟩)] V fun e w' => ∃ A cc N ks, e = .returned (.slice A N cc) ∧ KeysOf' (fun s => (c.src s).isSome) ks ∧ (encC c ks).length = N ∧ w'.ownsRow V.heap.size 5 1 (.slice A N cc) N (Lib.byteCells (encC c ks)) ∧ Below V.heap.size V w') := Lib.hid (fun V hV => encode_any cb mb n c V (HC.out V hV) (by omega) (rows_short HRO.out) (fun w' hw' => (HT.out.on hV) w' (hw'.mono hV.size)))
    have HRE : Hid (∀ V, Below w.heap.size w V → Calls Tryz.prog 24 #[.pointer (some ⟨db, 0, none⟩)] V fun e w' => ∃ l, e = .returned (.string (encB c l)) ∧ Rows' c.src l ∧ Below V.heap.size V w') := Lib.hid (fun V hV => rencode_any D db n c V (by omega) ⟨A, cc, l, by rw [HM.out]; exact hmn, HD.out V hV⟩)
    have HS0 : Hid (Below w.heap.size w w1.drew) := Lib.hid (below_drew HB1.out)
    have HS1 : Hid (Below w1.heap.size w1 w1.drew) := Lib.hid (below_drew (Below.refl _ _))
    refine wp_planT (fun V => Below w.heap.size w V) (.take 0 (.take 2 (.take 3 (.take 4 (.take 5 (.turn 1 (.take 6 (.take 7 (.take 8 (.take 10 (.take 11 (.take 12 (.take 13 (.turn 9 (.take 14 (.take 15 (.take 16 (.take 17 (.take 18 (.take 19 (.take 20 (.take 21 (.take 22 (.take 23 (.take 24 (.take 25 (.take 26 (.take 27 (.take 30 (.turn 28 (.fork 29 (.turn 31 (.take 32 (.take 33 .done))) 31 (.turn 29 (.take 32 (.take 33 .done)))))))))))))))))))))))))))))))))) (by kernel_rfl) (by kernel_rfl) HS0.out ?_
    simp only [planTL, List.getElem?_cons_zero, List.getElem?_cons_succ]
    obtain ⟨wd, hwd⟩ : ∃ wd, w1.drew = wd := ⟨_, rfl⟩
    rw [hwd] at HS0 HS1 ⊢
    clear hwd
    repeat (first | (refine planT_on _ (by rfl) (fun W hW => by (obtain ⟨y2, y3, y4⟩ := HDC.out W hW; go_simp; try with_reducible rfl)) ?_; simp only [Act.put, List.setIfInBounds_toArray, List.set_cons_zero, List.set_cons_succ]) | (refine planT_off (by rfl) ?_; simp only [Act.put, List.setIfInBounds_toArray, List.set_cons_zero, List.set_cons_succ]))
    refine planT_turn ?_
    go_wp2_with fail
    refine (mark_any cb mb c _ (HC.out _ HS0.out).blk).mono ?_
    rintro e _ ⟨rfl, rfl⟩
    go_wp2_with fail
    refine ⟨HS0.out, ?_⟩
    repeat (first | (refine planT_on _ (by rfl) (fun W hW => by (obtain ⟨y2, y3, y4⟩ := HDC.out W hW; go_simp; try with_reducible rfl)) ?_; simp only [Act.put, List.setIfInBounds_toArray, List.set_cons_zero, List.set_cons_succ]) | (refine planT_off (by rfl) ?_; simp only [Act.put, List.setIfInBounds_toArray, List.set_cons_zero, List.set_cons_succ]))
    refine planT_turn ?_
    go_wp2_with fail
    refine (now_any cb mb c _ (HC.out _ HS0.out).blk).mono ?_
    rintro e _ ⟨rfl, rfl⟩
    go_wp2_with fail
    refine ⟨HS0.out, ?_⟩
    repeat (first | (refine planT_on _ (by rfl) (fun W hW => by (obtain ⟨y2, y3, y4⟩ := HDC.out W hW; go_simp; try with_reducible rfl)) ?_; simp only [Act.put, List.setIfInBounds_toArray, List.set_cons_zero, List.set_cons_succ]) | (refine planT_off (by rfl) ?_; simp only [Act.put, List.setIfInBounds_toArray, List.set_cons_zero, List.set_cons_succ]))
    refine planT_turn ?_
    go_wp2_with fail
    refine (HEN.out _ HS0.out).mono ?_
    rintro e w5 ⟨A5, c5, N, ks5, rfl, hk5, hN5, ho5, hb5⟩
    have HB5 : Hid (Below w.heap.size w w5) := Lib.hid (HS0.out.trans (hb5.mono HS0.out.size))
    have HX5 : Hid (Below w1.heap.size w1 w5) := Lib.hid (HS1.out.trans (hb5.mono HS1.out.size))
    have HNP : Hid (0 < N) := Lib.hid (by rw [← hN5]; unfold encC lineC; simp; omega)
    have HCV : Hid (∀ V, Below w5.heap.size w5 V → (convert 22 9 (.slice A5 N c5)).run Tryz.prog V = .ok (.string ⟨(encC c ks5).toArray⟩) V) := Lib.hid (fun V hV => bytes_back ho5 HNP.out hN5 V hV)
    have HEQ : Hid (∀ l', Rows' c.src l' → encB c l' = ⟨(encC c ks5).toArray⟩) := Lib.hid (fun l' hr => by
      unfold encB
      rw [← enc_rows hr, keys_rows hk5 hr])
    obtain ⟨eb, heb⟩ : ∃ eb : ByteArray, ⟨(encC c ks5).toArray⟩ = eb := ⟨_, rfl⟩
    rw [heb] at HCV HEQ
    have hne : (eb.toList != eb.toList) = false := by simp
    clear hk5 hN5 ho5 hb5 heb
    go_wp2_with fail
    refine ⟨HB5.out, ?_⟩
    refine planT_fork ?_ ?_
    case refine_1 =>
      have hcv := HCV.out w5 (Below.refl _ _)
      go_wp2_with fail
      refine ⟨HB5.out, ?_⟩
      clear hcv
      refine planT_turn ?_
      go_wp2_with fail
      refine (HRE.out _ HB5.out).mono ?_
      rintro e w6 ⟨l6, rfl, hr6, hb6⟩
      rw [HEQ.out l6 hr6]
      have HB6 : Hid (Below w.heap.size w w6) := Lib.hid (HB5.out.trans (hb6.mono HB5.out.size))
      have HX6 : Hid (Below w1.heap.size w1 w6) := Lib.hid (HX5.out.trans (hb6.mono HX5.out.size))
      clear hr6 hb6
      go_wp2_with fail
      refine ⟨HB6.out, ?_⟩
      repeat (first | (refine planT_on _ (by rfl) (fun W hW => by (obtain ⟨y2, y3, y4⟩ := HDC.out W hW; go_simp; try with_reducible rfl)) ?_; simp only [Act.put, List.setIfInBounds_toArray, List.set_cons_zero, List.set_cons_succ]) | (refine planT_off (by rfl) ?_; simp only [Act.put, List.setIfInBounds_toArray, List.set_cons_zero, List.set_cons_succ]))
      refine planT_done ?_
      go_wp2_with fail
      go_meet
      exact ⟨by first | rfl | (simp), HX6⟩
    case refine_2 =>
      go_wp2_with fail
      refine (HRE.out _ HB5.out).mono ?_
      rintro e w6 ⟨l6, rfl, hr6, hb6⟩
      rw [HEQ.out l6 hr6]
      have HB6 : Hid (Below w.heap.size w w6) := Lib.hid (HB5.out.trans (hb6.mono HB5.out.size))
      have HX6 : Hid (Below w1.heap.size w1 w6) := Lib.hid (HX5.out.trans (hb6.mono HX5.out.size))
      have HCV6 := Lib.hid (HCV.out w6 hb6)
      clear hr6 hb6
      go_wp2_with fail
      refine ⟨HB6.out, ?_⟩
      refine planT_turn ?_
      have hcv := HCV6.out
      go_wp2_with fail
      refine ⟨HB6.out, ?_⟩
      clear hcv
      repeat (first | (refine planT_on _ (by rfl) (fun W hW => by (obtain ⟨y2, y3, y4⟩ := HDC.out W hW; go_simp; try with_reducible rfl)) ?_; simp only [Act.put, List.setIfInBounds_toArray, List.set_cons_zero, List.set_cons_succ]) | (refine planT_off (by rfl) ?_; simp only [Act.put, List.setIfInBounds_toArray, List.set_cons_zero, List.set_cons_succ]))
      refine planT_done ?_
      go_wp2_with fail
      go_meet
      exact ⟨by first | rfl | (simp), HX6⟩
  case rest =>
  obtain ⟨rfl, HBC⟩ := hcut
  obtain ⟨w2, rfl⟩ : ∃ w2 : World, w2 = wc := ⟨_, rfl⟩
  have HB2 : Hid (Below w.heap.size w w2) := Lib.hid (HB1.out.trans (HBC.out.mono HB1.out.size))
  go_wp2_with fail
  go_loopw [6] (fun i wr => ∃ k : Nat, k ≤ m ∧ i = .int .i64 k ∧ Hid (Below w1.heap.size w1 wr)) (fun i _ => m - (intOf i).toNat)
  case atStart => exact ⟨0, Nat.zero_le _, rfl, HBC⟩
  case round =>
    obtain ⟨k, hk, rfl, hbw⟩ := hrel
    have HBW : Hid (Below w.heap.size w wr) := Lib.hid (HB1.out.trans (hbw.out.mono HB1.out.size))
    have hzr : w.heap.size ≤ wr.heap.size := HBW.out.size
    by_cases hlt : k < m
    · obtain ⟨x, hx⟩ : ∃ x, l[k]? = some x := ⟨l[k]'(by rw [HM.out]; exact hlt), List.getElem?_eq_getElem _⟩
      obtain ⟨xn, x1, x2⟩ := x
      have HSX : Hid (c.src xn.data.toList = some (x1, x2)) := Lib.hid ((HRO.out.mem xn (x1, x2)).2 (List.mem_of_getElem? hx))
      have HHD : Hid (heardOf c xn.data.toList = x1) := Lib.hid (by unfold heardOf; rw [HSX.out])
      have HXS : Hid (xn.size ≤ maxLen) := Lib.hid (by have := (HRO.out.ok _ (List.mem_of_getElem? hx)).2.2.2.2; dsimp only at this; unfold maxLen; omega)
      obtain ⟨g, o, hA, hg, e0, e1, e2⟩ := (HD.out wr HBW.out).at hx
      dsimp only at e0 e1
      subst hA
      obtain ⟨g2, o2, hA2, hg2, hc2⟩ := (RowIn.of_own HOW.out).at (by omega)
      subst hA2
      have f0 : w1.cell? ⟨g2, o2 + k, none⟩ = some (.string xn) := hc2 k _ (by rw [HKL.out]; simp [hx, encStr])
      have HSK : Hid (∀ V, Below wr.heap.size wr V → V.cell? ⟨db, 4, none⟩ = some (.slice (some ⟨g, o, none⟩) m cc) ∧ V.cell? ⟨g, o + k * 3, none⟩ = some (.string xn) ∧ V.cell? ⟨g, o + k * 3 + 1, none⟩ = some (.int .i64 x1) ∧ V.cell? ⟨g2, o2 + k, none⟩ = some (.string xn)) := Lib.hid (fun V hV => ⟨(HDC.out V (HBW.out.trans (hV.mono hzr))).2.2, (hV.cell (p := ⟨g, _, none⟩) hg).trans e0, (hV.cell (p := ⟨g, _, none⟩) hg).trans e1, (hV.cell (p := ⟨g2, _, none⟩) (Nat.lt_of_lt_of_le hg2 hbw.out.size)).trans ((hbw.out.cell (p := ⟨g2, _, none⟩) hg2).trans f0)⟩)
      have HHE : Hid (∀ V, Below wr.heap.size wr V → Calls Tryz.prog 25 #[.pointer (some ⟨cb, 0, none⟩), .string xn] V fun e w' => e = .returned (.int .i64 x1) ∧ Below V.heap.size V w') := Lib.hid (fun V hV => by rw [← HHD.out]; exact heard_any cb mb n c xn V (HC.out V (HBW.out.trans (hV.mono hzr))) HXS.out)
      obtain ⟨ab, hab⟩ : ∃ ab, activeOf c xn.data.toList = ab := ⟨_, rfl⟩
      have HAC : Hid (∀ V, Below wr.heap.size wr V → Calls Tryz.prog 26 #[.pointer (some ⟨cb, 0, none⟩), .string xn] V fun e w' => e = .returned (.bool ab) ∧ Below V.heap.size V w') := Lib.hid (fun V hV => by rw [← hab]; exact active_says cb mb n c xn V (HC.out V (HBW.out.trans (hV.mono hzr))) HXS.out)
      have HRA : Hid (∀ V, Below wr.heap.size wr V → Calls Tryz.prog 27 #[.pointer (some ⟨db, 0, none⟩), .string xn] V fun e w' => e = .returned (.bool ab) ∧ Below V.heap.size V w') := Lib.hid (fun V hV => by rw [← hab]; exact ractive_says D db n c xn V (by omega) ⟨_, cc, l, by rw [HM.out]; exact hmn, HD.out V (HBW.out.trans (hV.mono hzr))⟩)
      have HS0 : Hid (Below wr.heap.size wr wr.drew) := Lib.hid (below_drew (Below.refl _ _))
      have hk8 : (k : Int) < (m : Int) := by omega
      have hk9 : (0 : Int) ≤ (k : Int) := by omega
      have hne : (xn.toList != xn.toList) = false := by simp
      clear hx e0 e1 e2 hc2 f0 hab
      go_wp2_with fail
      refine wp_plan (fun V => Below wr.heap.size wr V) [(0, false), (1, false), (2, false), (3, false), (4, false), (5, false), (6, false), (7, false), (8, false), (9, false), (10, false), (11, false), (12, false), (13, false), (14, false), (15, false), (16, false), (17, false), (18, false), (20, false), (21, false), (22, false), (23, false), (24, false), (25, false), (26, false), (27, false), (19, true), (28, false), (29, false), (30, false), (31, false), (32, false), (33, false), (34, false), (35, false), (37, false), (38, false), (39, false), (40, false), (41, false), (36, true), (42, true), (43, false), (44, false)] (by kernel_rfl) (by kernel_rfl) HS0.out ?_
      simp only [planL, List.getElem?_cons_zero, List.getElem?_cons_succ]
      repeat (first | (refine plan_on _ (by rfl) (fun W hW => by (obtain ⟨y4, z0, z1, z2⟩ := HSK.out W hW; go_simp; try with_reducible rfl)) ?_; simp only [Act.put, List.setIfInBounds_toArray, List.set_cons_zero, List.set_cons_succ]) | (refine plan_off (by rfl) ?_; simp only [Act.put, List.setIfInBounds_toArray, List.set_cons_zero, List.set_cons_succ]))
      refine plan_turn ?_
      go_wp2_with fail
      refine (HHE.out _ HS0.out).mono ?_
      rintro e w3 ⟨rfl, hb3⟩
      have HB3 : Hid (Below wr.heap.size wr w3) := Lib.hid (HS0.out.trans hb3)
      clear hb3
      go_wp2_with fail
      refine ⟨HB3.out, ?_⟩
      repeat (first | (refine plan_on _ (by rfl) (fun W hW => by (obtain ⟨y4, z0, z1, z2⟩ := HSK.out W hW; go_simp; try with_reducible rfl)) ?_; simp only [Act.put, List.setIfInBounds_toArray, List.set_cons_zero, List.set_cons_succ]) | (refine plan_off (by rfl) ?_; simp only [Act.put, List.setIfInBounds_toArray, List.set_cons_zero, List.set_cons_succ]))
      refine plan_turn ?_
      go_wp2_with fail
      refine (HAC.out _ HB3.out).mono ?_
      rintro e w4 ⟨rfl, hb4⟩
      have HB4 : Hid (Below wr.heap.size wr w4) := Lib.hid (HB3.out.trans (hb4.mono HB3.out.size))
      clear hb4
      go_wp2_with fail
      refine ⟨HB4.out, ?_⟩
      refine plan_turn ?_
      go_wp2_with fail
      refine (HRA.out _ HB4.out).mono ?_
      rintro e w5 ⟨rfl, hb5⟩
      have HB5 : Hid (Below wr.heap.size wr w5) := Lib.hid (HB4.out.trans (hb5.mono HB4.out.size))
      clear hb5
      go_wp2_with fail
      refine ⟨HB5.out, ?_⟩
      repeat (first | (refine plan_on _ (by rfl) (fun W hW => by (obtain ⟨y4, z0, z1, z2⟩ := HSK.out W hW; go_simp; try with_reducible rfl)) ?_; simp only [Act.put, List.setIfInBounds_toArray, List.set_cons_zero, List.set_cons_succ]) | (refine plan_off (by rfl) ?_; simp only [Act.put, List.setIfInBounds_toArray, List.set_cons_zero, List.set_cons_succ]))
      refine plan_done ?_
      have HBX : Hid (Below w1.heap.size w1 w5) := Lib.hid (hbw.out.trans (HB5.out.mono hbw.out.size))
      go_wp2_with fail
      go_roundw
      case rel => exact ⟨k + 1, by omega, by go_num, HBX⟩
      case measure => simp [intOf]; omega
    · obtain rfl : m = k := by omega
      go_wp2_with fail
      go_ret
      exact ⟨rfl, HBW.out⟩

end Go.Proofs.YtobkgkiomapabaaGreatDoor
