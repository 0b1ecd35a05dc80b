/- FeedOrders: the walk. -/
import Derived.Test.YtikbckpphkpaiaaDoorOpenF
namespace Go.Proofs.YtikbckpphkpaiaaDoor
open Go.Shelf Go.RowKit Go.Maps
set_option linter.unusedVariables false

theorem head_size (s : ByteArray) : (headP s).size ≤ s.size := by
  have h : (Lib.cut s.data.toList [59]).1.length ≤ s.data.toList.length := by
    unfold Lib.cut
    split
    · show (List.take _ _).length ≤ _
      rw [List.length_take]; omega
    · exact Nat.le_refl _
  show (Lib.cut s.data.toList [59]).1.toArray.size ≤ _
  simpa using h
theorem rest_size (s : ByteArray) : (restP s).size ≤ s.size := by
  have h : (Lib.cut s.data.toList [59]).2.1.length ≤ s.data.toList.length := by
    unfold Lib.cut
    split
    · show (List.drop _ _).length ≤ _
      rw [List.length_drop]; omega
    · exact Nat.zero_le _
  show (Lib.cut s.data.toList [59]).2.1.toArray.size ≤ _
  simpa using h
def StSh (s : St) : Prop := s.item.maker.size ≤ 1000000 ∧ s.item.tags.size ≤ 1000000
theorem st0_sh (n : ByteArray) : StSh (st0 n) := ⟨by show 0 ≤ 1000000; omega, by show 0 ≤ 1000000; omega⟩
theorem step_sh {s : St} {e : Ev} (hs : StSh s) (he : e.text.size ≤ 1000000) : StSh (stepSt s e) := by
  unfold stepSt
  split
  · exact ⟨Nat.le_trans (head_size _) he, Nat.le_trans (rest_size _) he⟩
  · split
    · exact hs
    · exact hs
theorem fold_sh (l : List Ev) (hl : ∀ e ∈ l, e.text.size ≤ 1000000) : ∀ r : List St, (∀ s ∈ r, StSh s) → ∀ s ∈ l.foldl rowStep r, StSh s := by
  induction l with
  | nil => intro r hr; exact hr
  | cons e l ih =>
    intro r hr
    rw [List.foldl_cons]
    refine ih (fun x hx => hl x (List.mem_cons_of_mem _ hx)) _ (fun s hs => ?_)
    unfold rowStep at hs
    rcases List.mem_append.1 hs with hs | hs
    · exact hr s hs
    · obtain rfl : s = _ := by simpa using hs
      refine step_sh ?_ (hl e (by simp))
      cases h : r.getLast? with
      | none => exact st0_sh _
      | some y => exact hr y (List.mem_of_getLast? h)
theorem at_sh {es : List Ev} (hes : ∀ e ∈ es, EvSh e) {n : ByteArray} {t : Int} (hn : n.size ≤ 1000000) : ItSh ((atP es n t).getD it0) := by
  cases h : atP es n t with
  | none => exact ⟨by show 0 ≤ 1000000; omega, by show 0 ≤ 1000000; omega, by show 0 ≤ 1000000; omega⟩
  | some x =>
    have hnm := at_name h
    unfold atP at h
    obtain ⟨s, hs, rfl⟩ := Option.map_eq_some_iff.1 h
    have h1 : s ∈ rowOf es n := (List.takeWhile_sublist _).subset (List.mem_of_getLast? hs)
    have h2 := fold_sh _ (fun e he => (hes e (List.mem_filter.1 he).1).2.2.2) [] (fun s hs => by cases hs) s h1
    exact ⟨by show s.item.name.size ≤ 1000000; rw [hnm]; exact hn, h2.1, h2.2⟩
theorem EvSmall.sh3 {e : Ev} (h : EvSmall e) : EvSh e := by unfold EvSmall at h; unfold EvSh; omega
theorem its_sh {l : List Ro} (h : ∀ r ∈ l, RoFew r) : ∀ x ∈ itsOf l, ItSh x := by
  intro x hx
  unfold itsOf at hx
  obtain ⟨i, hi, rfl⟩ := List.mem_mapIdx.1 hx
  have := h _ (List.getElem_mem hi)
  unfold RoFew at this
  exact ⟨by show l[i].name.size ≤ 1000000; omega, by show l[i].maker.size ≤ 1000000; omega, by show l[i].tags.size ≤ 1000000; omega⟩
theorem ro_one (l : List Ro) : ∀ u ∈ l.flatMap roC, u.oneCell' = true := by
  intro u hu
  obtain ⟨r, _, hr⟩ := List.mem_flatMap.1 hu
  simp only [roC, List.mem_cons, List.not_mem_nil, or_false] at hr
  rcases hr with rfl | rfl | rfl | rfl | rfl <;> rfl
theorem ro_info : (Tryd.prog.info? 46).map (fun i => (i.zero, i.size, i.bytes)) = some (some (.agg #[.string ⟨#[]⟩, .string ⟨#[]⟩, .string ⟨#[]⟩, .int .i64 0, .int .i64 0]), 5, 64) := by kernel_rfl
theorem ro_drop (l : List Ro) (k : Nat) : (l.flatMap roC).drop (k * 5) = (l.drop k).flatMap roC := by
  induction k generalizing l with
  | zero => simp
  | succ k ih =>
    cases l with
    | nil => simp
    | cons a l =>
      rw [List.flatMap_cons, List.drop_succ_cons, ← ih l, show (k + 1) * 5 = 5 + k * 5 from by omega, ← List.drop_drop]
      rfl
theorem ro_take (l : List Ro) (k : Nat) : (l.flatMap roC).take (k * 5) = (l.take k).flatMap roC := by
  induction k generalizing l with
  | zero => simp
  | succ k ih =>
    cases l with
    | nil => simp
    | cons a l =>
      rw [List.flatMap_cons, List.take_succ_cons, List.flatMap_cons, ← ih l, show (k + 1) * 5 = 5 + k * 5 from by omega, List.take_append, roC_len, show 5 + k * 5 - 5 = k * 5 from by omega, List.take_of_length_le (by rw [roC_len]; omega)]

set_option maxHeartbeats 8000000 in
set_option maxRecDepth 100000 in
theorem feedOrders_walk (A : Option Addr) (n c : Nat) (l : List Ev) (t : Int) (A2 : Option Addr) (m c2 : Nat) (want : List Ro) (k0 : Int) (w : World) (ha : EvArg w A n c l) (hwt : (Lit.int .i64 t).wf = true) (hr : RoArg w A2 m c2 want) (hrw : ∀ y ∈ want, RoWf y) (hlc : m ≤ c2) (hwk : (Lit.int .i64 k0).wf = true) (hg : GlobAt w) :
    Calls Tryd.prog 5 #[.slice A n c, .int .i64 t, .slice A2 m c2, .int .i64 k0] w fun e w' => e = .returned (.bool true) ∧ Below w.heap.size w w' := by
  obtain ⟨hn, hl, hb, hnil, hbd⟩ := ha
  obtain ⟨hm, hr2, hmb, hnil2, hrbd⟩ := hr
  have HN := Lib.hid hn
  have HL := Lib.hid hl
  have HD := Lib.hid hbd
  have HM := Lib.hid hm
  have HR := Lib.hid hr2
  have HNIL2 := Lib.hid hnil2
  have HRD := Lib.hid hrbd
  have HG := Lib.hid hg
  have HLV := Lib.hid (lives_any w hg)
  clear hn hl hnil hbd hm hr2 hnil2 hrbd hg hrw hwt hwk
  go_enter Tryd.func5, Tryd.ntmps5
  go_wp2_with fail
  refine HLV.out.mono ?_
  rintro e w1 ⟨rfl, hb1⟩
  have HB1 := Lib.hid hb1
  clear hb1 HLV
  by_cases h40 : (40 : Int) < (n : Int)
  · go_wp2_with fail
    go_ret
    exact ⟨rfl, HB1.out⟩
  have d40 : decide ((40 : Int) < (n : Int)) = false := decide_eq_false h40
  have HSM := Lib.hid (some_any w1 w.heap.size A l n c HN.out (HL.out.below HB1.out) HB1.out.size hb HD.out)
  go_wp2_with fail
  refine HSM.out.mono ?_
  rintro e w2 ⟨b, rfl, hbs, hb2⟩
  have HB2 : Hid (Below w.heap.size w w2) := Lib.hid (HB1.out.trans (hb2.mono HB1.out.size))
  clear hb2 HSM
  cases b
  rotate_left
  · clear hbs
    go_wp2_with fail
    go_ret
    exact ⟨rfl, HB2.out⟩
  have HES := Lib.hid (hbs rfl)
  clear hbs
  have HFW := Lib.hid (few_any w2 w.heap.size A2 want m c2 HM.out (HR.out.below HB2.out) HB2.out.size hmb HRD.out)
  go_wp2_with fail
  refine HFW.out.mono ?_
  rintro e w3 ⟨b, rfl, hbf, q, rfl⟩
  have HB3 : Hid (Below w.heap.size w (w2.drewN q)) := Lib.hid (below_drewN HB2.out q)
  obtain ⟨w3, hw3⟩ : ∃ w3, w2.drewN q = w3 := ⟨_, rfl⟩
  rw [hw3] at HB3 ⊢
  clear HFW hw3
  cases b
  · clear hbf
    go_wp2_with fail
    go_ret
    exact ⟨rfl, HB3.out⟩
  obtain ⟨hm31, hfew⟩ := hbf rfl
  have HFEW := Lib.hid hfew
  clear hbf hfew
  by_cases hk0 : k0 < 0
  · go_wp2_with fail
    go_ret
    exact ⟨rfl, HB3.out⟩
  obtain ⟨k, rfl⟩ : ∃ k : Nat, k0 = (k : Int) := ⟨k0.toNat, by omega⟩
  have dk0 : decide ((k : Int) < 0) = false := decide_eq_false hk0
  by_cases hkm : (m : Int) < (k : Int)
  · go_wp2_with fail
    go_ret
    exact ⟨rfl, HB3.out⟩
  have dkm : decide ((m : Int) < (k : Int)) = false := decide_eq_false hkm
  have HMD := Lib.hid (made_any w3 w.heap.size A l n c HN.out (HL.out.below HB3.out) HB3.out.size (by omega) (fun e he => (HES.out e he).sh3) (HG.out.keep HB3.out (Nat.le_refl _)))
  go_wp2_with fail
  refine HMD.out.mono ?_
  rintro e w4 ⟨hmd, hb4⟩
  have HB4 : Hid (Below w.heap.size w w4) := Lib.hid (HB3.out.trans (hb4.mono HB3.out.size))
  clear hb4 HMD
  rcases hmd with ⟨_, rfl⟩ | ⟨_, cb, F, rfl, hcat, hF⟩
  · go_wp2_with fail
    go_ret
    exact ⟨rfl, HB4.out⟩
  have HC4 := Lib.hid hcat
  clear hcat hF
  go_wp2_with fail
  have HS0 : Hid (Below w.heap.size w w4.drew) := Lib.hid (below_drew HB4.out)
  have HC5 : Hid (CatAt w4.drew cb F l) := Lib.hid (HC4.out.below ⟨rfl, rfl, rfl, Nat.le_refl _, fun _ _ => rfl⟩)
  obtain ⟨wd, hwd⟩ : ∃ wd, w4.drew = wd := ⟨_, rfl⟩
  have hk9 : (0 : Int) ≤ (k : Int) := by omega
  have hk7 : (k : Int) ≤ (m : Int) := by omega
  have hk6 : (k : Int) ≤ (c2 : Int) := by omega
  have hk5 : (m : Int) ≤ (c2 : Int) := by omega
  refine wp_plan (fun W => Below w.heap.size w W) [(1, false), (2, false), (3, false), (5, false), (6, false), (7, false), (0, true), (4, true), (8, true), (9, false)] (by kernel_rfl) (by kernel_rfl) HS0.out ?_
  rw [hwd] at HS0 HC5 ⊢
  clear hwd HC4 HB4
  simp only [planL, List.getElem?_cons_zero, List.getElem?_cons_succ]
  obtain ⟨A3, hA3⟩ : ∃ A3, (if c2 = k then A2 else A2.map (·.add (k * 5))) = A3 := ⟨_, rfl⟩
  have HA3 := Lib.hid hA3
  iterate 2 (refine plan_on _ (by rfl) (fun W hW => by (go_simp; try with_reducible rfl)) ?_; simp only [Act.put, List.setIfInBounds_toArray, List.set_cons_zero, List.set_cons_succ])
  refine plan_on (.slice A3 (m - k) (c2 - k)) (by rfl) (fun W hW => by
    rw [← HA3.out]
    go_simp) ?_
  simp only [Act.put, List.setIfInBounds_toArray, List.set_cons_zero, List.set_cons_succ]
  repeat (first | (refine plan_on _ (by rfl) (fun W hW => by (go_simp; try with_reducible rfl)) ?_; simp only [Act.put, List.setIfInBounds_toArray, List.set_cons_zero, List.set_cons_succ]) | (refine plan_off (by rfl) ?_; simp only [Act.put, List.setIfInBounds_toArray, List.set_cons_zero, List.set_cons_succ]))
  clear hA3
  refine plan_turn ?_
  go_wp2_with fail
  have HOE := Lib.hid (own_empty wd 46 5)
  have hzd : w.heap.size ≤ wd.heap.size := HS0.out.size
  obtain ⟨wa, hwa⟩ : ∃ wa, wd.alloc (.cells #[] 46) = wa := ⟨_, rfl⟩
  have HBA : Hid (Below w.heap.size w wa) := Lib.hid (by rw [← hwa]; exact HS0.out.alloc hzd _)
  have HBD : Hid (Below wd.heap.size wd wa) := Lib.hid (by rw [← hwa]; exact (Below.refl _ _).alloc (Nat.le_refl _) _)
  have hza : wd.heap.size ≤ wa.heap.size := HBD.out.size
  rw [hwa] at HOE ⊢
  obtain ⟨i0, hi0, hz0, hz1, hz2⟩ := info_parts ro_info
  have HRA : Hid (RowIn wa w.heap.size 5 A2 m (want.flatMap roC)) := Lib.hid (HR.out.below HBA.out)
  have HRC : Hid (RowIn wa w.heap.size 5 A3 (m - k) ((want.drop k).flatMap roC)) := Lib.hid (by rw [← HA3.out]; have := HRA.out.cut (k := k) (by omega) hlc; rw [ro_drop] at this; exact this)
  have HNI2 : Hid (A3 = none → c2 - k = 0) := Lib.hid (fun h => by
    rw [← HA3.out] at h
    split at h
    · omega
    · have : A2 = none := by simpa using h
      have := HNIL2.out this
      omega)
  refine ⟨HBA.out, ?_⟩
  refine plan_turn ?_
  have HON1 := Lib.hid (ro_one (want.drop k))
  have HON2 := Lib.hid (ro_one (want.take k))
  go_wp2_with (first
    | (at_builtin; refine wpList_append_row _ rfl _ _ 23 rfl wd.heap.size 46 i0 _ 5 64 Tryd.underlying23 hi0 hz0 hz1 hz2 rfl (by omega) (.slice (some ⟨wd.heap.size, 0, none⟩) 0 0) 0 [] rfl HOE.out w.heap.size A3 (m - k) (c2 - k) _ rfl HRC.out HNI2.out HON1.out (by unfold maxLen; omega) (by omega) hza ?_; intro v8 w8 ho8 hg8 hv8))
  obtain ⟨A8, c8, hv⟩ := own_shape ho8
  subst hv
  have HB8 : Hid (Below wd.heap.size wd w8) := Lib.hid (HBD.out.grown hg8 hza (fun j hj => (HOE.out.lt _ hj).1))
  have HO8 := Lib.hid ho8
  have HBW8 : Hid (Below w.heap.size w w8) := Lib.hid (HS0.out.trans (HB8.out.mono hzd))
  have HRF : Hid (RowIn w8 w.heap.size 5 A2 k ((want.take k).flatMap roC)) := Lib.hid (by have := (HR.out.below HBW8.out).front (k := k) (by omega); rw [ro_take] at this; exact this)
  have hz8 : wd.heap.size ≤ w8.heap.size := HB8.out.size
  refine ⟨HBW8.out, ?_⟩
  refine plan_turn ?_
  clear ho8 hg8 hv8 HBA hwa
  go_wp2_with (first
    | (at_builtin; refine wpList_append_row _ rfl _ _ 23 rfl wd.heap.size 46 i0 _ 5 64 Tryd.underlying23 hi0 hz0 hz1 hz2 rfl (by omega) (.slice A8 (0 + (m - k)) c8) (0 + (m - k)) _ rfl HO8.out w.heap.size A2 k c2 _ rfl HRF.out HNIL2.out HON2.out (by unfold maxLen; omega) (by omega) hz8 ?_; intro v9 w9 ho9 hg9 hv9))
  obtain ⟨A9, c9, hv⟩ := own_shape ho9
  subst hv
  have HB9 : Hid (Below wd.heap.size wd w9) := Lib.hid (HB8.out.grown hg9 hz8 (fun j hj => (HO8.out.lt _ hj).1))
  have HBW9 : Hid (Below w.heap.size w w9) := Lib.hid (HS0.out.trans (HB9.out.mono hzd))
  obtain ⟨oth, hoth⟩ : ∃ oth, want.drop k ++ want.take k = oth := ⟨_, rfl⟩
  have HPM : Hid (want.Perm oth) := Lib.hid (by
    rw [← hoth]
    have := List.perm_append_comm (l₁ := want.take k) (l₂ := want.drop k)
    rwa [List.take_append_drop] at this)
  have hlen : 0 + (m - k) + k = m := by omega
  have HR9 : Hid (RowIn w9 w9.heap.size 5 A9 m (oth.flatMap roC)) := Lib.hid (by
    have := RowIn.of_own ho9
    rw [hlen, List.nil_append, ← List.flatMap_append, hoth] at this
    exact this)
  rw [hlen]
  have HNO : Hid (oth.length = m) := Lib.hid (by rw [← HPM.out.length_eq]; exact HM.out)
  have HC9 : Hid (CatAt w9 cb F l) := Lib.hid (HC5.out.below HB9.out)
  refine ⟨HBW9.out, ?_⟩
  clear ho9 hg9 hv9 HO8 HB8 HBW8 HRF HB9 HOE HRA HRC HNI2 HON1 HON2 HBD HC5 HS0 hoth hi0
  repeat (first | (refine plan_on _ (by rfl) (fun W hW => by (go_simp; try with_reducible rfl)) ?_; simp only [Act.put, List.setIfInBounds_toArray, List.set_cons_zero, List.set_cons_succ]) | (refine plan_off (by rfl) ?_; simp only [Act.put, List.setIfInBounds_toArray, List.set_cons_zero, List.set_cons_succ]))
  refine plan_done ?_
  have HI1 := Lib.hid (items_any w9 w.heap.size A2 want m c2 HM.out (HR.out.below HBW9.out) HBW9.out.size (by omega))
  go_wp2_with fail
  refine HI1.out.mono ?_
  rintro e wa ⟨Aa, ca, rfl, hra, _, hba⟩
  have HBa : Hid (Below w.heap.size w wa) := Lib.hid (HBW9.out.trans (hba.mono HBW9.out.size))
  have HCa : Hid (CatAt wa cb F l) := Lib.hid (HC9.out.below hba)
  have HR9a : Hid (RowIn wa wa.heap.size 5 A9 m (oth.flatMap roC)) := Lib.hid ((HR9.out.below hba).more hba.size)
  have HD1 := Lib.hid (diff_any wa cb F l t ⟨#[115]⟩ 1 wa.heap.size Aa (itsOf want) m ca HCa.out (by rw [HN.out]; omega) (by decide) (by rw [its_len]; exact HM.out) hra (Nat.le_refl _) (by omega) (its_sh HFEW.out) (HG.out.keep HBa.out (Nat.le_refl _)))
  clear hra hba HI1 HC9 HR9
  go_wp2_with fail
  refine HD1.out.mono ?_
  rintro e wb ⟨Ab, cc, o1, rfl, hd1, ho1, hev1, _, hbb⟩
  have HBb : Hid (Below w.heap.size w wb) := Lib.hid (HBa.out.trans (hbb.mono HBa.out.size))
  have HCb : Hid (CatAt wb cb F l) := Lib.hid (HCa.out.below hbb)
  have HR9b : Hid (RowIn wb wb.heap.size 5 A9 m (oth.flatMap roC)) := Lib.hid ((HR9a.out.below hbb).more hbb.size)
  have HE1 := Lib.hid hev1
  rw [its_rows] at hd1
  have HDD1 := Lib.hid hd1
  have HI2 := Lib.hid (items_any wb wb.heap.size A9 oth m c9 HNO.out HR9b.out (Nat.le_refl _) (by omega))
  clear hd1 hev1 hbb HD1 HCa HR9a
  go_wp2_with fail
  refine HI2.out.mono ?_
  rintro e wc ⟨Ac, cd, rfl, hrc, _, hbc⟩
  have HBc : Hid (Below w.heap.size w wc) := Lib.hid (HBb.out.trans (hbc.mono HBb.out.size))
  have HCc : Hid (CatAt wc cb F l) := Lib.hid (HCb.out.below hbc)
  have HE1c : Hid (EvsAt wc wc.heap.size Ab o1) := Lib.hid ((HE1.out.below hbc).more hbc.size)
  have HD2 := Lib.hid (diff_any wc cb F l t ⟨#[115]⟩ 1 wc.heap.size Ac (itsOf oth) m cd HCc.out (by rw [HN.out]; omega) (by decide) (by rw [its_len]; exact HNO.out) hrc (Nat.le_refl _) (by omega) (its_sh (fun x hx => HFEW.out x (HPM.out.mem_iff.2 hx))) (HG.out.keep HBc.out (Nat.le_refl _)))
  clear hrc hbc HI2 HCb HR9b HE1
  go_wp2_with fail
  refine HD2.out.mono ?_
  rintro e wf ⟨Af, cf, o2, rfl, hd2, ho2, hev2, _, hbf⟩
  rw [its_rows] at hd2
  obtain rfl := diff_perm HPM.out HDD1.out hd2
  have HBf : Hid (Below w.heap.size w wf) := Lib.hid (HBc.out.trans (hbf.mono HBc.out.size))
  have HCf : Hid (CatAt wf cb F l) := Lib.hid (HCc.out.below hbf)
  have HSA := Lib.hid (same_any wf wf.heap.size Ab Af o1 o1.length cc cf rfl ((HE1c.out.below hbf).more hbf.size) hev2 (Nat.le_refl _) (by omega))
  clear hd2 hev2 hbf HD2 HCc HE1c HDD1 ho1 ho2
  go_wp2_with fail
  refine HSA.out.mono ?_
  rintro e wg ⟨rfl, hbg⟩
  have HBg : Hid (Below w.heap.size w wg) := Lib.hid (HBf.out.trans (hbg.mono HBf.out.size))
  have HCg : Hid (CatAt wg cb F l) := Lib.hid (HCf.out.below hbg)
  have HNA := Lib.hid (names_any cb F l t wg HCg.out (by rw [HN.out]; omega))
  clear hbg HSA HCf HBf
  go_wp2_with fail
  refine HNA.out.mono ?_
  rintro e wh ⟨Ah, ch, ks, rfl, hks, hkl, _, hrh, hbh⟩
  have HBh : Hid (Below w.heap.size w wh) := Lib.hid (HBg.out.trans (hbh.mono HBg.out.size))
  have HCh : Hid (CatAt wh cb F l) := Lib.hid (HCg.out.below hbh)
  have HKS := Lib.hid hks
  have HRH := Lib.hid hrh
  obtain ⟨N, hNN⟩ : ∃ N, ks.length = N := ⟨_, rfl⟩
  rw [hNN] at hkl HRH ⊢
  have HNN := Lib.hid hNN
  have hN40 : N ≤ 40 := by have := HN.out; omega
  clear hks hrh hbh HNA HCg hNN hkl
  go_wp2_with fail
  obtain ⟨j0, hj0, hy0, hy1, hy2⟩ := info_parts it_info
  obtain ⟨isL, hisL⟩ : ∃ isL : List ByteArray → List It, isL = fun ks => ks.map fun y => (atP l y t).getD it0 := ⟨_, rfl⟩
  have HIL := Lib.hid hisL
  clear hisL
  obtain ⟨bs, hbs⟩ : ∃ bs, wh.heap.size = bs := ⟨_, rfl⟩
  have HBS := Lib.hid hbs
  have HZ0 : Hid (w.heap.size ≤ bs) := Lib.hid (by rw [← hbs]; exact HBh.out.size)
  clear hbs
  go_loopw [13, 15] (fun s i wr => ∃ (k5 : Nat) (A5 : Option Addr) (c5 : Nat), k5 ≤ N ∧ i = .int .i64 k5 ∧ s = .slice A5 k5 c5 ∧ Hid (wr.ownsRow bs 42 7 (.slice A5 k5 c5) k5 ((isL (ks.take k5)).flatMap itC)) ∧ Hid (Below bs wh wr)) (fun _ i _ => N - (intOf i).toNat)
  case atStart => exact ⟨0, none, 0, Nat.zero_le _, rfl, rfl, Lib.hid (by rw [HIL.out]; exact own_nil _ _ _ _), Lib.hid (Below.refl _ _)⟩
  case round =>
    obtain ⟨k5, A5, c5, hk5, rfl, rfl, hrow, hbw⟩ := hrel
    have hwz : bs ≤ wr.heap.size := by have := hbw.out.size; have := HBS.out; omega
    have HBW : Hid (Below w.heap.size w wr) := Lib.hid (HBh.out.trans (hbw.out.mono HZ0.out))
    have HCW : Hid (CatAt wr cb F l) := Lib.hid (HCh.out.below (by rw [HBS.out]; exact hbw.out))
    by_cases hlt : k5 < N
    · obtain ⟨nm, hnm⟩ : ∃ nm, ks[k5]? = some nm := ⟨ks[k5]'(by rw [HNN.out]; exact hlt), List.getElem?_eq_getElem _⟩
      obtain ⟨g, o, hA, hgB, hcl⟩ := HRH.out.at (by omega)
      have e0 : wr.cell? ⟨g, o + k5, none⟩ = some (.string nm) := (hbw.out.cell (p := ⟨g, o + k5, none⟩) (by rw [← HBS.out]; exact hgB)).trans (hcl k5 _ (by simp [hnm]))
      have hns : nm.size ≤ 1000000 := by
        have h1 := (HKS.out.2 nm).1 (List.mem_of_getElem? hnm)
        obtain ⟨e, he, rfl⟩ := List.mem_map.1 (wh_item h1)
        exact (HES.out e he).sh3.2.2.1
      have HTK : Hid (isL (ks.take (k5 + 1)) = isL (ks.take k5) ++ [(atP l nm t).getD it0]) := Lib.hid (by rw [HIL.out, take_snoc hnm]; show List.map _ _ = List.map _ _ ++ _; rw [List.map_append]; rfl)
      obtain ⟨x, hx⟩ : ∃ x, (atP l nm t).getD it0 = x := ⟨_, rfl⟩
      obtain ⟨bx, hbx⟩ : ∃ bx, (atP l nm t).isSome = bx := ⟨_, rfl⟩
      rw [hx] at HTK
      have HAT : Hid (Calls Tryd.prog 18 #[.pointer (some ⟨cb, 0, none⟩), .string nm, .int .i64 t] wr fun e w' => e = .returned (.tuple #[.agg #[.string x.name, .string x.maker, .string x.tags, .int .i64 x.stock, .int .i64 x.price, .int .i64 x.born, .bool x.listed], .bool bx]) ∧ Below wr.heap.size wr w') := Lib.hid (by
        have h := at_any cb F l nm t wr HCW.out hns (by rw [HN.out]; omega)
        unfold toldP itA at h
        rw [hx, hbx] at h
        exact h)
      have hk8 : (k5 : Int) < (N : Int) := by omega
      have hk9 : (0 : Int) ≤ (k5 : Int) := by omega
      subst hA
      clear hcl hnm hx hbx
      go_wp2_with fail
      refine HAT.out.mono ?_
      rintro e w6 ⟨rfl, hb6⟩
      have HB6 : Hid (Below bs wh w6) := Lib.hid (hbw.out.trans (hb6.mono hwz))
      have HO6 : Hid (w6.ownsRow bs 42 7 (.slice A5 k5 c5) k5 ((isL (ks.take k5)).flatMap itC)) := Lib.hid (owns_kept hrow.out (below_kept (S := fun _ => False) hb6 (Nat.le_refl _)) (fun _ _ h => h))
      have hz6 : bs ≤ w6.heap.size := Nat.le_trans hwz hb6.size
      have HR1 : Hid (RowIn ((w6.alloc (.cells #[.string x.name, .string x.maker, .string x.tags, .int .i64 x.stock, .int .i64 x.price, .int .i64 x.born, .bool x.listed] 42)).alloc (.cells #[.string x.name, .string x.maker, .string x.tags, .int .i64 x.stock, .int .i64 x.price, .int .i64 x.born, .bool x.listed] 42)) (w6.heap.size + 2) 7 (some ⟨w6.heap.size + 1, 0, none⟩) 1 (itC x)) := Lib.hid (by
        have := it1_row (w6.alloc (.cells #[.string x.name, .string x.maker, .string x.tags, .int .i64 x.stock, .int .i64 x.price, .int .i64 x.born, .bool x.listed] 42)) x 42
        rw [show (w6.alloc (.cells #[.string x.name, .string x.maker, .string x.tags, .int .i64 x.stock, .int .i64 x.price, .int .i64 x.born, .bool x.listed] 42)).heap.size = w6.heap.size + 1 from by simp] at this
        exact this)
      have HO1 := Lib.hid (it_one x)
      clear hb6 HAT
      go_wp2_with (first
        | (at_builtin; refine wpList_append_row _ rfl _ _ 31 rfl bs 42 j0 _ 7 80 Tryd.underlying31 hj0 hy0 hy1 hy2 rfl (by omega) (.slice A5 k5 c5) k5 _ rfl ((HO6.out.alloc _).alloc _) (w6.heap.size + 2) (some ⟨w6.heap.size + 1, 0, none⟩) 1 1 _ rfl HR1.out (fun h => by cases h) HO1.out (by unfold maxLen; omega) (by omega) (by simp; omega) ?_; intro v8 w8 ho8 hg8 hv8))
      obtain ⟨A8, c8, hv⟩ := own_shape ho8
      subst hv
      go_roundw
      case rel =>
        refine ⟨k5 + 1, A8, c8, by omega, by go_num, rfl, Lib.hid ?_, Lib.hid (((HB6.out.alloc hz6 _).alloc (by simp; omega) _).grown hg8 (by simp; omega) (fun j hj => (HO6.out.lt _ hj).1))⟩
        rw [HTK.out, List.flatMap_append, List.flatMap_cons, List.flatMap_nil, List.append_nil]
        exact ho8
      case measure => simp [intOf]; omega
    · obtain rfl : N = k5 := by omega
      have HROW : Hid (RowIn wr wr.heap.size 7 A5 N ((isL ks).flatMap itC)) := Lib.hid (by
        have := RowIn.of_own hrow.out
        rwa [← HNN.out, List.take_length, HNN.out] at this)
      have HIS : Hid (isL ks = ks.map fun y => (atP l y t).getD it0) := Lib.hid (by rw [HIL.out])
      have HDL := Lib.hid (diff_any wr cb F l t ⟨#[115]⟩ 1 wr.heap.size A5 (isL ks) N c5 HCW.out (by rw [HN.out]; omega) (by decide) (by rw [HIS.out, List.length_map]; exact HNN.out) HROW.out (Nat.le_refl _) (by omega) (fun y hy => by
        rw [HIS.out] at hy
        obtain ⟨z, hz, rfl⟩ := List.mem_map.1 hy
        refine at_sh (fun e he => (HES.out e he).sh3) ?_
        obtain ⟨e, he, rfl⟩ := List.mem_map.1 (wh_item ((HKS.out.2 z).1 hz))
        exact (HES.out e he).sh3.2.2.1) (HG.out.keep HBW.out (Nat.le_refl _)))
      go_wp2_with fail
      refine HDL.out.mono ?_
      rintro e wz ⟨Az, cz, oz, rfl, hdz, _, _, _, hbz⟩
      rw [HIS.out] at hdz
      obtain rfl := diff_same HKS.out hdz
      have HBZ : Hid (Below w.heap.size w wz) := Lib.hid (HBW.out.trans (hbz.mono HBW.out.size))
      clear hbz hdz HDL
      go_wp2_with fail
      go_ret
      exact ⟨rfl, HBZ.out⟩

end Go.Proofs.YtikbckpphkpaiaaDoor
