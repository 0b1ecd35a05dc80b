/- CatalogStays: the plain law and the walk. -/
import Derived.Test.YtpnfnmpohacnoaaDoorLawAwake
namespace Go.Proofs.YtpnfnmpohacnoaaDoor
open Go.Shelf Go.RowKit Go.Maps
set_option linter.unusedVariables false

/-- The same thing? -/
def itB (x y : It) : Bool := decide (x.name = y.name) && (decide (x.maker = y.maker) && (decide (x.tags = y.tags) && (decide (x.stock = y.stock) && (decide (x.price = y.price) && (decide (x.born = y.born) && decide (x.listed = y.listed))))))
theorem itB_iff (x y : It) : itB x y = true ↔ x = y := by
  obtain ⟨a1, a2, a3, a4, a5, a6, a7⟩ := x
  obtain ⟨b1, b2, b3, b4, b5, b6, b7⟩ := y
  simp [itB]
theorem itB_rfl (x : It) : itB x x = true := (itB_iff x x).2 rfl
theorem beq_list (a b : ByteArray) : (a.toList == b.toList) = true ↔ a = b := by
  rw [beq_iff_eq, Lib.toList_data, Lib.toList_data]
  constructor
  · intro h
    cases a
    cases b
    congr 1
    exact Array.toList_inj.1 h
  · rintro rfl; rfl
theorem str_eqB (x y : ByteArray) : (x.toList == y.toList) = decide (x = y) := by
  by_cases h : x = y
  · subst h; simp
  · rw [Bool.eq_false_iff.2 (fun e => h ((beq_list x y).1 e))]; simp [h]
@[go_sem high] theorem eq_it (a1 a2 a3 : ByteArray) (a4 a5 a6 : Int) (a7 : Bool) (b1 b2 b3 : ByteArray) (b4 b5 b6 : Int) (b7 : Bool) (w : World) :
    (Op.equalIn 10000 30 (.agg #[.string a1, .string a2, .string a3, .int .i64 a4, .int .i64 a5, .int .i64 a6, .bool a7]) (.agg #[.string b1, .string b2, .string b3, .int .i64 b4, .int .i64 b5, .int .i64 b6, .bool b7])).run Tryd.prog w = .ok (itB ⟨a1, a2, a3, a4, a5, a6, a7⟩ ⟨b1, b2, b3, b4, b5, b6, b7⟩) w := by
  by_cases h1 : a1 = b1
  rotate_left
  · simp [go_sem, str_eqB, itB, h1]
  by_cases h2 : a2 = b2
  rotate_left
  · simp [go_sem, str_eqB, itB, h1, h2]
  by_cases h3 : a3 = b3
  rotate_left
  · simp [go_sem, str_eqB, itB, h1, h2, h3]
  by_cases h4 : a4 = b4
  rotate_left
  · simp [go_sem, itB, h1, h2, h3, h4]
  by_cases h5 : a5 = b5
  rotate_left
  · simp [go_sem, itB, h1, h2, h3, h4, h5]
  by_cases h6 : a6 = b6
  rotate_left
  · simp [go_sem, itB, h1, h2, h3, h4, h5, h6]
  by_cases h7 : a7 = b7
  rotate_left
  · simp [go_sem, itB, h1, h2, h3, h4, h5, h6, h7]
  simp [go_sem, itB, h1, h2, h3, h4, h5, h6, h7]

theorem upto_some (r : List St) (t : Int) : (uptoP r t).getLast?.isSome = true ↔ ∃ s, r.head? = some s ∧ s.tick ≤ t := by
  cases r with
  | nil => simp [uptoP]
  | cons s r =>
    simp only [uptoP, List.head?_cons, Option.some.injEq, exists_eq_left']
    by_cases h : s.tick ≤ t
    · rw [List.takeWhile_cons_of_pos (by simpa using h)]
      simp [h]
    · rw [List.takeWhile_cons_of_neg (by simpa using h)]
      simp [h]
theorem upto_same {r : List St} {a b : Int} (hab : a ≤ b) (h : ∀ s ∈ r, ¬ (a < s.tick ∧ s.tick ≤ b)) : uptoP r a = uptoP r b := by
  induction r with
  | nil => rfl
  | cons s r ih =>
    have ih := ih (fun x hx => h x (List.mem_cons_of_mem _ hx))
    have h0 := h s (by simp)
    simp only [uptoP] at ih ⊢
    by_cases h1 : s.tick ≤ a
    · rw [List.takeWhile_cons_of_pos (by simpa using h1), List.takeWhile_cons_of_pos (by simp; omega), ih]
    · rw [List.takeWhile_cons_of_neg (by simpa using h1), List.takeWhile_cons_of_neg (by simp; omega)]
theorem at_told (es : List Ev) (n : ByteArray) (t : Int) : (atP es n t).isSome = true ↔ ∃ z, (chgP es n)[0]? = some z ∧ z ≤ t := by
  unfold atP chgP
  rw [Option.isSome_map, upto_some, ← List.head?_eq_getElem?, chgL_head, List.head?_map]
  constructor
  · rintro ⟨s, h1, h2⟩; exact ⟨s.tick, by rw [h1]; rfl, h2⟩
  · rintro ⟨z, h1, h2⟩
    obtain ⟨s, h3, h4⟩ := Option.map_eq_some_iff.1 h1
    exact ⟨s, h3, by rw [h4]; exact h2⟩
theorem at_same {es : List Ev} {n : ByteArray} {a b : Int} (hab : a ≤ b) (h : ∀ z ∈ chgP es n, ¬ (a < z ∧ z ≤ b)) : atP es n a = atP es n b := by
  unfold atP
  rw [upto_same hab]
  intro s hs
  exact h s.tick (by unfold chgP; rw [chgL_mem]; exact List.mem_map.2 ⟨s, hs, rfl⟩)
theorem chg_rise {es : List Ev} (h : Rising es) (n : ByteArray) : (chgP es n).Pairwise (· < ·) := chgL_rise (List.pairwise_map.2 (h.row n))
theorem chg_len (es : List Ev) (n : ByteArray) : (chgP es n).length ≤ es.length := by
  have h1 := chgL_len ((rowOf es n).map (·.tick))
  have h2 := rowOf_le es n
  rw [List.length_map] at h1
  unfold chgP
  omega

/-- A list of events that was handed in. -/
def EvArg (w : World) (A : Option Addr) (n c : Nat) (l : List Ev) : Prop := l.length = n ∧ EvsAt w w.heap.size A l ∧ n ≤ 140737488355328 ∧ (A = none → c = 0) ∧ ∀ e ∈ l, EvBd e

set_option maxHeartbeats 4000000 in
set_option maxRecDepth 100000 in
theorem catalogStays_walk (A : Option Addr) (n c : Nat) (l : List Ev) (nm : ByteArray) (a b : Int) (w : World) (ha : EvArg w A n c l) (hnm : nm.size ≤ 140737488355328) (hg : GlobAt w) :
    Calls Tryd.prog 3 #[.slice A n c, .string nm, .int .i64 a, .int .i64 b] w fun e w' => e = .returned (.bool true) ∧ Below w.heap.size w w' := by
  obtain ⟨hn, hl, hnb, hnil, hbd⟩ := ha
  have HW := Lib.hid (awake_any w hg)
  have HN := Lib.hid hn
  have HL := Lib.hid hl
  have HD := Lib.hid hbd
  have HG := Lib.hid hg
  clear hn hl hbd hg
  go_enter Tryd.func3, Tryd.ntmps3
  go_wp2_with fail
  refine HW.out.mono ?_
  rintro e w1 ⟨rfl, hb1⟩
  have HL1 : Hid (EvsAt w1 w.heap.size A l) := Lib.hid (HL.out.below hb1)
  have HFW := Lib.hid (few_any w1 w.heap.size A l n c HN.out HL1.out hb1.size hnb HD.out)
  have HB1 := Lib.hid hb1
  clear HW hb1
  go_wp2_with fail
  refine HFW.out.mono ?_
  rintro e w2 ⟨bf, rfl, hbf, q, hw2⟩
  have HB2 : Hid (Below w.heap.size w w2) := Lib.hid (by rw [hw2]; exact below_drewN HB1.out _)
  clear HFW hw2 HB1 HL1
  cases bf
  · go_wp2_with fail
    go_ret
    exact ⟨rfl, HB2.out⟩
  obtain ⟨h61, hfew⟩ := hbf rfl
  have HFEW := Lib.hid hfew
  clear hbf hfew
  by_cases h300 : (300 : Int) < (nm.size : Int)
  · go_wp2_with fail
    go_ret
    exact ⟨rfl, HB2.out⟩
  by_cases hab : b < a
  · go_wp2_with fail
    go_ret
    exact ⟨rfl, HB2.out⟩
  have HL2 : Hid (EvsAt w2 w.heap.size A l) := Lib.hid (HL.out.below HB2.out)
  have HMD := Lib.hid (made_any w2 w.heap.size A l n c HN.out HL2.out HB2.out.size (by omega) (fun e he => (HFEW.out e he).sh) (HG.out.keep HB2.out (Nat.le_refl _)))
  go_wp2_with fail
  refine HMD.out.mono ?_
  rintro e w3 ⟨hres, hb3⟩
  have HB3 : Hid (Below w.heap.size w w3) := Lib.hid (HB2.out.trans (hb3.mono HB2.out.size))
  clear HMD hb3 HL2 HB2
  rcases hres with ⟨_, rfl⟩ | ⟨_, cb, F, rfl, hcat, hF⟩
  · go_wp2_with fail
    go_ret
    exact ⟨rfl, HB3.out⟩
  have HC3 := Lib.hid hcat
  have hlen : l.length ≤ 1000000 := by rw [HN.out]; omega
  have HCH := Lib.hid (changes_any cb F l nm w3 hcat (by omega) hlen)
  have HRS := Lib.hid (chg_rise hcat.rise nm)
  have HTA := Lib.hid (at_told l nm a)
  have HTB := Lib.hid (at_told l nm b)
  have HSM : Hid ((∀ z ∈ chgP l nm, ¬ (a < z ∧ z ≤ b)) → atP l nm a = atP l nm b) := Lib.hid (fun h => at_same (by omega) h)
  have hcl := chg_len l nm
  have HLE := Lib.hid hlen
  clear hcat hF hlen
  go_wp2_with fail
  refine HCH.out.mono ?_
  rintro e w4 ⟨A4, c4, rfl, hrow, hb4⟩
  have HB4 : Hid (Below w.heap.size w w4) := Lib.hid (HB3.out.trans (hb4.mono HB3.out.size))
  have HC4 : Hid (CatAt w4 cb F l) := Lib.hid (HC3.out.below hb4)
  have HAA := Lib.hid (at_any cb F l nm a w4 HC4.out (by omega) HLE.out)
  unfold toldP at HAA
  have HRW := Lib.hid hrow
  generalize chgP l nm = T at *
  obtain ⟨K, hK⟩ : ∃ K, T.length = K := ⟨_, rfl⟩
  have HK := Lib.hid hK
  rw [hK] at hcl ⊢
  have hK1 : K ≤ 61 := by rw [HN.out] at hcl; omega
  clear hrow hb4 HCH HC3 HB3 hK hcl
  have HAT : Hid (∀ (k : Nat), k < K → ∃ g o z, A4 = some ⟨g, o, none⟩ ∧ g < w4.heap.size ∧ T[k]? = some z ∧ w4.cell? ⟨g, o + k, none⟩ = some (.int .i64 z)) := Lib.hid (fun k hk => by
    obtain ⟨g, o, h1, h2, h3⟩ := HRW.out.at (by rw [HK.out]; omega)
    exact ⟨g, o, T[k]'(by rw [HK.out]; exact hk), h1, h2, List.getElem?_eq_getElem _, h3 k _ (by simp [HK.out, hk])⟩)
  go_wp2_with fail
  go_loopw [11, 12] (fun bt i wr => ∃ k m q : Nat, k ≤ K ∧ m ≤ k ∧ i = .int .i64 k ∧ bt = .int .i64 m ∧ Hid (m = 0 → ∀ j z, j < k → T[j]? = some z → ¬ (a < z ∧ z ≤ b)) ∧ wr = w4.drewN q) (fun _ i _ => K - (intOf i).toNat)
  case atStart => exact ⟨0, 0, 0, Nat.zero_le _, Nat.le_refl _, rfl, rfl, Lib.hid (fun _ j z hj => by omega), rfl⟩
  case round =>
    obtain ⟨k, m, q, hk, hm, rfl, rfl, hno, rfl⟩ := hrel
    by_cases hlt : k < K
    · obtain ⟨g, o, z, rfl, hgl, hz, e0⟩ := HAT.out k hlt
      have HZ := Lib.hid hz
      have hk8 : (k : Int) < (K : Int) := by omega
      have hk9 : (0 : Int) ≤ (k : Int) := by omega
      clear hz
      have HNX : Hid (∀ m' : Nat, (m' = 0 → m = 0 ∧ ¬ (a < z ∧ z ≤ b)) → (m' = 0 → ∀ j y, j < k + 1 → T[j]? = some y → ¬ (a < y ∧ y ≤ b))) := Lib.hid (fun m' h1 h2 j y hj hy => by
        by_cases e : j = k
        · subst e
          rw [HZ.out] at hy
          cases hy
          exact (h1 h2).2
        · exact hno.out (h1 h2).1 j y (by omega) hy)
      by_cases hk0 : k = 0
      · subst hk0
        rw [Nat.add_zero] at e0
        go_wp2_with fail
        go_quiet (fail)
        (go_wp2_with fail) <;>
          (go_roundw
           case rel => first
            | exact ⟨1, m, q + nq, by omega, by omega, by go_num, rfl, Lib.hid (HNX.out m (fun h => ⟨h, by omega⟩)), by first | rfl | simp⟩
            | exact ⟨1, m + 1, q + nq, by omega, by omega, by go_num, by go_num, Lib.hid (HNX.out (m + 1) (fun h => by omega)), by first | rfl | simp⟩
           case measure => simp [intOf]; omega)
      · obtain ⟨g', o', z', hA', _, hz', e1⟩ := HAT.out (k - 1) (by omega)
        injection hA' with hA'
        injection hA' with hg' ho'
        subst hg' ho'
        have hrise : z' < z := by
          have h1 := (List.getElem?_eq_some_iff.1 hz')
          have h2 := (List.getElem?_eq_some_iff.1 HZ.out)
          have := List.pairwise_iff_getElem.1 HRS.out (k - 1) k h1.1 h2.1 (by omega)
          rw [h1.2, h2.2] at this
          exact this
        have hd1 : decide ((0 : Int) < (k : Int)) = true := decide_eq_true (by omega)
        have hd2 : decide (z ≤ z') = false := decide_eq_false (by omega)
        have hd3 : decide (0 < k) = true := decide_eq_true (by omega)
        have hk1 : (0 : Int) ≤ (k : Int) - 1 := by omega
        have hk2 : (k : Int) - 1 < (K : Int) := by omega
        have hk3 : ((k : Int) - 1).toNat = k - 1 := by omega
        have hk4 : IntKind.i64.wrap ((k : Int) - 1) = (k : Int) - 1 := IntWalk.i64_in _ (by omega)
        clear hz'
        go_wp2_with fail
        go_quiet (fail)
        clear e1 hd1 hd2 hd3 hk1 hk2 hk3 hk4 hrise
        (go_wp2_with fail) <;>
          (go_roundw
           case rel => first
            | exact ⟨k + 1, m, q + nq, by omega, by omega, by go_num, rfl, Lib.hid (HNX.out m (fun h => ⟨h, by omega⟩)), by first | rfl | simp⟩
            | exact ⟨k + 1, m + 1, q + nq, by omega, by omega, by go_num, by go_num, Lib.hid (HNX.out (m + 1) (fun h => by omega)), by first | rfl | simp⟩
           case measure => simp [intOf]; omega)
    · obtain rfl : K = k := by omega
      have HNO : Hid (m = 0 → atP l nm a = atP l nm b) := Lib.hid (fun h0 => HSM.out (fun z hz => by
        obtain ⟨j, hj⟩ := List.mem_iff_getElem?.1 hz
        exact hno.out h0 j z (by have := (List.getElem?_eq_some_iff.1 hj).1; rw [HK.out] at this; exact this) hj))
      obtain ⟨w5, hw5⟩ : ∃ w5, w4.drewN q = w5 := ⟨_, rfl⟩
      rw [hw5]
      have HB45 : Hid (Below w4.heap.size w4 w5) := Lib.hid (by rw [← hw5]; exact below_drewN (Below.refl _ _) _)
      have HB5 : Hid (Below w.heap.size w w5) := Lib.hid (HB4.out.trans (HB45.out.mono HB4.out.size))
      have HC5 : Hid (CatAt w5 cb F l) := Lib.hid (HC4.out.below HB45.out)
      have HA5 := Lib.hid (at_any cb F l nm a w5 HC5.out (by omega) HLE.out)
      have HAB := Lib.hid (fun w' (h : CatAt w' cb F l) => at_any cb F l nm b w' h (by omega) HLE.out)
      unfold toldP itA at HA5 HAB
      generalize hoa : (atP l nm a).isSome = oka at *
      generalize hob : (atP l nm b).isSome = okb at *
      have HXX : Hid (m = 0 → itB ((atP l nm a).getD it0) ((atP l nm b).getD it0) = true) := Lib.hid (fun h0 => by rw [HNO.out h0]; exact itB_rfl _)
      generalize (atP l nm a).getD it0 = xa at *
      generalize (atP l nm b).getD it0 = xb at *
      clear hoa hob HSM HNO HAA hno hw5 HC4 HB4
      go_wp2_with fail
      refine HA5.out.mono ?_
      rintro e w6 ⟨rfl, hb6⟩
      have HB6 : Hid (Below w5.heap.size w5 w6) := Lib.hid hb6
      clear hb6 HA5
      go_wp2_with fail
      obtain ⟨w7, hw7⟩ : ∃ w7, w6.alloc (.cells #[.string xa.name, .string xa.maker, .string xa.tags, .int .i64 xa.stock, .int .i64 xa.price, .int .i64 xa.born, .bool xa.listed] 30) = w7 := ⟨_, rfl⟩
      rw [hw7]
      have HX7 : Hid (Blk w7 w6.heap.size 30 (itArr xa)) := Lib.hid (by rw [← hw7]; exact Blk.new _ _ _)
      have HB57 : Hid (Below w5.heap.size w5 w7) := Lib.hid (by rw [← hw7]; exact HB6.out.alloc HB6.out.size _)
      refine (HAB.out w7 (HC5.out.below HB57.out)).mono ?_
      rintro e w8 ⟨rfl, hb8⟩
      have HX8 : Hid (Blk w8 w6.heap.size 30 (itArr xa)) := Lib.hid ((hb8.block _ HX7.out.lt).trans HX7.out)
      have HB58 : Hid (Below w5.heap.size w5 w8) := Lib.hid (HB57.out.trans (hb8.mono HB57.out.size))
      have HBF : Hid (Below w.heap.size w w8) := Lib.hid (HB5.out.trans (HB58.out.mono HB5.out.size))
      have hx8 := HX8.out.lt
      have x0 : w8.cell? ⟨w6.heap.size, 0, none⟩ = some (.string xa.name) := HX8.out.cell 0
      have x1 : w8.cell? ⟨w6.heap.size, 1, none⟩ = some (.string xa.maker) := HX8.out.cell 1
      have x2 : w8.cell? ⟨w6.heap.size, 2, none⟩ = some (.string xa.tags) := HX8.out.cell 2
      have x3 : w8.cell? ⟨w6.heap.size, 3, none⟩ = some (.int .i64 xa.stock) := HX8.out.cell 3
      have x4 : w8.cell? ⟨w6.heap.size, 4, none⟩ = some (.int .i64 xa.price) := HX8.out.cell 4
      have x5 : w8.cell? ⟨w6.heap.size, 5, none⟩ = some (.int .i64 xa.born) := HX8.out.cell 5
      have x6 : w8.cell? ⟨w6.heap.size, 6, none⟩ = some (.bool xa.listed) := HX8.out.cell 6
      clear hb8 hw7 HX7 HB57 HAB HC5 HB6
      by_cases hK0 : K = 0
      · subst hK0
        obtain rfl : oka = false := by
          cases oka
          · rfl
          · obtain ⟨z, hz, _⟩ := HTA.out.1 rfl
            have := (List.getElem?_eq_some_iff.1 hz).1
            rw [HK.out] at this
            omega
        obtain rfl : okb = false := by
          cases okb
          · rfl
          · obtain ⟨z, hz, _⟩ := HTB.out.1 rfl
            have := (List.getElem?_eq_some_iff.1 hz).1
            rw [HK.out] at this
            omega
        obtain rfl : m = 0 := by omega
        have hxx := HXX.out rfl
        go_wp2_with fail
        go_ret
        exact ⟨rfl, HBF.out.alloc HBF.out.size _⟩
      · obtain ⟨g, o, z, rfl, hgl, hz, e0⟩ := HAT.out 0 (by omega)
        rw [Nat.add_zero] at e0
        have c0 : w8.cell? ⟨g, o, none⟩ = some (.int .i64 z) := ((HB58.out.cell (p := ⟨g, o, none⟩) (Nat.lt_of_lt_of_le hgl HB45.out.size)).trans (HB45.out.cell (p := ⟨g, o, none⟩) hgl)).trans e0
        have HZ := Lib.hid hz
        have hKp : (0 : Int) < (K : Int) := by omega
        have hgw : g < w8.heap.size := Nat.lt_of_lt_of_le (Nat.lt_of_lt_of_le hgl HB45.out.size) HB58.out.size
        obtain rfl : oka = decide (z ≤ a) := by
          rw [Bool.eq_iff_iff, HTA.out, decide_eq_true_iff]
          constructor
          · rintro ⟨y, hy, h⟩
            rw [HZ.out] at hy
            cases hy
            exact h
          · intro h; exact ⟨z, HZ.out, h⟩
        obtain rfl : okb = decide (z ≤ b) := by
          rw [Bool.eq_iff_iff, HTB.out, decide_eq_true_iff]
          constructor
          · rintro ⟨y, hy, h⟩
            rw [HZ.out] at hy
            cases hy
            exact h
          · intro h; exact ⟨z, HZ.out, h⟩
        clear hz e0
        by_cases h1 : z ≤ a
        · have h2 : z ≤ b := by omega
          by_cases hm0 : m = 0
          · subst hm0
            have hxx := HXX.out rfl
            go_wp2_with fail
            go_ret
            exact ⟨rfl, HBF.out.alloc HBF.out.size _⟩
          · have hmp : (0 : Int) < (m : Int) := by omega
            go_wp2_with fail
            go_ret
            exact ⟨rfl, HBF.out.alloc HBF.out.size _⟩
        · by_cases h2 : z ≤ b
          · by_cases hm0 : m = 0
            · subst hm0
              have hxx := HXX.out rfl
              go_wp2_with fail
              go_ret
              exact ⟨rfl, HBF.out.alloc HBF.out.size _⟩
            · have hmp : (0 : Int) < (m : Int) := by omega
              go_wp2_with fail
              go_ret
              exact ⟨rfl, HBF.out.alloc HBF.out.size _⟩
          · by_cases hm0 : m = 0
            · subst hm0
              have hxx := HXX.out rfl
              go_wp2_with fail
              go_ret
              exact ⟨rfl, HBF.out.alloc HBF.out.size _⟩
            · have hmp : (0 : Int) < (m : Int) := by omega
              go_wp2_with fail
              go_ret
              exact ⟨rfl, HBF.out.alloc HBF.out.size _⟩

end Go.Proofs.YtpnfnmpohacnoaaDoor
