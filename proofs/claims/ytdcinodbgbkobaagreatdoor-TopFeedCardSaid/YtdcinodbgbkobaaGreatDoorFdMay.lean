/- feed.may. -/
import Derived.Test.YtdcinodbgbkobaaGreatDoorGf
namespace Go.Proofs.YtdcinodbgbkobaaGreatDoor
open Go.Shelf Go.RowKit Go.Maps
set_option linter.unusedVariables false

theorem with_any (n : Int) (w : World) : Calls Tryz.prog 68 #[.int .i64 n] w fun e w' => e = .returned (.bool (withB n)) ∧ w = w' := by
  by_cases h1 : 0 ≤ n
  · by_cases h2 : n ≤ 1048576
    · have HR : Hid (withB n = true) := Lib.hid (by unfold withB; simp [h1, h2])
      go_enter Tryz.func68, Tryz.ntmps68
      go_wp2
      go_ret
      exact ⟨ret_bool (by rw [HR.out]), rfl⟩
    · have HR : Hid (withB n = false) := Lib.hid (by unfold withB; simp [h2])
      have d2 : decide (n ≤ 1048576) = false := decide_eq_false h2
      go_enter Tryz.func68, Tryz.ntmps68
      go_wp2
      go_ret
      exact ⟨ret_bool (by rw [HR.out]), rfl⟩
  · have HR : Hid (withB n = false) := Lib.hid (by unfold withB; simp [h1])
    have d1 : decide (0 ≤ n) = false := decide_eq_false h1
    go_enter Tryz.func68, Tryz.ntmps68
    go_wp2
    go_ret
    exact ⟨ret_bool (by rw [HR.out]), rfl⟩

theorem ftags_any (t : ByteArray) (w : World) (ht : t.size ≤ 1000000) (hg : GlobAt w) : Calls Tryz.prog 66 #[.string (⟨#[59]⟩ ++ t)] w fun e w' => ∃ A c, e = .returned (.slice A (tagsOf t).length c) ∧ RowIn w' w'.heap.size 1 A (tagsOf t).length ((tagsOf t).map .string) ∧ (A = none → c = 0) ∧ Below w.heap.size w w' := by
  have h := evtags_any (⟨#[59]⟩ ++ t) w (by rw [semi_size]; omega) hg
  unfold tagsOf
  exact h
set_option maxHeartbeats 4000000 in
set_option maxRecDepth 100000 in
theorem fmay_any (x : It) (w : World) (hn : x.name.size ≤ 1000000) (hm : x.maker.size ≤ 1000000) (ht : x.tags.size ≤ 1000000) (hg : GlobAt w) :
    Calls Tryz.prog 49 #[itA x] w fun e w' => e = .returned (.bool (mayR (roOf x))) ∧ Below w.heap.size w w' := by
  obtain ⟨w1, hw1⟩ : ∃ w1, w.alloc (.cells #[.string x.name, .string x.maker, .string x.tags, .int .i64 x.stock, .int .i64 x.price, .int .i64 x.born, .bool x.listed] 47) = w1 := ⟨_, rfl⟩
  have HK1 : Hid (Blk w1 w.heap.size 47 #[.string x.name, .string x.maker, .string x.tags, .int .i64 x.stock, .int .i64 x.price, .int .i64 x.born, .bool x.listed]) := Lib.hid (by rw [← hw1]; exact Blk.new _ _ _)
  have HB1 : Hid (Below w.heap.size w w1) := Lib.hid (by rw [← hw1]; exact (Below.refl _ _).alloc (Nat.le_refl _) _)
  have c0 : w1.cell? ⟨w.heap.size, 0, none⟩ = some (.string x.name) := HK1.out.cell 0
  have c1 : w1.cell? ⟨w.heap.size, 1, none⟩ = some (.string x.maker) := HK1.out.cell 1
  have c2 : w1.cell? ⟨w.heap.size, 2, none⟩ = some (.string x.tags) := HK1.out.cell 2
  have c3 : w1.cell? ⟨w.heap.size, 3, none⟩ = some (.int .i64 x.stock) := HK1.out.cell 3
  have c4 : w1.cell? ⟨w.heap.size, 4, none⟩ = some (.int .i64 x.price) := HK1.out.cell 4
  have HL : Hid (mayR (roOf x) = (nameB x.name && (nameB x.maker && (withB x.price && (withB x.stock && (decide ((tagsOf x.tags).length ≤ 8) && riseB (tagsOf x.tags))))))) := Lib.hid rfl
  have HN1 := Lib.hid (name_any x.name w1 (by unfold maxLen; omega))
  have HN2 := Lib.hid (name_any x.maker w1 (by unfold maxLen; omega))
  have HW1 := Lib.hid (with_any x.price w1)
  have HW2 := Lib.hid (with_any x.stock w1)
  have HT := Lib.hid (ftags_any x.tags w1 ht (hg.keep HB1.out (Nat.le_refl _)))
  have HTF : Hid ((tagsOf x.tags).length ≤ 1000002) := Lib.hid (by have := tags_few x.tags; omega)
  have HP : Hid (∀ t ∈ tagsOf x.tags, t.size ≤ 1000001) := Lib.hid (fun t h => by
    have := parts_le (⟨#[59]⟩ ++ x.tags : ByteArray) t (by unfold tagsOf at h; exact h)
    rw [semi_size] at this
    omega)
  clear hg
  unfold itA
  go_enter Tryz.func49, Tryz.ntmps49
  go_wp2_with fail
  clear hw1
  refine HN1.out.mono ?_
  rintro e w2 ⟨rfl, rfl⟩
  clear HN1
  cases q1 : nameB x.name
  · have HQ := Lib.hid q1
    clear q1
    go_wp2_with fail
    go_ret
    exact ⟨ret_bool (by rw [HL.out, HQ.out]; rfl), HB1.out⟩
  have HQ1 := Lib.hid q1
  clear q1
  go_wp2_with fail
  refine HN2.out.mono ?_
  rintro e w2 ⟨rfl, rfl⟩
  clear HN2
  cases q2 : nameB x.maker
  · have HQ := Lib.hid q2
    clear q2
    go_wp2_with fail
    go_ret
    exact ⟨ret_bool (by rw [HL.out, HQ1.out, HQ.out]; rfl), HB1.out⟩
  have HQ2 := Lib.hid q2
  clear q2
  go_wp2_with fail
  refine HW1.out.mono ?_
  rintro e w2 ⟨rfl, rfl⟩
  clear HW1
  cases q3 : withB x.price
  · have HQ := Lib.hid q3
    clear q3
    go_wp2_with fail
    go_ret
    exact ⟨ret_bool (by rw [HL.out, HQ1.out, HQ2.out, HQ.out]; rfl), HB1.out⟩
  have HQ3 := Lib.hid q3
  clear q3
  go_wp2_with fail
  refine HW2.out.mono ?_
  rintro e w2 ⟨rfl, rfl⟩
  clear HW2
  cases q4 : withB x.stock
  · have HQ := Lib.hid q4
    clear q4
    go_wp2_with fail
    go_ret
    exact ⟨ret_bool (by rw [HL.out, HQ1.out, HQ2.out, HQ3.out, HQ.out]; rfl), HB1.out⟩
  have HQ4 := Lib.hid q4
  have HLL : Hid (mayR (roOf x) = (decide ((tagsOf x.tags).length ≤ 8) && riseB (tagsOf x.tags))) := Lib.hid (by rw [HL.out, HQ1.out, HQ2.out, HQ3.out, HQ4.out]; rfl)
  clear q4 HL HQ1 HQ2 HQ3 HQ4
  go_wp2_with fail
  refine HT.out.mono ?_
  rintro e w2 ⟨A, c, rfl, hrow, hnil, hb2⟩
  clear HT
  have HB2 : Hid (Below w.heap.size w w2) := Lib.hid (HB1.out.trans (hb2.mono HB1.out.size))
  generalize tagsOf x.tags = l at *
  obtain ⟨n, hn⟩ : ∃ n, l.length = n := ⟨_, rfl⟩
  rw [hn] at hrow ⊢
  have HLN := Lib.hid hn
  have hn8 : n ≤ 1000002 := by rw [← hn]; exact HTF.out
  have HR := Lib.hid hrow
  clear hrow hb2 hn HTF c0 c1 c2 c3 c4 hnil
  go_wp2_with fail
  go_loopw [37] (fun i wr => ∃ k : Nat, k ≤ n ∧ i = .int .i64 k ∧ Hid (∀ j, j < k → okAt l j) ∧ wr = w2) (fun i _ => n - (intOf i).toNat)
  case atStart => exact ⟨0, Nat.zero_le _, rfl, Lib.hid (fun j hj => by omega), rfl⟩
  case round =>
    obtain ⟨k, hk, rfl, hok, rfl⟩ := hrel
    by_cases hlt : k < n
    · obtain ⟨t, ht⟩ : ∃ t, l[k]? = some t := ⟨l[k]'(by rw [HLN.out]; exact hlt), List.getElem?_eq_getElem _⟩
      obtain ⟨g, o, rfl, _, hc⟩ := HR.out.at (by omega)
      have e0 : wr.cell? ⟨g, o + k, none⟩ = some (.string t) := hc k _ (by simp [ht])
      have hts := HP.out t (List.mem_of_getElem? ht)
      have HN := Lib.hid (name_any t wr (by unfold maxLen; omega))
      have HTK := Lib.hid ht
      have hk8 : (k : Int) < (n : Int) := by omega
      have hk9 : (0 : Int) ≤ (k : Int) := by omega
      cases hn : nameB t
      · have HNT := Lib.hid hn
        rw [hn] at HN
        clear hn ht hc
        go_wp2_with fail
        refine HN.out.mono ?_
        rintro e w3 ⟨rfl, rfl⟩
        clear HN
        go_wp2_with fail
        go_ret
        refine ⟨ret_bool ?_, HB2.out⟩
        have hr : riseB l = false := by
          cases hr : riseB l
          · rfl
          · have := ((rise_of l).1 hr k t HTK.out).1
            rw [HNT.out] at this; cases this
        rw [HLL.out, hr]; simp
      · have HNT := Lib.hid hn
        rw [hn] at HN
        by_cases hk0 : k = 0
        · subst hk0
          rw [Nat.add_zero] at e0
          clear hn ht hc
          go_wp2_with fail
          refine HN.out.mono ?_
          rintro e w3 ⟨rfl, rfl⟩
          clear HN
          go_wp2_with fail
          go_roundw
          case rel =>
            refine ⟨1, by omega, by go_num, Lib.hid (fun j hj => ?_), by trivial⟩
            obtain rfl : j = 0 := by omega
            intro t' ht'
            rw [HTK.out] at ht'
            cases ht'
            exact ⟨HNT.out, fun u h0 => by omega⟩
          case measure => simp [intOf]; omega
        · obtain ⟨u, hu⟩ : ∃ u, l[k - 1]? = some u := ⟨l[k - 1]'(by rw [HLN.out]; omega), List.getElem?_eq_getElem _⟩
          have e1 : wr.cell? ⟨g, o + (k - 1), none⟩ = some (.string u) := hc (k - 1) _ (by simp [hu])
          have HU := Lib.hid hu
          have hkk : ((k : Int) - 1).toNat = k - 1 := by omega
          have hk1 : decide ((0 : Int) < (k : Int)) = true := decide_eq_true (by omega)
          have hk2 : (0 : Int) ≤ (k : Int) - 1 := by omega
          have hk3 : (k : Int) - 1 < (n : Int) := by omega
          have hk4 : (1 : Int) ≤ (k : Int) := by omega
          clear hn ht hc hu
          cases hlt2 : Op.bytesLess u.toList t.toList
          · have HLT := Lib.hid hlt2
            go_wp2_with fail
            refine HN.out.mono ?_
            rintro e w3 ⟨rfl, rfl⟩
            clear HN
            go_wp2_with fail
            go_ret
            refine ⟨ret_bool ?_, HB2.out⟩
            have hr : riseB l = false := by
              cases hr : riseB l
              · rfl
              · have := ((rise_of l).1 hr k t HTK.out).2 u (by omega) HU.out
                unfold ltB at this
                rw [HLT.out] at this; cases this
            rw [HLL.out, hr]; simp
          · have HLT := Lib.hid hlt2
            go_wp2_with fail
            refine HN.out.mono ?_
            rintro e w3 ⟨rfl, rfl⟩
            clear HN
            go_wp2_with fail
            go_roundw
            case rel =>
              refine ⟨k + 1, by omega, by go_num, Lib.hid (fun j hj => ?_), by trivial⟩
              by_cases e : j = k
              · subst e
                intro t' ht'
                rw [HTK.out] at ht'
                cases ht'
                refine ⟨HNT.out, fun u' _ hu' => ?_⟩
                rw [HU.out] at hu'
                cases hu'
                exact HLT.out
              · exact hok.out j (by omega)
            case measure => simp [intOf]; omega
    · obtain rfl : n = k := by omega
      have HRI : Hid (riseB l = true) := Lib.hid ((rise_of l).2 (fun j => by
        by_cases hj : j < n
        · exact hok.out j hj
        · intro t ht
          have := (List.getElem?_eq_some_iff.1 ht).1
          rw [HLN.out] at this
          omega))
      have HF : Hid (mayR (roOf x) = decide ((n : Int) ≤ 8)) := Lib.hid (by
        rw [HLL.out, HRI.out, HLN.out, Bool.and_true, decide_eq_decide]
        omega)
      go_wp2_with fail
      go_ret
      exact ⟨ret_bool HF.out.symm, HB2.out⟩

end Go.Proofs.YtdcinodbgbkobaaGreatDoor
