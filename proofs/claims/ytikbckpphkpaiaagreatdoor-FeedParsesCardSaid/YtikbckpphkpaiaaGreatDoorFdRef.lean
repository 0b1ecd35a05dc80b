/- The document's May, Find, All. -/
import Derived.Test.YtikbckpphkpaiaaGreatDoorFdLives
import Derived.BigQuiet
import Derived.Test.YtikbckpphkpaiaaGreatDoorPlan
namespace Go.Proofs.YtikbckpphkpaiaaGreatDoor
open Go.Shelf Go.RowKit Go.Maps
set_option linter.unusedVariables false

def roA (r : Ro) : Value := .agg #[.string r.name, .string r.maker, .string r.tags, .int .i64 r.price, .int .i64 r.stock]
theorem withB_lo {n : Int} (h : n < 0) : withB n = false := by unfold withB; exact decide_eq_false (by omega)
theorem withB_hi {n : Int} (h : 1048576 < n) : withB n = false := by unfold withB; exact decide_eq_false (by omega)
theorem withB_in {n : Int} (h : ¬ n < 0) (h2 : ¬ 1048576 < n) : withB n = true := by unfold withB; exact decide_eq_true (by omega)

set_option maxHeartbeats 4000000 in
set_option maxRecDepth 100000 in
theorem rmayR_any (r : Ro) (w : World) (hn : r.name.size ≤ 1000000) (hm : r.maker.size ≤ 1000000) (ht : r.tags.size ≤ 1000000) :
    Calls Tryz.prog 19 #[roA r] w fun e w' => e = .returned (.bool (mayR r)) ∧ Below w.heap.size w w' := by
  obtain ⟨w1, hw1⟩ : ∃ w1, w.alloc (.cells #[.string r.name, .string r.maker, .string r.tags, .int .i64 r.price, .int .i64 r.stock] 55) = w1 := ⟨_, rfl⟩
  have HK1 : Hid (Blk w1 w.heap.size 55 #[.string r.name, .string r.maker, .string r.tags, .int .i64 r.price, .int .i64 r.stock]) := Lib.hid (by rw [← hw1]; exact Blk.new _ _ _)
  have HB1 : Hid (Below w.heap.size w w1) := Lib.hid (by rw [← hw1]; exact (Below.refl _ _).alloc (Nat.le_refl _) _)
  have c0 : w1.cell? ⟨w.heap.size, 0, none⟩ = some (.string r.name) := HK1.out.cell 0
  have c1 : w1.cell? ⟨w.heap.size, 1, none⟩ = some (.string r.maker) := HK1.out.cell 1
  have c2 : w1.cell? ⟨w.heap.size, 2, none⟩ = some (.string r.tags) := HK1.out.cell 2
  have c3 : w1.cell? ⟨w.heap.size, 3, none⟩ = some (.int .i64 r.price) := HK1.out.cell 3
  have c4 : w1.cell? ⟨w.heap.size, 4, none⟩ = some (.int .i64 r.stock) := HK1.out.cell 4
  have HL : Hid (mayR r = (nameB r.name && (nameB r.maker && (withB r.price && (withB r.stock && (decide ((tagsOf r.tags).length ≤ 8) && riseB (tagsOf r.tags))))))) := Lib.hid rfl
  have HN1 := Lib.hid (rname_any r.name w1 (by unfold maxLen; omega))
  have HN2 := Lib.hid (rname_any r.maker w1 (by unfold maxLen; omega))
  have HT := Lib.hid (rparts_any r.tags w1 ht)
  have HTE : Hid (tagsOf r.tags = if r.tags = ⟨#[]⟩ then [] else parts r.tags) := Lib.hid (tagsOf_eq r.tags)
  have HTF : Hid ((tagsOf r.tags).length ≤ 1000002) := Lib.hid (by have := tags_few r.tags; omega)
  have HP : Hid (∀ t ∈ tagsOf r.tags, t.size ≤ 1000001) := Lib.hid (fun t h => by
    have := parts_le (⟨#[59]⟩ ++ r.tags : ByteArray) t (by unfold tagsOf at h; exact h)
    rw [semi_size] at this
    omega)
  unfold roA
  go_enter Tryz.func19, Tryz.ntmps19
  go_wp2_with fail
  clear hw1
  refine HN1.out.mono ?_
  rintro e w2 ⟨rfl, rfl⟩
  clear HN1
  cases q1 : nameB r.name
  · have HQ := Lib.hid q1
    clear q1
    go_wp2_with fail
    go_ret
    exact ⟨ret_bool (by rw [HL.out, HQ.out]; rfl), HB1.out⟩
  have HQ1 := Lib.hid q1
  clear q1
  go_wp2_with fail
  refine HN2.out.mono ?_
  rintro e w2 ⟨rfl, rfl⟩
  clear HN2
  cases q2 : nameB r.maker
  · have HQ := Lib.hid q2
    clear q2
    go_wp2_with fail
    go_ret
    exact ⟨ret_bool (by rw [HL.out, HQ1.out, HQ.out]; rfl), HB1.out⟩
  have HQ2 := Lib.hid q2
  clear q2
  by_cases p1 : r.price < 0
  · have HQ := Lib.hid (withB_lo p1)
    go_wp2_with fail
    go_ret
    exact ⟨ret_bool (by rw [HL.out, HQ1.out, HQ2.out, HQ.out]; rfl), HB1.out⟩
  have p1d : decide (r.price < 0) = false := decide_eq_false p1
  by_cases p2 : 1048576 < r.price
  · have HQ := Lib.hid (withB_hi p2)
    go_wp2_with fail
    go_ret
    exact ⟨ret_bool (by rw [HL.out, HQ1.out, HQ2.out, HQ.out]; rfl), HB1.out⟩
  have p2d : decide (1048576 < r.price) = false := decide_eq_false p2
  have HQ3 := Lib.hid (withB_in p1 p2)
  by_cases p3 : r.stock < 0
  · have HQ := Lib.hid (withB_lo p3)
    go_wp2_with fail
    go_ret
    exact ⟨ret_bool (by rw [HL.out, HQ1.out, HQ2.out, HQ3.out, HQ.out]; rfl), HB1.out⟩
  have p3d : decide (r.stock < 0) = false := decide_eq_false p3
  by_cases p4 : 1048576 < r.stock
  · have HQ := Lib.hid (withB_hi p4)
    go_wp2_with fail
    go_ret
    exact ⟨ret_bool (by rw [HL.out, HQ1.out, HQ2.out, HQ3.out, HQ.out]; rfl), HB1.out⟩
  have p4d : decide (1048576 < r.stock) = false := decide_eq_false p4
  have HQ4 := Lib.hid (withB_in p3 p4)
  have HLL : Hid (mayR r = (decide ((tagsOf r.tags).length ≤ 8) && riseB (tagsOf r.tags))) := Lib.hid (by rw [HL.out, HQ1.out, HQ2.out, HQ3.out, HQ4.out]; rfl)
  clear HL HQ1 HQ2 HQ3 HQ4
  by_cases ht0 : r.tags = ⟨#[]⟩
  · have q0 : r.tags.toList.isEmpty = true := by rw [emp_iff]; exact decide_eq_true ht0
    have HR0 : Hid (mayR r = true) := Lib.hid (by rw [HLL.out, HTE.out, if_pos ht0]; rfl)
    clear ht0
    go_wp2_with fail
    go_ret
    exact ⟨ret_bool HR0.out.symm, HB1.out⟩
  have q0 : r.tags.toList.isEmpty = false := by rw [emp_iff]; exact decide_eq_false ht0
  rw [if_neg ht0] at HTE
  rw [HTE.out] at HTF HP HLL
  clear HTE ht0
  go_wp2_with fail
  refine HT.out.mono ?_
  rintro e w2 ⟨A, c, rfl, hown, hb2⟩
  have hrow := RowIn.of_own hown
  clear HT
  have HB2 : Hid (Below w.heap.size w w2) := Lib.hid (HB1.out.trans (hb2.mono HB1.out.size))
  generalize parts r.tags = l at *
  obtain ⟨n, hn⟩ : ∃ n, l.length = n := ⟨_, rfl⟩
  rw [hn] at hrow ⊢
  have HLN := Lib.hid hn
  have hn8 : n ≤ 1000002 := by rw [← hn]; exact HTF.out
  have HR := Lib.hid hrow
  clear hrow hb2 hn hown HTF c0 c1 c2 c3 c4
  go_wp2_with fail
  go_loopw [4] (fun i wr => ∃ k q : Nat, k ≤ n ∧ i = .int .i64 k ∧ Hid (∀ j, j < k → okAt l j) ∧ wr = w2.drewN q) (fun i _ => n - (intOf i).toNat)
  case atStart => exact ⟨0, 0, Nat.zero_le _, rfl, Lib.hid (fun j hj => by omega), rfl⟩
  case round =>
    obtain ⟨k, q, hk, rfl, hok, hwr⟩ := hrel
    have HBR : Hid (Below w.heap.size w wr) := Lib.hid (by rw [hwr]; exact below_drewN HB2.out _)
    have HRR : Hid (RowIn wr w2.heap.size 1 A n (l.map .string)) := Lib.hid (by rw [hwr]; exact HR.out.drewN _)
    have HWR := Lib.hid hwr
    clear hwr
    by_cases hlt : k < n
    · obtain ⟨t, ht⟩ : ∃ t, l[k]? = some t := ⟨l[k]'(by rw [HLN.out]; exact hlt), List.getElem?_eq_getElem _⟩
      obtain ⟨g, o, rfl, _, hc⟩ := HRR.out.at (by omega)
      have e0 : wr.cell? ⟨g, o + k, none⟩ = some (.string t) := hc k _ (by simp [ht])
      have hts := HP.out t (List.mem_of_getElem? ht)
      have HTK := Lib.hid ht
      have hk8 : (k : Int) < (n : Int) := by omega
      have hk9 : (0 : Int) ≤ (k : Int) := by omega
      cases hn : nameB t
      · have HNT := Lib.hid hn
        have HN : Hid (∀ u, Calls Tryz.prog 40 #[.string t] u fun e w' => e = .returned (.bool false) ∧ w' = u) := Lib.hid (fun u => by have := rname_any t u (by unfold maxLen; omega); rw [hn] at this; exact this.mono (fun _ _ h => ⟨h.1, h.2.symm⟩))
        clear hn ht hc
        go_wp2_with fail
        go_quiet (refine Calls.quiet_of_same (HN.out _))
        go_wp2_with fail
        go_ret
        refine ⟨ret_bool ?_, below_drewN HBR.out _⟩
        have hr : riseB l = false := by
          cases hr : riseB l
          · rfl
          · have := ((rise_of l).1 hr k t HTK.out).1
            rw [HNT.out] at this; cases this
        rw [HLL.out, hr]; simp
      · have HNT := Lib.hid hn
        have HN : Hid (∀ u, Calls Tryz.prog 40 #[.string t] u fun e w' => e = .returned (.bool true) ∧ w' = u) := Lib.hid (fun u => by have := rname_any t u (by unfold maxLen; omega); rw [hn] at this; exact this.mono (fun _ _ h => ⟨h.1, h.2.symm⟩))
        by_cases hk0 : k = 0
        · subst hk0
          rw [Nat.add_zero] at e0
          clear hn ht hc
          go_wp2_with fail
          go_quiet (refine Calls.quiet_of_same (HN.out _))
          go_wp2_with fail
          go_roundw
          case rel =>
            refine ⟨1, q + nq, by omega, by go_num, Lib.hid (fun j hj => ?_), by rw [HWR.out, World.drewN_drewN]⟩
            obtain rfl : j = 0 := by omega
            intro t' ht'
            rw [HTK.out] at ht'
            cases ht'
            exact ⟨HNT.out, fun u h0 => by omega⟩
          case measure => simp [intOf]; omega
        · obtain ⟨u, hu⟩ : ∃ u, l[k - 1]? = some u := ⟨l[k - 1]'(by rw [HLN.out]; omega), List.getElem?_eq_getElem _⟩
          have e1 : wr.cell? ⟨g, o + (k - 1), none⟩ = some (.string u) := hc (k - 1) _ (by simp [hu])
          have HU := Lib.hid hu
          have hkk : ((k : Int) - 1).toNat = k - 1 := by omega
          have hk1 : decide ((0 : Int) < (k : Int)) = true := decide_eq_true (by omega)
          have hk1n : decide (0 < k) = true := decide_eq_true (by omega)
          have hk1p : 0 < k := by omega
          have hk2 : (0 : Int) ≤ (k : Int) - 1 := by omega
          have hk3 : (k : Int) - 1 < (n : Int) := by omega
          clear hn ht hc hu
          cases hlt2 : Op.bytesLess u.toList t.toList
          · have HLT := Lib.hid hlt2
            go_wp2_with fail
            go_quiet (refine Calls.quiet_of_same (HN.out _))
            go_wp2_with fail
            go_ret
            refine ⟨ret_bool ?_, below_drewN HBR.out _⟩
            have hr : riseB l = false := by
              cases hr : riseB l
              · rfl
              · have := ((rise_of l).1 hr k t HTK.out).2 u (by omega) HU.out
                unfold ltB at this
                rw [HLT.out] at this; cases this
            rw [HLL.out, hr]; simp
          · have HLT := Lib.hid hlt2
            go_wp2_with fail
            go_quiet (refine Calls.quiet_of_same (HN.out _))
            go_wp2_with fail
            go_roundw
            case rel =>
              refine ⟨k + 1, q + nq, by omega, by go_num, Lib.hid (fun j hj => ?_), by rw [HWR.out, World.drewN_drewN]⟩
              by_cases e : j = k
              · subst e
                intro t' ht'
                rw [HTK.out] at ht'
                cases ht'
                refine ⟨HNT.out, fun u' _ hu' => ?_⟩
                rw [HU.out] at hu'
                cases hu'
                exact HLT.out
              · exact hok.out j (by omega)
            case measure => simp [intOf]; omega
    · have HF : Hid (mayR r = decide ((n : Int) ≤ 8)) := Lib.hid (by
        have hr : riseB l = true := (rise_of l).2 (fun j => by
          by_cases hj : j < k
          · exact hok.out j hj
          · intro t ht
            have := (List.getElem?_eq_some_iff.1 ht).1
            rw [HLN.out] at this
            omega)
        rw [HLL.out, hr, HLN.out]
        simp only [Bool.and_true]
        exact decide_eq_decide.2 (by omega))
      go_wp2_with fail
      go_ret
      exact ⟨ret_bool HF.out.symm, HBR.out⟩

/-! ### Find -/
theorem findR_at {l : List Ro} {nm : ByteArray} {k : Nat} {r : Ro} (h : l[k]? = some r) (hr : r.name = nm) (hn : ∀ j x, j < k → l[j]? = some x → x.name ≠ nm) : findR l nm = some r := by
  unfold findR
  rw [List.find?_eq_some_iff_getElem]
  obtain ⟨hk, rfl⟩ := List.getElem?_eq_some_iff.1 h
  refine ⟨decide_eq_true hr, k, hk, rfl, fun j hj => ?_⟩
  have := hn j l[j] hj (List.getElem?_eq_getElem _)
  simp [this]
theorem findR_no {l : List Ro} {nm : ByteArray} (hn : ∀ (j : Nat) x, l[j]? = some x → x.name ≠ nm) : findR l nm = none := by
  unfold findR
  rw [List.find?_eq_none]
  intro x hx
  obtain ⟨j, hj⟩ := List.mem_iff_getElem?.1 hx
  simp [hn j x hj]
def FindIs (l : List Ro) (nm : ByteArray) (i : Int) : Prop := (i = -1 ∧ findR l nm = none) ∨ ∃ (k : Nat) (r : Ro), i = k ∧ l[k]? = some r ∧ findR l nm = some r
set_option maxHeartbeats 2000000 in
set_option maxRecDepth 100000 in
theorem rfind_any (w : World) (B : Nat) (A : Option Addr) (l : List Ro) (n c : Nat) (nm : ByteArray) (hn : l.length = n) (hl : RowIn w B 5 A n (l.flatMap roC)) (hb : n ≤ 1000) :
    Calls Tryz.prog 20 #[.slice A n c, .string nm] w fun e w' => ∃ i : Int, e = .returned (.int .i64 i) ∧ FindIs l nm i ∧ w' = w := by
  have HN := Lib.hid hn
  have HL := Lib.hid hl
  clear hn hl
  go_enter Tryz.func20, Tryz.ntmps20
  go_wp2_with fail
  go_loopw [5] (fun i wr => ∃ k : Nat, k ≤ n ∧ i = .int .i64 k ∧ Hid (∀ j x, j < k → l[j]? = some x → x.name ≠ nm) ∧ wr = w) (fun i _ => n - (intOf i).toNat)
  case atStart => exact ⟨0, Nat.zero_le _, rfl, Lib.hid (fun j x hj => by omega), rfl⟩
  case round =>
    obtain ⟨k, hk, rfl, hno, rfl⟩ := hrel
    by_cases hlt : k < n
    · obtain ⟨x, hx⟩ : ∃ x, l[k]? = some x := ⟨l[k]'(by rw [HN.out]; exact hlt), List.getElem?_eq_getElem _⟩
      obtain ⟨g, o, rfl, _, hc⟩ := ro_at HL.out (by omega)
      obtain ⟨e0, _⟩ := hc k x hx
      have HX := Lib.hid hx
      have hk8 : (k : Int) < (n : Int) := by omega
      have hk9 : (0 : Int) ≤ (k : Int) := by omega
      clear hx hc
      by_cases he : x.name = nm
      · have q1 : (x.name.toList == nm.toList) = true := (beq_list _ _).2 he
        have HF : Hid (FindIs l nm k) := Lib.hid (Or.inr ⟨k, x, rfl, HX.out, findR_at HX.out he hno.out⟩)
        clear he
        go_wp2_with fail
        go_ret
        exact ⟨k, rfl, HF.out, rfl⟩
      · have q1 : (x.name.toList == nm.toList) = false := Bool.eq_false_iff.2 (fun e => he ((beq_list _ _).1 e))
        have HE := Lib.hid he
        clear he
        go_wp2_with fail
        go_roundw
        case rel =>
          refine ⟨k + 1, by omega, by go_num, Lib.hid (fun j y hj hy => ?_), by first | rfl | trivial⟩
          by_cases e : j = k
          · subst e
            rw [HX.out] at hy
            cases hy
            exact HE.out
          · exact hno.out j y (by omega) hy
        case measure => simp [intOf]; omega
    · obtain rfl : n = k := by omega
      have HF : Hid (FindIs l nm (-1)) := Lib.hid (Or.inl ⟨rfl, findR_no (fun j x hj => hno.out j x (by have := (List.getElem?_eq_some_iff.1 hj).1; rw [HN.out] at this; exact this) hj)⟩)
      go_wp2_with fail
      go_ret
      exact ⟨-1, rfl, HF.out, by first | rfl | trivial⟩

theorem ro_take' (l : List Ro) (k : Nat) : (l.flatMap roC).take (k * 5) = (l.take k).flatMap roC := by
  induction k generalizing l with
  | zero => simp
  | succ k ih =>
    cases l with
    | nil => simp
    | cons a l =>
      rw [List.flatMap_cons, List.take_succ_cons, List.flatMap_cons, ← ih l, show (k + 1) * 5 = 5 + k * 5 from by omega, List.take_append, roC_len, show 5 + k * 5 - 5 = k * 5 from by omega, List.take_of_length_le (by rw [roC_len]; omega)]
/-- So far all may be. -/
def OkTo (l : List Ro) (k : Nat) : Prop := (∀ r ∈ l.take k, mayR r = true) ∧ ((l.take k).map (·.name)).Nodup
theorem OkTo.next {l : List Ro} {k : Nat} {r : Ro} (h : OkTo l k) (hr : l[k]? = some r) (hm : mayR r = true) (hf : findR (l.take k) r.name = none) : OkTo l (k + 1) := by
  unfold OkTo
  rw [take_snoc hr]
  refine ⟨fun x hx => ?_, ?_⟩
  · rcases List.mem_append.1 hx with h1 | h1
    · exact h.1 x h1
    · rw [List.mem_singleton] at h1
      subst h1
      exact hm
  · rw [List.map_append, List.nodup_append]
    refine ⟨h.2, by simp, fun a ha b hb => ?_⟩
    rw [List.map_cons, List.map_nil, List.mem_singleton] at hb
    subst hb
    intro e
    subst e
    have := findR_isSome.2 ha
    rw [hf] at this
    cases this
theorem okL_bad {l : List Ro} {k : Nat} {r : Ro} (hr : l[k]? = some r) (hm : mayR r = false) : okL l = false := by
  cases h : okL l
  · rfl
  · have := ((okL_iff l).1 h).1 r (List.mem_of_getElem? hr)
    rw [hm] at this
    cases this
theorem okL_two {l : List Ro} {k : Nat} {r : Ro} (hr : l[k]? = some r) {r' : Ro} (hf : findR (l.take k) r.name = some r') : okL l = false := by
  cases h : okL l
  · rfl
  · have h1 := ((okL_iff l).1 h).2.1
    obtain ⟨h2, h3⟩ := findR_some hf
    have h4 := take_snoc hr
    have h5 : ((l.take (k + 1)).map (·.name)).Nodup := by
      rw [List.map_take]
      exact h1.sublist (List.take_sublist _ _)
    rw [h4, List.map_append, List.nodup_append] at h5
    exact absurd rfl (h5.2.2 r'.name (List.mem_map.2 ⟨r', h2, rfl⟩) r'.name (by rw [h3]; simp))



end Go.Proofs.YtikbckpphkpaiaaGreatDoor
