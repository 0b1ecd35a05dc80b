/- event.listing. -/
import Derived.Test.YtikbckpphkpaiaaDoorEv
namespace Go.Proofs.YtikbckpphkpaiaaDoor
open Go.Shelf Go.RowKit Go.Maps
set_option linter.unusedVariables false

def ltB (a b : ByteArray) : Bool := Op.bytesLess a.toList b.toList
/-- Names, rising? -/
def riseB : List ByteArray → Bool
  | [] => true
  | [x] => nameB x
  | x :: y :: l => nameB x && (ltB x y && riseB (y :: l))
/-- Is the k-th a name, and above the one ahead of it? -/
def okAt (l : List ByteArray) (k : Nat) : Prop := ∀ t, l[k]? = some t → nameB t = true ∧ ∀ u, 0 < k → l[k - 1]? = some u → ltB u t = true
theorem rise_of : ∀ (l : List ByteArray), riseB l = true ↔ ∀ k, okAt l k
  | [] => by simp [riseB, okAt]
  | [x] => by
    constructor
    · intro h k t ht
      rcases k with _ | k
      · simp at ht; subst ht; exact ⟨h, fun u h0 => by omega⟩
      · simp at ht
    · intro h; exact (h 0 x rfl).1
  | x :: y :: l => by
    have ih := rise_of (y :: l)
    constructor
    · intro h k t ht
      simp only [riseB, Bool.and_eq_true] at h
      rcases k with _ | k
      · simp at ht; subst ht; exact ⟨h.1, fun u h0 => by omega⟩
      · have h2 := (ih.1 h.2.2) k t (by simpa using ht)
        refine ⟨h2.1, fun u _ hu => ?_⟩
        rcases k with _ | k
        · simp at ht hu; subst ht hu; exact h.2.1
        · exact h2.2 u (by omega) (by simpa using hu)
    · intro h
      simp only [riseB, Bool.and_eq_true]
      refine ⟨(h 0 x rfl).1, (h 1 y rfl).2 x (by omega) rfl, ih.2 fun k t ht => ?_⟩
      have h2 := h (k + 1) t (by simpa using ht)
      refine ⟨h2.1, fun u h0 hu => h2.2 u (by omega) ?_⟩
      rcases k with _ | k
      · omega
      · simpa using hu
/-- Is a text that of a listing? -/
def listB (s : ByteArray) : Bool := cutsP s && (nameB (headP s) && (decide ((evTags s).length ≤ 8) && riseB (evTags s)))

theorem head_le (s : ByteArray) : (headP s).size ≤ s.size := by
  show (Lib.cut s.data.toList [59]).1.toArray.size ≤ s.data.size
  unfold Lib.cut
  split <;> simp
  exact Nat.min_le_right _ _
theorem below_drewN {B : Nat} {w w' : World} (h : Below B w w') (n : Nat) : Below B w (w'.drewN n) := ⟨h.os, h.tape, h.output, h.size, h.block⟩
theorem below_from {B : Nat} {w w' : World} (n : Nat) (h : Below B (w.drewN n) w') : Below B w w' := ⟨h.os, h.tape, h.output, h.size, h.block⟩

theorem split_le (sep : ByteArray) : ∀ (k : Nat) (s : ByteArray), ∀ t ∈ Lib.splitB sep 0 k s, t.size ≤ s.size
  | 0, s => by simp [Lib.splitB]
  | k + 1, s => by
    unfold Lib.splitB
    split
    · simp
    · intro t ht
      rcases List.mem_cons.1 ht with rfl | ht
      · rw [ByteArray.size_extract]; omega
      · have := split_le sep k _ t ht
        rw [ByteArray.size_extract] at this
        omega
theorem parts_le (s : ByteArray) : ∀ t ∈ evTags s, t.size ≤ s.size := by
  intro t ht
  unfold evTags at ht
  split at ht
  · cases ht
  · have := split_le _ _ _ t ht
    have := cut_le s
    omega

set_option maxHeartbeats 2000000 in
set_option maxRecDepth 100000 in
theorem listing_any (s : ByteArray) (w : World) (hs : s.size < 4294967281) (hg : GlobAt w) :
    Calls Tryd.prog 59 #[.string s] w fun e w' => e = .returned (.bool (listB s)) ∧ Below w.heap.size w w' := by
  have HC := Lib.hid (cut_any s w hs hg)
  have hle := head_le s
  have HP := Lib.hid (parts_le s)
  have HL : Hid (listB s = (cutsP s && (nameB (headP s) && (decide ((evTags s).length ≤ 8) && riseB (evTags s))))) := Lib.hid rfl
  go_enter Tryd.func59, Tryd.ntmps59
  go_wp2_with fail
  refine HC.out.mono ?_
  rintro e w1 ⟨rfl, q, rfl⟩
  clear HC
  cases hcut : cutsP s
  · have HCT := Lib.hid hcut
    clear hcut
    go_wp2_with fail
    go_ret
    exact ⟨ret_bool (by rw [HL.out, HCT.out]; rfl), below_drewN (Below.refl _ _) _⟩
  · have HCT := Lib.hid hcut
    have HN := Lib.hid (name_any (headP s) (w.drewN q) (by unfold maxLen; omega))
    have HT := Lib.hid (evtags_any s (w.drewN q) hs (hg.drewN q))
    clear hcut hg
    generalize headP s = h at *
    go_wp2_with fail
    refine HN.out.mono ?_
    rintro e w1 ⟨rfl, rfl⟩
    clear HN
    cases hn : nameB h
    · have HNM := Lib.hid hn
      clear hn
      go_wp2_with fail
      go_ret
      exact ⟨ret_bool (by rw [HL.out, HCT.out, HNM.out]; rfl), below_drewN (Below.refl _ _) _⟩
    · have HNM := Lib.hid hn
      clear hn
      go_wp2_with fail
      refine HT.out.mono ?_
      rintro e w2 ⟨A, c, rfl, hrow, hnil, hb2⟩
      clear HT
      have HB2 : Hid (Below w.heap.size w w2) := Lib.hid (below_from q hb2)
      generalize evTags s = l at *
      obtain ⟨n, hn⟩ : ∃ n, l.length = n := ⟨_, rfl⟩
      rw [hn] at hrow ⊢
      have HLN := Lib.hid hn
      have HR := Lib.hid hrow
      clear hrow hb2 hn
      by_cases h8 : n ≤ 8
      · go_wp2_with fail
        go_loopw [29] (fun i wr => ∃ k : Nat, k ≤ n ∧ i = .int .i64 k ∧ Hid (∀ j, j < k → okAt l j) ∧ wr = w2) (fun i _ => n - (intOf i).toNat)
        case atStart => exact ⟨0, Nat.zero_le _, rfl, Lib.hid (fun j hj => by omega), rfl⟩
        case round =>
          obtain ⟨k, hk, rfl, hok, rfl⟩ := hrel
          by_cases hlt : k < n
          · obtain ⟨t, ht⟩ : ∃ t, l[k]? = some t := ⟨l[k]'(by rw [HLN.out]; exact hlt), List.getElem?_eq_getElem _⟩
            obtain ⟨g, o, rfl, _, hc⟩ := HR.out.at (by omega)
            have e0 : wr.cell? ⟨g, o + k, none⟩ = some (.string t) := hc k _ (by simp [ht])
            have hts := HP.out t (List.mem_of_getElem? ht)
            have HN := Lib.hid (name_any t wr (by unfold maxLen; omega))
            have HTK := Lib.hid ht
            have hk8 : (k : Int) < (n : Int) := by omega
            have hk9 : (0 : Int) ≤ (k : Int) := by omega
            cases hn : nameB t
            · have HNT := Lib.hid hn
              rw [hn] at HN
              clear hn ht hc
              go_wp2_with fail
              refine HN.out.mono ?_
              rintro e w3 ⟨rfl, rfl⟩
              clear HN
              go_wp2_with fail
              go_ret
              refine ⟨ret_bool ?_, HB2.out⟩
              have hr : riseB l = false := by
                cases hr : riseB l
                · rfl
                · have := ((rise_of l).1 hr k t HTK.out).1
                  rw [HNT.out] at this; cases this
              rw [HL.out, hr]; simp
            · have HNT := Lib.hid hn
              rw [hn] at HN
              by_cases hk0 : k = 0
              · subst hk0
                rw [Nat.add_zero] at e0
                clear hn ht hc
                go_wp2_with fail
                refine HN.out.mono ?_
                rintro e w3 ⟨rfl, rfl⟩
                clear HN
                go_wp2_with fail
                go_roundw
                case rel =>
                  refine ⟨1, by omega, by go_num, Lib.hid (fun j hj => ?_), by trivial⟩
                  obtain rfl : j = 0 := by omega
                  intro t' ht'
                  rw [HTK.out] at ht'
                  cases ht'
                  exact ⟨HNT.out, fun u h0 => by omega⟩
                case measure => simp [intOf]; omega
              · obtain ⟨u, hu⟩ : ∃ u, l[k - 1]? = some u := ⟨l[k - 1]'(by rw [HLN.out]; omega), List.getElem?_eq_getElem _⟩
                have e1 : wr.cell? ⟨g, o + (k - 1), none⟩ = some (.string u) := hc (k - 1) _ (by simp [hu])
                have HU := Lib.hid hu
                have hkk : ((k : Int) - 1).toNat = k - 1 := by omega
                have hk1 : decide ((0 : Int) < (k : Int)) = true := decide_eq_true (by omega)
                have hk2 : (0 : Int) ≤ (k : Int) - 1 := by omega
                have hk3 : (k : Int) - 1 < (n : Int) := by omega
                clear hn ht hc hu
                cases hlt2 : Op.bytesLess u.toList t.toList
                · have HLT := Lib.hid hlt2
                  go_wp2_with fail
                  refine HN.out.mono ?_
                  rintro e w3 ⟨rfl, rfl⟩
                  clear HN
                  go_wp2_with fail
                  go_ret
                  refine ⟨ret_bool ?_, HB2.out⟩
                  have hr : riseB l = false := by
                    cases hr : riseB l
                    · rfl
                    · have := ((rise_of l).1 hr k t HTK.out).2 u (by omega) HU.out
                      unfold ltB at this
                      rw [HLT.out] at this; cases this
                  rw [HL.out, hr]; simp
                · have HLT := Lib.hid hlt2
                  go_wp2_with fail
                  refine HN.out.mono ?_
                  rintro e w3 ⟨rfl, rfl⟩
                  clear HN
                  go_wp2_with fail
                  go_roundw
                  case rel =>
                    refine ⟨k + 1, by omega, by go_num, Lib.hid (fun j hj => ?_), by trivial⟩
                    by_cases e : j = k
                    · subst e
                      intro t' ht'
                      rw [HTK.out] at ht'
                      cases ht'
                      refine ⟨HNT.out, fun u' _ hu' => ?_⟩
                      rw [HU.out] at hu'
                      cases hu'
                      exact HLT.out
                    · exact hok.out j (by omega)
                  case measure => simp [intOf]; omega
          · go_wp2_with fail
            go_ret
            refine ⟨ret_bool ?_, HB2.out⟩
            have hr : riseB l = true := (rise_of l).2 (fun j => by
              by_cases hj : j < k
              · exact hok.out j hj
              · intro t ht
                have := (List.getElem?_eq_some_iff.1 ht).1
                rw [HLN.out] at this
                omega)
            rw [HL.out, hr, HCT.out, HNM.out, HLN.out]
            simp [h8]
      · go_wp2_with fail
        go_ret
        refine ⟨ret_bool ?_, HB2.out⟩
        rw [HL.out, HLN.out]
        simp [h8]

end Go.Proofs.YtikbckpphkpaiaaDoor
