/- The document's place, Maker, behind. -/
import Derived.Test.YtikbckpphkpaiaaDoorCatO
import Derived.Test.YtikbckpphkpaiaaDoorItB
namespace Go.Proofs.YtikbckpphkpaiaaDoor
open Go.Shelf Go.RowKit Go.Maps
set_option linter.unusedVariables false

theorem idx_hit : ∀ (s : List UInt8) (k : Nat), s[k]? = some 59 → (∀ j b, j < k → s[j]? = some b → b ≠ 59) → Lib.index s [59] = k
  | [], k, h, _ => by simp at h
  | b :: s, 0, h, _ => by
    simp at h
    subst h
    simp [Lib.index]
  | b :: s, k + 1, h, hn => by
    have hb : b ≠ 59 := hn 0 b (by omega) rfl
    have ih := idx_hit s k (by simpa using h) (fun j c hj hc => hn (j + 1) c (by omega) (by simpa using hc))
    unfold Lib.index
    rw [ih]
    simp [List.isPrefixOf, Ne.symm hb]
theorem idx_miss : ∀ (s : List UInt8), (∀ (j : Nat) b, s[j]? = some b → b ≠ 59) → Lib.index s [59] = -1
  | [], _ => by simp [Lib.index]
  | b :: s, hn => by
    have hb : b ≠ 59 := hn 0 b rfl
    have ih := idx_miss s (fun j c hc => hn (j + 1) c (by simpa using hc))
    unfold Lib.index
    rw [ih]
    simp [List.isPrefixOf, Ne.symm hb]

/-- Where the first ; stands. -/
def semiAt (s : ByteArray) (k : Nat) : Prop := s.data.toList[k]? = some 59 ∧ ∀ j b, j < k → s.data.toList[j]? = some b → b ≠ 59
theorem cut_hit {s : ByteArray} {k : Nat} (h : semiAt s k) : headP s = s.extract 0 k ∧ restP s = s.extract (k + 1) s.size ∧ cutsP s = true := by
  have hi := idx_hit s.data.toList k h.1 h.2
  have hk := (List.getElem?_eq_some_iff.1 h.1).1
  unfold headP restP cutsP Lib.cut
  rw [hi, if_pos (by omega)]
  refine ⟨?_, ?_, rfl⟩
  · apply ba_eq
    simp
  · apply ba_eq
    simp
    exact (List.take_of_length_le (by simp)).symm
def semiNo (s : ByteArray) : Prop := ∀ (j : Nat) b, s.data.toList[j]? = some b → b ≠ 59
theorem cut_miss {s : ByteArray} (h : semiNo s) : headP s = s ∧ restP s = ⟨#[]⟩ ∧ cutsP s = false := by
  have hi := idx_miss s.data.toList h
  unfold headP restP cutsP Lib.cut
  rw [hi, if_neg (by omega)]
  exact ⟨ba_eq (by simp), rfl, rfl⟩

set_option maxHeartbeats 1000000 in
set_option maxRecDepth 100000 in
theorem place_any (s : ByteArray) (w : World) (hs : s.size ≤ 281474976710656) :
    Calls Tryd.prog 81 #[.string s] w fun e w' => ∃ r : Int, e = .returned (.int .i64 r) ∧ ((∃ k : Nat, r = k ∧ k < s.size ∧ semiAt s k) ∨ (r = -1 ∧ semiNo s)) ∧ w = w' := by
  go_enter Tryd.func81, Tryd.ntmps81
  go_wp2
  go_loop [3] (fun i => ∃ k : Nat, k ≤ s.size ∧ i = .int .i64 k ∧ Hid (∀ j b, j < k → s.data.toList[j]? = some b → b ≠ 59)) (fun i => s.size - (intOf i).toNat)
  case atStart => exact ⟨0, Nat.zero_le _, rfl, Lib.hid (fun j b h => by omega)⟩
  case round =>
    obtain ⟨k, hk, rfl, hno⟩ := hrel
    by_cases hlt : k < s.size
    · have HB : Hid (s.data.toList[k]? = some (s[k]'hlt)) := Lib.hid (by
        rw [List.getElem?_eq_getElem (by simpa using hlt)]
        rfl)
      by_cases hq : (s[k]'hlt) = 59
      · have HQ := Lib.hid hq
        have q1 : ((s[k]'hlt).toNat : Int) = 59 := by rw [hq]; rfl
        clear hq
        go_wp2
        all_goals first
          | (go_ret; exact ⟨(k : Int), rfl, Or.inl ⟨k, rfl, hlt, by rw [HB.out, HQ.out], hno.out⟩, rfl⟩)
          | (exfalso; simp_all)
      · have HQ := Lib.hid hq
        have q1 : ¬ ((s[k]'hlt).toNat : Int) = 59 := fun e => hq (by
          apply UInt8.toNat_inj.1
          show (s[k]'hlt).toNat = 59
          omega)
        clear hq
        go_wp2
        all_goals first
          | (go_round
             case rel =>
              refine ⟨k + 1, by omega, by go_num, Lib.hid (fun j b hj hb => ?_)⟩
              by_cases e : j = k
              · subst e
                rw [HB.out] at hb
                cases hb
                exact HQ.out
              · exact hno.out j b (by omega) hb
             case measure => simp [intOf]; omega)
          | (exfalso; simp_all)
    · go_wp2
      go_ret
      refine ⟨-1, rfl, Or.inr ⟨rfl, fun j b hb => hno.out j b ?_ hb⟩, rfl⟩
      have := (List.getElem?_eq_some_iff.1 hb).1
      simp at this
      omega

set_option maxHeartbeats 1000000 in
set_option maxRecDepth 100000 in
theorem rmaker_any (s : ByteArray) (w : World) (hs : s.size ≤ 281474976710656) :
    Calls Tryd.prog 56 #[.string s] w fun e w' => e = .returned (.string (headP s)) ∧ w = w' := by
  have HP := Lib.hid (place_any s w hs)
  go_enter Tryd.func56, Tryd.ntmps56
  go_wp2_with fail
  refine HP.out.mono ?_
  rintro e w1 ⟨r, rfl, hr, rfl⟩
  clear HP
  rcases hr with ⟨k, rfl, hk, hsm⟩ | ⟨rfl, hno⟩
  · have HC := Lib.hid (cut_hit hsm).1
    have hk8 : (0 : Int) ≤ (k : Int) := by omega
    have hk9 : (k : Int) ≤ (s.size : Int) := by omega
    clear hsm
    go_wp2_with fail
    go_ret
    exact ⟨by rw [HC.out]; rfl, rfl⟩
  · have HC := Lib.hid (cut_miss hno).1
    clear hno
    go_wp2_with fail
    go_ret
    exact ⟨by rw [HC.out]; rfl, rfl⟩

set_option maxHeartbeats 1000000 in
set_option maxRecDepth 100000 in
theorem behind_any (s : ByteArray) (w : World) (hs : s.size ≤ 281474976710656) :
    Calls Tryd.prog 57 #[.string s] w fun e w' => e = .returned (.string (restP s)) ∧ w = w' := by
  go_enter Tryd.func57, Tryd.ntmps57
  go_wp2
  go_loop [3] (fun i => ∃ k : Nat, k ≤ s.size ∧ i = .int .i64 k ∧ Hid (∀ j b, j < k → s.data.toList[j]? = some b → b ≠ 59)) (fun i => s.size - (intOf i).toNat)
  case atStart => exact ⟨0, Nat.zero_le _, rfl, Lib.hid (fun j b h => by omega)⟩
  case round =>
    obtain ⟨k, hk, rfl, hno⟩ := hrel
    by_cases hlt : k < s.size
    · have HB : Hid (s.data.toList[k]? = some (s[k]'hlt)) := Lib.hid (by
        rw [List.getElem?_eq_getElem (by simpa using hlt)]
        rfl)
      by_cases hq : (s[k]'hlt) = 59
      · have HQ := Lib.hid hq
        have q1 : ((s[k]'hlt).toNat : Int) = 59 := by rw [hq]; rfl
        have HC := Lib.hid (cut_hit (s := s) (k := k) ⟨by rw [HB.out, HQ.out], hno.out⟩).2.1
        have hk8 : (0 : Int) ≤ (k : Int) + 1 := by omega
        have hk9 : (k : Int) + 1 ≤ (s.size : Int) := by omega
        clear hq
        go_wp2
        all_goals first
          | (go_ret; exact ⟨by rw [HC.out]; rfl, rfl⟩)
          | (exfalso; simp_all)
      · have HQ := Lib.hid hq
        have q1 : ¬ ((s[k]'hlt).toNat : Int) = 59 := fun e => hq (by
          apply UInt8.toNat_inj.1
          show (s[k]'hlt).toNat = 59
          omega)
        clear hq
        go_wp2
        all_goals first
          | (go_round
             case rel =>
              refine ⟨k + 1, by omega, by go_num, Lib.hid (fun j b hj hb => ?_)⟩
              by_cases e : j = k
              · subst e
                rw [HB.out] at hb
                cases hb
                exact HQ.out
              · exact hno.out j b (by omega) hb
             case measure => simp [intOf]; omega)
          | (exfalso; simp_all)
    · have HC : Hid (restP s = ⟨#[]⟩) := Lib.hid (cut_miss (fun j b hb => hno.out j b (by
        have := (List.getElem?_eq_some_iff.1 hb).1
        simp at this
        omega) hb)).2.1
      go_wp2
      go_ret
      exact ⟨by rw [HC.out]; rfl, rfl⟩

end Go.Proofs.YtikbckpphkpaiaaDoor
