/- Texts and Ints of the document. -/
import Derived.Test.YtpnfnmpohacnoaaDoorHolds
namespace Go.Proofs.YtpnfnmpohacnoaaDoor
open Go.Shelf Go.RowKit Go.Maps
set_option linter.unusedVariables false

set_option maxHeartbeats 1000000 in
set_option maxRecDepth 100000 in
/-- Are two lists the same? -/
theorem texts_any (w : World) (A A' : Option Addr) (l l' : List ByteArray) (n m c c' B B' : Nat) (hn : l.length = n) (hm : l'.length = m) (hl : RowIn w B 1 A n (l.map Value.string)) (hl' : RowIn w B' 1 A' m (l'.map Value.string)) (hb : n ≤ 1000000) :
    Calls Tryd.prog 14 #[.slice A n c, .slice A' m c'] w fun e w' => ∃ b : Bool, e = .returned (.bool b) ∧ (b = true ↔ l = l') ∧ ∃ q, w' = w.drewN q := by
  have HN := Lib.hid hn
  have HM := Lib.hid hm
  have HL := Lib.hid hl
  have HL' := Lib.hid hl'
  clear hn hm hl hl'
  by_cases hnm : n = m
  · subst hnm
    go_enter Tryd.func14, Tryd.ntmps14
    go_wp2_with fail
    go_loopw [5] (fun i wr => ∃ k q : Nat, k ≤ n ∧ i = .int .i64 k ∧ Hid (∀ j, j < k → l[j]? = l'[j]?) ∧ wr = w.drewN q) (fun i _ => n - (intOf i).toNat)
    case atStart => exact ⟨0, 0, Nat.zero_le _, rfl, Lib.hid (fun j hj => by omega), rfl⟩
    case round =>
      obtain ⟨k, q, hk, rfl, hok, rfl⟩ := hrel
      by_cases hlt : k < n
      · obtain ⟨x, hx⟩ : ∃ x, l[k]? = some x := ⟨l[k]'(by rw [HN.out]; exact hlt), List.getElem?_eq_getElem _⟩
        obtain ⟨y, hy⟩ : ∃ y, l'[k]? = some y := ⟨l'[k]'(by rw [HM.out]; exact hlt), List.getElem?_eq_getElem _⟩
        obtain ⟨g, o, rfl, _, hc⟩ := HL.out.at (by omega)
        obtain ⟨g', o', rfl, _, hc'⟩ := HL'.out.at (by omega)
        have e0 : w.cell? ⟨g, o + k, none⟩ = some (Value.string x) := hc k _ (by simp [hx])
        have e1 : w.cell? ⟨g', o' + k, none⟩ = some (Value.string y) := hc' k _ (by simp [hy])
        have HX := Lib.hid hx
        have HY := Lib.hid hy
        have hk8 : (k : Int) < (n : Int) := by omega
        have hk9 : (0 : Int) ≤ (k : Int) := by omega
        clear hx hy hc hc'
        by_cases he : x = y
        · have HQ := Lib.hid he
          have q1 : (x.toList == y.toList) = true := (beq_list x y).2 he
          have q2 : (x.toList != y.toList) = false := by simp [he]
          clear he
          go_wp2_with fail
          go_quiet (fail)
          go_wp2_with fail
          go_roundw
          case rel =>
            refine ⟨k + 1, q + nq, by omega, by go_num, Lib.hid (fun j hj => ?_), by first | rfl | simp⟩
            by_cases e : j = k
            · subst e; rw [HX.out, HY.out, HQ.out]
            · exact hok.out j (by omega)
          case measure => simp [intOf]; omega
        · have HQ := Lib.hid he
          have q1 : (x.toList == y.toList) = false := Bool.eq_false_iff.2 (fun e => he ((beq_list x y).1 e))
          have q2 : (x.toList != y.toList) = true := by unfold bne; rw [q1]; rfl
          clear he
          go_wp2_with fail
          go_quiet (fail)
          go_wp2_with fail
          go_ret
          refine ⟨false, rfl, ⟨fun h => (by cases h), fun h => ?_⟩, q + nq, by first | rfl | simp⟩
          subst h
          have h1 := HX.out
          rw [HY.out] at h1
          exact absurd (Option.some.inj h1).symm HQ.out
      · obtain rfl : n = k := by omega
        go_wp2_with fail
        go_ret
        refine ⟨true, rfl, ⟨fun _ => List.ext_getElem? (fun j => ?_), fun _ => rfl⟩, q, rfl⟩
        by_cases hj : j < n
        · exact hok.out j hj
        · rw [List.getElem?_eq_none (by rw [HN.out]; omega), List.getElem?_eq_none (by rw [HM.out]; omega)]
  · have b0 : ((n : Int) != (m : Int)) = true := by rw [bne_iff_ne]; omega
    have HNM := Lib.hid hnm
    go_enter Tryd.func14, Tryd.ntmps14
    go_wp2_with fail
    go_ret
    refine ⟨false, rfl, ⟨fun h => (by cases h), fun h => ?_⟩, 0, rfl⟩
    subst h
    exact absurd (HN.out.symm.trans HM.out) HNM.out

set_option maxHeartbeats 1000000 in
set_option maxRecDepth 100000 in
/-- Are two lists the same? -/
theorem ints_any (w : World) (A A' : Option Addr) (l l' : List Int) (n m c c' B B' : Nat) (hn : l.length = n) (hm : l'.length = m) (hl : RowIn w B 1 A n (l.map (Value.int .i64))) (hl' : RowIn w B' 1 A' m (l'.map (Value.int .i64))) (hb : n ≤ 1000000) :
    Calls Tryd.prog 22 #[.slice A n c, .slice A' m c'] w fun e w' => ∃ b : Bool, e = .returned (.bool b) ∧ (b = true ↔ l = l') ∧ ∃ q, w' = w.drewN q := by
  have HN := Lib.hid hn
  have HM := Lib.hid hm
  have HL := Lib.hid hl
  have HL' := Lib.hid hl'
  clear hn hm hl hl'
  by_cases hnm : n = m
  · subst hnm
    go_enter Tryd.func22, Tryd.ntmps22
    go_wp2_with fail
    go_loopw [5] (fun i wr => ∃ k q : Nat, k ≤ n ∧ i = .int .i64 k ∧ Hid (∀ j, j < k → l[j]? = l'[j]?) ∧ wr = w.drewN q) (fun i _ => n - (intOf i).toNat)
    case atStart => exact ⟨0, 0, Nat.zero_le _, rfl, Lib.hid (fun j hj => by omega), rfl⟩
    case round =>
      obtain ⟨k, q, hk, rfl, hok, rfl⟩ := hrel
      by_cases hlt : k < n
      · obtain ⟨x, hx⟩ : ∃ x, l[k]? = some x := ⟨l[k]'(by rw [HN.out]; exact hlt), List.getElem?_eq_getElem _⟩
        obtain ⟨y, hy⟩ : ∃ y, l'[k]? = some y := ⟨l'[k]'(by rw [HM.out]; exact hlt), List.getElem?_eq_getElem _⟩
        obtain ⟨g, o, rfl, _, hc⟩ := HL.out.at (by omega)
        obtain ⟨g', o', rfl, _, hc'⟩ := HL'.out.at (by omega)
        have e0 : w.cell? ⟨g, o + k, none⟩ = some ((Value.int .i64) x) := hc k _ (by simp [hx])
        have e1 : w.cell? ⟨g', o' + k, none⟩ = some ((Value.int .i64) y) := hc' k _ (by simp [hy])
        have HX := Lib.hid hx
        have HY := Lib.hid hy
        have hk8 : (k : Int) < (n : Int) := by omega
        have hk9 : (0 : Int) ≤ (k : Int) := by omega
        clear hx hy hc hc'
        cases hq : (x != y)
        · have HQ : Hid (x = y) := Lib.hid (by simpa using hq)
          go_wp2_with fail
          go_quiet (fail)
          go_wp2_with fail
          go_roundw
          case rel =>
            refine ⟨k + 1, q + nq, by omega, by go_num, Lib.hid (fun j hj => ?_), by first | rfl | simp⟩
            by_cases e : j = k
            · subst e; rw [HX.out, HY.out, HQ.out]
            · exact hok.out j (by omega)
          case measure => simp [intOf]; omega
        · have HQ : Hid (x ≠ y) := Lib.hid (by simpa using hq)
          go_wp2_with fail
          go_quiet (fail)
          go_wp2_with fail
          go_ret
          refine ⟨false, rfl, ⟨fun h => (by cases h), fun h => ?_⟩, q + nq, by first | rfl | simp⟩
          subst h
          have h1 := HX.out
          rw [HY.out] at h1
          exact absurd (Option.some.inj h1).symm HQ.out
      · obtain rfl : n = k := by omega
        go_wp2_with fail
        go_ret
        refine ⟨true, rfl, ⟨fun _ => List.ext_getElem? (fun j => ?_), fun _ => rfl⟩, q, rfl⟩
        by_cases hj : j < n
        · exact hok.out j hj
        · rw [List.getElem?_eq_none (by rw [HN.out]; omega), List.getElem?_eq_none (by rw [HM.out]; omega)]
  · have b0 : ((n : Int) != (m : Int)) = true := by rw [bne_iff_ne]; omega
    have HNM := Lib.hid hnm
    go_enter Tryd.func22, Tryd.ntmps22
    go_wp2_with fail
    go_ret
    refine ⟨false, rfl, ⟨fun h => (by cases h), fun h => ?_⟩, 0, rfl⟩
    subst h
    exact absurd (HN.out.symm.trans HM.out) HNM.out

end Go.Proofs.YtpnfnmpohacnoaaDoor
