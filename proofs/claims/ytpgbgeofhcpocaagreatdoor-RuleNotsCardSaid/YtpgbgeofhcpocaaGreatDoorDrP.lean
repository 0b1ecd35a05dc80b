/- The document of rules: a name, a number: plain; its Name, Split. -/
import Derived.Test.YtpgbgeofhcpocaaGreatDoorRuT2
namespace Go.Proofs.YtpgbgeofhcpocaaGreatDoor
open Go.RowKit Go.Maps Go.Shelf
set_option linter.unusedVariables false

theorem dec_dig (n : Nat) : Lib.decFrom 0 (Lib.decDigits n) = some n := dec_dig' n
theorem decFrom_snoc (b : UInt8) (d : Nat) (hb : Lib.digitVal b = some d) (l : List UInt8) (acc n : Nat) (h : Lib.decFrom acc l = some n) : Lib.decFrom acc (l ++ [b]) = some (n * 10 + d) := decFrom_snoc' b d hb l acc n h
theorem emp_iff (t : ByteArray) : t.toList.isEmpty = decide (t = ⟨#[]⟩) := by
  rw [Lib.toList_data]
  by_cases h : t = ⟨#[]⟩
  · subst h; rfl
  · rw [decide_eq_false h]
    cases hl : t.data.toList with
    | nil => exact absurd (ba_ext hl) h
    | cons a r => rfl
/-- What the document's number of a word is. -/
def NumIs (w : ByteArray) (i : Int) : Prop := (i = -1 ∧ ∀ n : Nat, n ≤ 1099511627776 → w.data.toList ≠ Lib.decDigits n) ∨ ∃ n : Nat, i = n ∧ n ≤ 1099511627776 ∧ w.data.toList = Lib.decDigits n

theorem size_pos {s : ByteArray} (h : s ≠ ⟨#[]⟩) : 1 ≤ s.size := by
  rcases Nat.eq_zero_or_pos s.size with h0 | h0
  · exact absurd (ba_ext (List.eq_nil_of_length_eq_zero (by rw [Array.length_toList]; exact h0))) h
  · exact h0
set_option maxHeartbeats 1000000 in
set_option maxRecDepth 100000 in
theorem rname_any (s : ByteArray) (w : World) (hs : s.size ≤ 1000000) :
    Calls Tryz.prog 61 #[.string s] w fun e w' => e = .returned (.bool (nameB s)) ∧ w = w' := by
  go_enter Tryz.func61, Tryz.ntmps61
  go_wp2
  go_loop [3] (fun i => ∃ k : Nat, k ≤ s.size ∧ i = .int .i64 k ∧ Hid (∀ (j : Nat) (hj : j < s.size), j < k → okN (s[j].toNat : Int))) (fun i => s.size - (intOf i).toNat)
  case atStart => exact ⟨0, Nat.zero_le _, rfl, Lib.hid (fun j _ h => by omega)⟩
  case round =>
    obtain ⟨k, hk, rfl, hok⟩ := hrel
    by_cases hlt : k < s.size
    · have HADD : Hid (okN (s[k].toNat : Int) → ∀ (j : Nat) (hj : j < s.size), j < k + 1 → okN (s[j].toNat : Int)) := Lib.hid (fun h j hj h2 => by
        by_cases e : j = k
        · subst e; exact h
        · exact hok.out j hj (by omega))
      have HNO : Hid (¬ okN (s[k].toNat : Int) → nameB s = false) := Lib.hid (fun h => name_no hlt h)
      go_wp2
      all_goals first
        | (go_ret; exact ⟨ret_bool (HNO.out (by unfold okN; first | omega | (simp_all <;> omega))).symm, rfl⟩)
        | (go_round
           case rel => exact ⟨k + 1, by omega, by go_num, Lib.hid (HADD.out (by unfold okN; first | omega | (simp_all <;> omega)))⟩
           case measure => simp [intOf]; omega)
    · have HF : Hid (nameB s = decide (1 ≤ s.size ∧ s.size ≤ 24)) := Lib.hid (by
        by_cases h : 1 ≤ s.size ∧ s.size ≤ 24
        · rw [decide_eq_true h]; exact name_all h.1 h.2 (fun j hj => hok.out j hj (by omega))
        · rw [decide_eq_false h]; exact name_len h)
      by_cases h1 : 1 ≤ s.size
      · have d1 : (1 : Int) ≤ (s.size : Int) := by omega
        by_cases h2 : s.size ≤ 24
        · have d2 : (s.size : Int) ≤ 24 := by omega
          have HF2 : Hid (nameB s = true) := Lib.hid (by rw [HF.out, decide_eq_true ⟨h1, h2⟩])
          go_wp2
          go_ret
          exact ⟨ret_bool HF2.out.symm, rfl⟩
        · have d2 : ¬ (s.size : Int) ≤ 24 := by omega
          have HF2 : Hid (nameB s = false) := Lib.hid (by rw [HF.out, decide_eq_false (fun h => h2 h.2)])
          go_wp2
          go_ret
          exact ⟨ret_bool HF2.out.symm, rfl⟩
      · have d1 : ¬ (1 : Int) ≤ (s.size : Int) := by omega
        have HF2 : Hid (nameB s = false) := Lib.hid (by rw [HF.out, decide_eq_false (fun h => h1 h.1)])
        go_wp2
        go_ret
        exact ⟨ret_bool HF2.out.symm, rfl⟩
set_option maxRecDepth 100000 in
theorem dname_any (s : ByteArray) (w : World) (hs : s.size ≤ 1000000) :
    Calls Tryz.prog 51 #[.string s] w fun e w' => e = .returned (.bool (nameB s)) ∧ w = w' := by
  have HN := Lib.hid (rname_any s w hs)
  go_enter Tryz.func51, Tryz.ntmps51
  go_wp2_with fail
  refine HN.out.mono ?_
  rintro e w1 ⟨rfl, rfl⟩
  go_wp2_with fail
  go_ret
  exact ⟨rfl, rfl⟩

/-- A word cut at the first of two signs. -/
def SplitIs (s l r : ByteArray) (g : UInt8) : Prop := (g = 0 ∧ l = s ∧ r = ⟨#[]⟩ ∧ ∀ x ∈ s.data.toList, x ≠ 60 ∧ x ≠ 62) ∨ (s.data.toList = l.data.toList ++ g :: r.data.toList ∧ (∀ x ∈ l.data.toList, x ≠ 60 ∧ x ≠ 62) ∧ (g = 60 ∨ g = 62))
set_option maxHeartbeats 4000000 in
set_option maxRecDepth 100000 in
theorem split_any (s : ByteArray) (w : World) (hs : s.size ≤ 1000000) :
    Calls Tryz.prog 25 #[.string s, .int .u8 60, .int .u8 62] w fun e w' => (∃ l r g, e = .returned (.tuple #[.string l, .string r, .int .u8 (g.toNat : Int)]) ∧ SplitIs s l r g ∧ l.size ≤ s.size ∧ r.size ≤ s.size) ∧ Below w.heap.size w w' := by
  go_enter Tryz.func25, Tryz.ntmps25
  go_wp2_with fail
  go_loopw [9] (fun i wr => ∃ k : Nat, k ≤ s.size ∧ i = .int .i64 k ∧ Hid (∀ x ∈ s.data.toList.take k, x ≠ 60 ∧ x ≠ 62) ∧ Hid (Below w.heap.size w wr)) (fun i _ => s.size - (intOf i).toNat)
  case atStart => exact ⟨0, Nat.zero_le _, rfl, Lib.hid (fun x h => by simp at h), Lib.hid (Below.refl _ _)⟩
  case round =>
    obtain ⟨k, hk, rfl, hno, hbw⟩ := hrel
    have hk9 : (0 : Int) ≤ (k : Int) := by omega
    by_cases hlt : k < s.size
    · have hk8 : (k : Int) < (s.size : Int) := by omega
      have hk7 : (k : Int) ≤ (s.size : Int) := by omega
      have hk6 : (k : Int) + 1 ≤ (s.size : Int) := by omega
      have hkn : ¬ (k : Int) < 0 := by omega
      have hkw : IntKind.i64.wrap ((k : Int) + 1) = (k : Int) + 1 := by rw [IntKind.wrap_i64]; omega
      have hkt : ((k : Int) + 1).toNat = k + 1 := by omega
      obtain ⟨c, hc⟩ : ∃ c, s[k]'hlt = c := ⟨_, rfl⟩
      have hgt : s.data.toList[k]? = some c := by rw [← hc]; exact Lib.data_getElem? s k hlt
      have HFIN : Hid ((c = 60 ∨ c = 62) → SplitIs s (s.extract 0 k) (s.extract (k + 1) s.size) c) := Lib.hid (fun h => by
        have e1 : (s.extract 0 k).data.toList = s.data.toList.take k := by simp
        have e2 : (s.extract (k + 1) s.size).data.toList = s.data.toList.drop (k + 1) := by simp [List.take_of_length_le]
        refine Or.inr ⟨?_, ?_, h⟩
        · rw [e1, e2]
          have h1 : s.data.toList.drop k = c :: s.data.toList.drop (k + 1) := by
            rw [List.drop_eq_getElem_cons (by simpa using hlt)]
            have h2 := (List.getElem?_eq_some_iff.1 hgt).2
            rw [h2]
          rw [← h1, List.take_append_drop]
        · rw [e1]
          exact hno.out)
      have HNX : Hid (c ≠ 60 → c ≠ 62 → ∀ x ∈ s.data.toList.take (k + 1), x ≠ 60 ∧ x ≠ 62) := Lib.hid (fun h1 h2 x hx => by
        rw [List.take_add_one, hgt] at hx
        rcases List.mem_append.1 hx with hx | hx
        · exact hno.out x hx
        · simp at hx; subst hx; exact ⟨h1, h2⟩)
      have HSZ : Hid ((s.extract 0 k).size ≤ s.size ∧ (s.extract (k + 1) s.size).size ≤ s.size) := Lib.hid (by rw [ByteArray.size_extract, ByteArray.size_extract]; omega)
      clear hgt
      by_cases h1 : c = 60
      · have q1 : ((c.toNat : Int) == 60) = true := by rw [h1]; rfl
        have HX := Lib.hid (HFIN.out (Or.inl h1))
        clear h1 HFIN HNX
        go_wp2_with fail
        go_quiet (fail)
        go_wp2_with fail
        go_ret3
        exact ⟨⟨_, _, c, rfl, HX.out, HSZ.out.1, HSZ.out.2⟩, below_drewN hbw.out _⟩
      · have q1 : ((c.toNat : Int) == 60) = false := by
          rw [beq_eq_false_iff_ne]
          exact fun e => h1 (by apply UInt8.toNat_inj.1; show c.toNat = 60; omega)
        by_cases h2 : c = 62
        · have q2 : ((c.toNat : Int) == 62) = true := by rw [h2]; rfl
          have HX := Lib.hid (HFIN.out (Or.inr h2))
          clear h1 h2 HFIN HNX
          go_wp2_with fail
          go_quiet (fail)
          go_wp2_with fail
          go_ret3
          exact ⟨⟨_, _, c, rfl, HX.out, HSZ.out.1, HSZ.out.2⟩, below_drewN hbw.out _⟩
        · have q2 : ((c.toNat : Int) == 62) = false := by
            rw [beq_eq_false_iff_ne]
            exact fun e => h2 (by apply UInt8.toNat_inj.1; show c.toNat = 62; omega)
          have HX := Lib.hid (HNX.out h1 h2)
          clear h1 h2 HFIN HNX
          go_wp2_with fail
          go_roundw
          case rel => exact ⟨k + 1, by omega, by go_num, HX, hbw⟩
          case measure => simp [intOf]; omega
    · obtain rfl : k = s.size := by omega
      have HX : Hid (SplitIs s s ⟨#[]⟩ 0) := Lib.hid (Or.inl ⟨rfl, rfl, rfl, by have := hno.out; rw [List.take_of_length_le (by simp)] at this; exact this⟩)
      go_wp2_with fail
      go_ret3
      exact ⟨⟨s, ⟨#[]⟩, 0, rfl, HX.out, Nat.le_refl _, Nat.zero_le _⟩, hbw.out⟩
end Go.Proofs.YtpgbgeofhcpocaaGreatDoor
