/- The document's number of a word. -/
import Derived.Test.YtpgbgeofhcpocaaGreatDoorDrP
namespace Go.Proofs.YtpgbgeofhcpocaaGreatDoor
open Go.Shelf Go.RowKit Go.Maps
set_option linter.unusedVariables false

theorem dig_head : ∀ (n : Nat), 1 ≤ n → (Lib.decDigits n)[0]? ≠ some 48 := by
  intro n
  induction n using Nat.strongRecOn with
  | _ n ih =>
    intro hn
    rw [Lib.decDigits]
    split
    · rename_i h
      intro e
      have e2 : UInt8.ofNat (48 + n) = 48 := by simpa using e
      have e3 := congrArg UInt8.toNat e2
      rw [UInt8.toNat_ofNat_of_lt' (by show _ < 256; omega)] at e3
      have : (48 : UInt8).toNat = 48 := rfl
      omega
    · have h1 := ih (n / 10) (by omega) (by omega)
      cases hd : Lib.decDigits (n / 10) with
      | nil => exact absurd hd (dig_ne _)
      | cons c r =>
        rw [hd] at h1
        simpa using h1
theorem dig_bad_head {w : ByteArray} (h1 : 1 < w.size) (h : w.data.toList[0]? = some 48) (n : Nat) : w.data.toList ≠ Lib.decDigits n := by
  intro hw
  rw [hw] at h
  have hz : w.size = (Lib.decDigits n).length := by rw [← hw]; simp
  rcases Nat.lt_or_ge n 10 with h2 | h2
  · rw [hz, Lib.decDigits_one h2] at h1
    simp at h1
  · exact dig_head n (by omega) h
theorem dig_size {n : Nat} (h : n ≤ 1099511627776) : 1 ≤ (Lib.decDigits n).length ∧ (Lib.decDigits n).length ≤ 13 := by
  refine ⟨?_, by rw [Lib.decDigits_length]; exact nd_le 12 n (by omega)⟩
  have := dig_ne n
  cases hd : Lib.decDigits n with
  | nil => exact absurd hd this
  | cons c r => simp
theorem decFrom_inv (b : UInt8) : ∀ (l : List UInt8) (acc n : Nat), Lib.decFrom acc (l ++ [b]) = some n → ∃ n' d, Lib.decFrom acc l = some n' ∧ Lib.digitVal b = some d ∧ n = n' * 10 + d
  | [], acc, n, h => by
    simp only [List.nil_append, Lib.decFrom] at h
    split at h
    · rename_i d hd
      simp only [Option.some.injEq] at h
      exact ⟨acc, d, rfl, hd, h.symm⟩
    · cases h
  | c :: l, acc, n, h => by
    simp only [List.cons_append, Lib.decFrom] at h ⊢
    split at h
    · exact decFrom_inv b l _ n h
    · cases h
theorem dec_canon : ∀ (m : Nat) (l : List UInt8) (n : Nat), l.length = m + 1 → Lib.decFrom 0 l = some n → (l.length = 1 ∨ l[0]? ≠ some 48) → l = Lib.decDigits n := by
  intro m
  induction m with
  | zero =>
    intro l n hl h _
    obtain ⟨b, rfl⟩ : ∃ b, l = [b] := List.length_eq_one_iff.1 hl
    obtain ⟨n', d, h1, h2, rfl⟩ := decFrom_inv b [] 0 n h
    simp only [Lib.decFrom, Option.some.injEq] at h1
    subst h1
    obtain ⟨h3, h4, rfl⟩ := Lib.digitVal_eq h2
    rw [Lib.decDigits_one (by omega)]
    congr 1
    apply UInt8.toNat_inj.1
    rw [UInt8.toNat_ofNat_of_lt' (by show _ < 256; omega)]
    omega
  | succ m ih =>
    intro l n hl h hh
    have hne : l ≠ [] := by intro e; rw [e] at hl; cases hl
    obtain ⟨l', b, rfl⟩ : ∃ l' b, l = l' ++ [b] := ⟨l.dropLast, l.getLast hne, (List.dropLast_concat_getLast hne).symm⟩
    obtain ⟨n', d, h1, h2, rfl⟩ := decFrom_inv b l' 0 n h
    have hl' : l'.length = m + 1 := by simp at hl; omega
    have h0 : l'[0]? ≠ some 48 := by
      rcases hh with hh | hh
      · rw [hl] at hh; omega
      · rwa [List.getElem?_append_left (by omega)] at hh
    have e := ih l' n' hl' h1 (Or.inr h0)
    obtain ⟨h3, h4, rfl⟩ := Lib.digitVal_eq h2
    have hn : 1 ≤ n' := by
      rcases Nat.eq_zero_or_pos n' with h5 | h5
      · subst h5
        rw [e] at h0
        exact absurd (by rw [Lib.decDigits_one (by omega)]; rfl) h0
      · exact h5
    rw [Lib.decDigits, dif_neg (by omega), show (n' * 10 + (b.toNat - 48)) / 10 = n' by omega, show (n' * 10 + (b.toNat - 48)) % 10 = b.toNat - 48 by omega, ← e]
    congr 2
    apply UInt8.toNat_inj.1
    rw [UInt8.toNat_ofNat_of_lt' (by show _ < 256; omega)]
    omega
/-- What the first k digits of a word are. -/
def NumTo (s : ByteArray) (k n : Nat) : Prop := Lib.decFrom 0 (s.data.toList.take k) = some n
theorem NumTo.few {s : ByteArray} {k n : Nat} (h : NumTo s k n) (hk : k ≤ 13) : n < 10000000000000 := by
  have := Lib.decFrom_lt _ _ _ h
  have h2 : (s.data.toList.take k).length ≤ 13 := by rw [List.length_take]; omega
  have h3 := Nat.pow_le_pow_right (n := 10) (by omega) h2
  omega
theorem NumTo.next {s : ByteArray} {k n : Nat} (h : NumTo s k n) (hk : k < s.size) (h1 : 48 ≤ (s[k]'hk).toNat) (h2 : (s[k]'hk).toNat ≤ 57) : NumTo s (k + 1) (n * 10 + ((s[k]'hk).toNat - 48)) := by
  unfold NumTo at *
  rw [List.take_add_one, List.getElem?_eq_getElem (by simpa using hk)]
  refine decFrom_snoc _ _ ?_ _ _ _ h
  show Lib.digitVal (s[k]'hk) = _
  unfold Lib.digitVal
  rw [if_pos ⟨h1, h2⟩]
theorem num_bad {s : ByteArray} {k : Nat} (hk : k < s.size) (h : (s[k]'hk).toNat < 48 ∨ 57 < (s[k]'hk).toNat) : NumIs s (-1) := by
  refine Or.inl ⟨rfl, fun n _ e => ?_⟩
  have hm : (s[k]'hk) ∈ s.data.toList := by
    have h1 : s.data.toList[k]? = some (s[k]'hk) := List.getElem?_eq_getElem (by simpa using hk)
    exact List.mem_of_getElem? h1
  rw [e] at hm
  have := dig_byte n _ hm
  omega
theorem num_end {s : ByteArray} {n : Nat} (h : NumTo s s.size n) (h1 : 1 ≤ s.size) (h2 : s.size = 1 ∨ s.data.toList[0]? ≠ some 48) : (n ≤ 1099511627776 → NumIs s n) ∧ (1099511627776 < n → NumIs s (-1)) := by
  unfold NumTo at h
  have hl : s.data.toList.length = s.size := by simp
  rw [List.take_of_length_le (by omega)] at h
  have e := dec_canon (s.size - 1) s.data.toList n (by omega) h (by rw [hl]; exact h2)
  refine ⟨fun hn => Or.inr ⟨n, rfl, hn, e⟩, fun hn => Or.inl ⟨rfl, fun m hm e2 => ?_⟩⟩
  have h3 := dec_dig m
  rw [← e2, h] at h3
  injection h3 with h3
  omega
theorem num_long {s : ByteArray} (h : s.size < 1 ∨ 13 < s.size) : NumIs s (-1) := by
  refine Or.inl ⟨rfl, fun n hn e => ?_⟩
  have := dig_size hn
  rw [← e, Array.length_toList] at this
  have hz : s.data.size = s.size := rfl
  omega

set_option maxHeartbeats 4000000 in
set_option maxRecDepth 100000 in
theorem rnum_any (s : ByteArray) (w : World) (hs : s.size ≤ 1000000) : Calls Tryz.prog 26 #[.string s] w fun e w' => ∃ i : Int, e = .returned (.int .i64 i) ∧ NumIs s i ∧ w = w' := by
  go_enter Tryz.func26, Tryz.ntmps26
  by_cases h1 : s.size < 1
  · have d1 : s.toList.isEmpty = true := by
      rw [emp_iff]
      exact decide_eq_true (ba_ext (List.eq_nil_of_length_eq_zero (by rw [Array.length_toList]; show s.size = 0; omega)))
    have HN : Hid (NumIs s (-1)) := Lib.hid (num_long (Or.inl h1))
    go_wp2_with fail
    go_ret
    exact ⟨(-1), rfl, HN.out, rfl⟩
  have d1 : s.toList.isEmpty = false := by
    rw [emp_iff]
    exact decide_eq_false (fun e => h1 (by rw [e]; decide))
  by_cases h7 : 13 < s.size
  · have d7 : (13 : Int) < (s.size : Int) := by omega
    have HN : Hid (NumIs s (-1)) := Lib.hid (num_long (Or.inr h7))
    go_wp2_with fail
    go_ret
    exact ⟨(-1), rfl, HN.out, rfl⟩
  have d7 : ¬ (13 : Int) < (s.size : Int) := by omega
  have hpos : 0 < s.size := by omega
  have e0 : s.data.toList[0]? = some (s[0]'hpos) := List.getElem?_eq_getElem (by simpa using hpos)
  have key : (s.size = 1 ∨ s.data.toList[0]? ≠ some 48) → Hid (s.size = 1 ∨ s.data.toList[0]? ≠ some 48) := Lib.hid
  have q : ((s[0]'hpos) = 48) ∨ ¬ ((s[0]'hpos) = 48) := Classical.em _
  by_cases hm : 1 < s.size
  · have dm : (1 : Int) < (s.size : Int) := by omega
    rcases q with q | q
    · have q1 : ((s[0]'hpos).toNat : Int) = 48 := by rw [q]; rfl
      have HN : Hid (NumIs s (-1)) := Lib.hid (Or.inl ⟨rfl, fun n _ => dig_bad_head hm (by rw [e0, q]) n⟩)
      clear q e0 key
      go_wp2_with fail
      go_ret
      exact ⟨(-1), rfl, HN.out, rfl⟩
    · have q1 : (((s[0]'hpos).toNat : Int) == 48) = false := by
        rw [Bool.eq_false_iff]
        intro e
        have := beq_iff_eq.1 e
        exact q (by apply UInt8.toNat_inj.1; show (s[0]'hpos).toNat = 48; omega)
      have HK := key (Or.inr (by rw [e0]; intro e; exact q (by simpa using e)))
      clear q e0 key
      go_wp2_with fail
      go_loopw [3, 4] (fun a i wr => ∃ k n : Nat, k ≤ s.size ∧ i = .int .i64 k ∧ a = .int .i64 n ∧ Hid (NumTo s k n) ∧ wr = w) (fun _ i _ => s.size - (intOf i).toNat)
      case atStart => exact ⟨0, 0, Nat.zero_le _, rfl, rfl, Lib.hid rfl, rfl⟩
      case round =>
        obtain ⟨k, n, hk, rfl, rfl, hnt, rfl⟩ := hrel
        have hk9 : (0 : Int) ≤ (k : Int) := by omega
        by_cases hlt : k < s.size
        · have hk8 : (k : Int) < (s.size : Int) := by omega
          have hnf := hnt.out.few (by omega)
          by_cases hlo : (s[k]'hlt).toNat < 48
          · have q2 : ((s[k]'hlt).toNat : Int) < 48 := by omega
            have HN : Hid (NumIs s (-1)) := Lib.hid (num_bad hlt (Or.inl hlo))
            go_wp2_with fail
            go_ret
            exact ⟨(-1), rfl, HN.out, rfl⟩
          · have q2 : ¬ ((s[k]'hlt).toNat : Int) < 48 := by omega
            by_cases hhi : 57 < (s[k]'hlt).toNat
            · have q3 : (57 : Int) < ((s[k]'hlt).toNat : Int) := by omega
              have HN : Hid (NumIs s (-1)) := Lib.hid (num_bad hlt (Or.inr hhi))
              go_wp2_with fail
              go_ret
              exact ⟨(-1), rfl, HN.out, rfl⟩
            · have q3 : ¬ (57 : Int) < ((s[k]'hlt).toNat : Int) := by omega
              have HNX := Lib.hid (hnt.out.next hlt (by omega) (by omega))
              have HE : Hid (10 * (n : Int) + ((s[k]'hlt).toNat : Int) - 48 = ((n * 10 + ((s[k]'hlt).toNat - 48) : Nat) : Int)) := Lib.hid (by omega)
              go_wp2_with fail
              go_roundw
              case rel => exact ⟨k + 1, _, by omega, by go_num, by rw [HE.out], HNX, by first | rfl | trivial⟩
              case measure => simp [intOf]; omega
        · obtain rfl : s.size = k := by omega
          obtain ⟨hn1, hn2⟩ := num_end hnt.out (by omega) HK.out
          by_cases hbig : 1099511627776 < n
          · have q2 : (1099511627776 : Int) < (n : Int) := by omega
            have HN := Lib.hid (hn2 hbig)
            clear hn1 hn2
            go_wp2_with fail
            go_ret
            exact ⟨(-1), rfl, HN.out, rfl⟩
          · have q2 : ¬ (1099511627776 : Int) < (n : Int) := by omega
            have HN := Lib.hid (hn1 (by omega))
            clear hn1 hn2
            go_wp2_with fail
            go_ret
            exact ⟨n, rfl, HN.out, rfl⟩
  · have dm : ¬ (1 : Int) < (s.size : Int) := by omega
    have HK := key (Or.inl (by omega))
    clear q e0 key
    go_wp2_with fail
    go_loopw [3, 4] (fun a i wr => ∃ k n : Nat, k ≤ s.size ∧ i = .int .i64 k ∧ a = .int .i64 n ∧ Hid (NumTo s k n) ∧ wr = w) (fun _ i _ => s.size - (intOf i).toNat)
    case atStart => exact ⟨0, 0, Nat.zero_le _, rfl, rfl, Lib.hid rfl, rfl⟩
    case round =>
      obtain ⟨k, n, hk, rfl, rfl, hnt, rfl⟩ := hrel
      have hk9 : (0 : Int) ≤ (k : Int) := by omega
      by_cases hlt : k < s.size
      · have hk8 : (k : Int) < (s.size : Int) := by omega
        have hnf := hnt.out.few (by omega)
        by_cases hlo : (s[k]'hlt).toNat < 48
        · have q2 : ((s[k]'hlt).toNat : Int) < 48 := by omega
          have HN : Hid (NumIs s (-1)) := Lib.hid (num_bad hlt (Or.inl hlo))
          go_wp2_with fail
          go_ret
          exact ⟨(-1), rfl, HN.out, rfl⟩
        · have q2 : ¬ ((s[k]'hlt).toNat : Int) < 48 := by omega
          by_cases hhi : 57 < (s[k]'hlt).toNat
          · have q3 : (57 : Int) < ((s[k]'hlt).toNat : Int) := by omega
            have HN : Hid (NumIs s (-1)) := Lib.hid (num_bad hlt (Or.inr hhi))
            go_wp2_with fail
            go_ret
            exact ⟨(-1), rfl, HN.out, rfl⟩
          · have q3 : ¬ (57 : Int) < ((s[k]'hlt).toNat : Int) := by omega
            have HNX := Lib.hid (hnt.out.next hlt (by omega) (by omega))
            have HE : Hid (10 * (n : Int) + ((s[k]'hlt).toNat : Int) - 48 = ((n * 10 + ((s[k]'hlt).toNat - 48) : Nat) : Int)) := Lib.hid (by omega)
            go_wp2_with fail
            go_roundw
            case rel => exact ⟨k + 1, _, by omega, by go_num, by rw [HE.out], HNX, by first | rfl | trivial⟩
            case measure => simp [intOf]; omega
      · obtain rfl : s.size = k := by omega
        obtain ⟨hn1, hn2⟩ := num_end hnt.out (by omega) HK.out
        by_cases hbig : 1099511627776 < n
        · have q2 : (1099511627776 : Int) < (n : Int) := by omega
          have HN := Lib.hid (hn2 hbig)
          clear hn1 hn2
          go_wp2_with fail
          go_ret
          exact ⟨(-1), rfl, HN.out, rfl⟩
        · have q2 : ¬ (1099511627776 : Int) < (n : Int) := by omega
          have HN := Lib.hid (hn1 (by omega))
          clear hn1 hn2
          go_wp2_with fail
          go_ret
          exact ⟨n, rfl, HN.out, rfl⟩

end Go.Proofs.YtpgbgeofhcpocaaGreatDoor
