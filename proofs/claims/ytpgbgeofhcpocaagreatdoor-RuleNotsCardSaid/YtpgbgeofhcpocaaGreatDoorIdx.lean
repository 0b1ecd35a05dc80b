/- strings.IndexAny at any text, three ASCII signs looked for. -/
import Derived.Test.YtpgbgeofhcpocaaGreatDoorRuM
import Derived.Test.YtpgbgeofhcpocaaGreatDoorShelf
import Derived.Laws.RangeAny
import Derived.Laws.RangeString
import Derived.Laws.Runes
import Derived.WalkMore
namespace Go.Proofs.YtpgbgeofhcpocaaGreatDoor
open Go.RowKit Go.Maps Go.Shelf
set_option linter.unusedVariables false

/-- The bytes that a rune was made of; the rune is a right one. -/
theorem decode_run (s : ByteArray) (pos : Nat) (h : pos < s.size) (ha : 128 ≤ (s[pos]'h).toNat) : (∀ j (hj : j < s.size), pos ≤ j → j < pos + (Utf8.decode s pos).2 → 128 ≤ (s[j]'hj).toNat) ∧ 128 ≤ (Utf8.decode s pos).1 ∧ 1 ≤ (Utf8.decode s pos).2 ∧ Utf8.valid ((Utf8.decode s pos).1 : Int) = true := by
  obtain ⟨h1, h2⟩ := decode_high s pos h ha
  have hget : ∀ k (hk : k < s.size), s.get! k = s[k]'hk := fun k hk => by simpa using get_at s k hk
  have hget0 := hget pos h
  refine ⟨?_, h1, h2, ?_⟩
  · intro j hj hp hlt
    by_cases e : j = pos
    · subst e; exact ha
    · have hg : ∀ k, pos + k < s.size → (s.get! (pos + k)).toNat / 64 = 2 → ∀ (hk : pos + k < s.size), 128 ≤ (s[pos + k]'hk).toNat := fun k _ h3 hk => by
        rw [hget (pos + k) hk] at h3
        omega
      obtain ⟨d, rfl⟩ : ∃ d, j = pos + d := ⟨j - pos, by omega⟩
      have hd : d < (Utf8.decode s pos).2 := by omega
      have hd0 : 1 ≤ d := by omega
      clear hlt
      have hn : ¬ (s[pos]'h).toNat < 128 := by omega
      simp only [Utf8.decode, Nat.add_zero, hget0, hn, if_false] at hd
      split at hd
      · rename_i hc
        split at hd
        · obtain rfl : d = 1 := by dsimp only at hd; omega
          simp only [Bool.and_eq_true, decide_eq_true_eq, beq_iff_eq] at hc
          exact hg 1 hj hc.2.2 hj
        · dsimp only at hd; omega
      · split at hd
        · rename_i hc
          split at hd
          · simp only [Bool.and_eq_true, decide_eq_true_eq, beq_iff_eq] at hc
            have : d = 1 ∨ d = 2 := by dsimp only at hd; omega
            rcases this with rfl | rfl
            · exact hg 1 hj hc.1.2.2 hj
            · exact hg 2 hj hc.2.2 hj
          · dsimp only at hd; omega
        · split at hd
          · rename_i hc
            split at hd
            · simp only [Bool.and_eq_true, decide_eq_true_eq, beq_iff_eq] at hc
              have : d = 1 ∨ d = 2 ∨ d = 3 := by dsimp only at hd; omega
              rcases this with rfl | rfl | rfl
              · exact hg 1 hj hc.1.1.2.2 hj
              · exact hg 2 hj hc.1.2.2 hj
              · exact hg 3 hj hc.2.2 hj
            · dsimp only at hd; omega
          · dsimp only at hd; omega
  · have hn : ¬ (s[pos]'h).toNat < 128 := by omega
    simp only [Utf8.decode, Nat.add_zero, hget0, hn, if_false]
    have hb : ∀ k, (s.get! k).toNat < 256 := fun k => (s.get! k).toNat_lt
    repeat' split
    all_goals first
      | decide
      | (rename_i hc hc2; simp only [Bool.and_eq_true] at hc2; exact hc2.2)
      | (simp only [Utf8.valid, Bool.or_eq_true, Bool.and_eq_true, decide_eq_true_eq]; omega)

set_option maxRecDepth 1000000 in
theorem vr_any (r : Nat) (w : World) (hv : Utf8.valid (r : Int) = true) : Calls Tryz.prog 40 #[.int .i32 r] w fun e w' => e = .returned (.bool true) ∧ w = w' := by
  simp only [Utf8.valid, Bool.or_eq_true, Bool.and_eq_true, decide_eq_true_eq] at hv
  go_enter Tryz.func40, Tryz.ntmps40
  go_wp2
  all_goals first
    | (go_ret; exact ⟨rfl, rfl⟩)
    | (exfalso; omega)
theorem idxb_none (b : UInt8) : ∀ l : List UInt8, (∀ x ∈ l, x ≠ b) → Lib.indexByte l b = -1
  | [], _ => by simp [Lib.indexByte]
  | x :: l, h => by
    have ih := idxb_none b l (fun y hy => h y (by simp [hy]))
    have hx := h x (by simp)
    simp [Lib.indexByte, ih, hx]
end Go.Proofs.YtpgbgeofhcpocaaGreatDoor
