/- SlateFree: the walk. -/
import Derived.Test.YtiaklkfdgnhonaaDoorLawsP
namespace Go.Proofs.YtiaklkfdgnhonaaDoor
open Go.Shelf Go.RowKit Go.Lib Go.Sort Go.Maps
set_option linter.unusedVariables false

theorem own_front {w : World} {base e : Nat} {A : Option Addr} {n c : Nat} {l : List Ch} (h : w.ownsRow base e 4 (.slice A n c) n (l.flatMap chC)) (hl : l.length = n) {k : Nat} (hk : k ≤ n) : ChsAt w w.heap.size A (l.take k) := by
  have h1 := RowIn.front (RowIn.of_own h) hk
  rw [flat_take chC 4 chC_len] at h1
  unfold ChsAt
  rw [List.length_take, hl, Nat.min_eq_left hk]
  exact h1
theorem own_cap {w : World} {base e size n c : Nat} {A : Option Addr} {xs : List Value} (h : w.ownsRow base e size (.slice A n c) n xs) : n ≤ c := by
  rcases h.2 with ⟨h1, h2⟩ | ⟨g, cap, cur, h1, _, _, h4, _⟩
  · injection h1 with _ h3 h4
    omega
  · injection h1 with _ h3 h5
    omega

set_option maxHeartbeats 1000000 in
set_option maxRecDepth 100000 in
theorem slateFree_walk (A : Option Addr) (n c : Nat) (l : List Ch) (size cap : Int) (w : World) (ha : ChArg w A n c l) (hs1 : (Lit.int .i64 size).wf = true) (hs2 : (Lit.int .i64 cap).wf = true) (hg : GlobAt w) :
    Calls Tryd.prog 7 #[.slice A n c, .int .i64 size, .int .i64 cap] w fun e w' => e = .returned (.bool true) ∧ Below w.heap.size w w' := by
  have HA := Lib.hid ha
  have HG := Lib.hid hg
  clear ha hg hs1 hs2
  go_enter Tryd.func7, Tryd.ntmps7
  go_wp2_with fail
  refine HA.out.long.mono ?_
  rintro e w1 ⟨r, rfl, hr, hb1⟩
  have HW := Lib.hid (awake_any w1 (HG.out.keep hb1 (Nat.le_refl _)))
  cases r
  · by_cases hc : 0 < cap
    · have hd : decide (0 < cap) = true := decide_eq_true hc
      go_wp2_with fail
      refine HW.out.mono ?_
      rintro e w5 ⟨rfl, hb5⟩
      have HB5 : Hid (Below w.heap.size w w5) := Lib.hid (hb1.trans (hb5.mono hb1.size))
      clear hb5 HW
      go_wp2_with fail
      go_ret
      exact ⟨rfl, HB5.out⟩
    · have hd : decide (0 < cap) = false := decide_eq_false hc
      have hs := hr rfl
      have hn40 : n ≤ 40 := by rw [← HA.out.len]; exact hs.1
      have hl1 : ChsAt w1 w.heap.size A l := HA.out.at_.below hb1
      have HR := Lib.hid (rank_any w1 w.heap.size A l n c HA.out.len hl1 hb1.size HA.out.nil (by omega) hs.okc)
      have HMF := Lib.hid (make_free size cap hc l)
      have HOK := Lib.hid hs.okc
      clear hr HW hs
      go_wp2_with fail
      refine HR.out.mono ?_
      rintro e w2 ⟨v2, rfl, hown2, hb2⟩
      obtain ⟨A2, c2, rfl⟩ := own_shape hown2
      have hl2 : ChsAt w2 w.heap.size A l := hl1.below (hb2.mono hb1.size)
      have HB2 : Hid (Below w.heap.size w w2) := Lib.hid (hb1.trans (hb2.mono hb1.size))
      have HR2 := Lib.hid (make_any w2 w.heap.size A l n c ⟨size, cap, cap⟩ HA.out.len hl2 HB2.out.size HA.out.nil (by omega) HOK.out (HG.out.keep HB2.out (Nat.le_refl _)))
      have hrl : (rankP l).length ≤ n := by rw [← HA.out.len]; exact rankP_len l
      have hcap := own_cap hown2
      clear HR
      go_wp2_with fail
      refine HR2.out.mono ?_
      rintro e w3 ⟨v3, rfl, hown3, hb3⟩
      obtain ⟨A3, c3, rfl⟩ := own_shape hown3
      obtain ⟨k, hk⟩ : ∃ k : Nat, min (max size 0) ((rankP l).length : Int) = (k : Int) := ⟨(min (max size 0) ((rankP l).length : Int)).toNat, by omega⟩
      have hkl : k ≤ (rankP l).length := by omega
      have hmk : makeP ⟨size, cap, cap⟩ l = (rankP l).take k := by
        rw [HMF.out]
        by_cases h0 : size.toNat ≤ (rankP l).length
        · rw [show size.toNat = k from by omega]
        · rw [List.take_of_length_le (by omega), List.take_of_length_le (by omega)]
      have HMK := Lib.hid hmk
      have hs2 : ChsAt w3 w3.heap.size A2 ((rankP l).take k) := RowIn.more (RowIn.below (own_front hown2 rfl hkl) hb3) hb3.size
      have hmlen : (makeP ⟨size, cap, cap⟩ l).length = k := by rw [hmk, List.length_take]; omega
      have hs3 : ChsAt w3 w3.heap.size A3 (makeP ⟨size, cap, cap⟩ l) := RowIn.of_own hown3
      have HSM := Lib.hid (fun c' => same_any w3 w3.heap.size A3 A2 (makeP ⟨size, cap, cap⟩ l) ((rankP l).take k) k k c3 c' hmlen (by rw [List.length_take]; omega) hs3 hs2 (by omega) (by omega))
      have HB3 : Hid (Below w.heap.size w w3) := Lib.hid (HB2.out.trans (hb3.mono HB2.out.size))
      rw [hmlen]
      have hk8 : (k : Int) ≤ (c2 : Int) := by omega
      have hk9 : (0 : Int) ≤ (k : Int) := by omega
      clear HR2 hown2 hown3 hs2 hs3 hmlen hmk
      generalize (rankP l).length = rn at *
      go_wp2_with fail
      refine (HSM.out _).mono ?_
      rintro e w4 ⟨r, rfl, hr, q, rfl⟩
      obtain rfl : r = true := hr.2 HMK.out
      have HW := Lib.hid (awake_any (w3.drewN q) ((HG.out.keep HB3.out (Nat.le_refl _)).drewN q))
      clear HSM hr
      go_wp2_with fail
      refine HW.out.mono ?_
      rintro e w5 ⟨rfl, hb5⟩
      have HB5 : Hid (Below w.heap.size w w5) := Lib.hid ((below_drewN HB3.out q).trans (hb5.mono HB3.out.size))
      clear hb5 HW
      go_wp2_with fail
      go_ret
      exact ⟨rfl, HB5.out⟩
  · clear hr
    go_wp2_with fail
    refine HW.out.mono ?_
    rintro e w5 ⟨rfl, hb5⟩
    have HB5 : Hid (Below w.heap.size w w5) := Lib.hid (hb1.trans (hb5.mono hb1.size))
    clear hb5 HW
    go_wp2_with fail
    go_ret
    exact ⟨rfl, HB5.out⟩

end Go.Proofs.YtiaklkfdgnhonaaDoor
