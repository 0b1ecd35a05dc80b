/- Choices: in memory, compared: cmp.Compare, cmp.Or, ahead, Less. -/
import Derived.Test.YtiaklkfdgnhonaaDoorSlices
import Derived.Test.YtiaklkfdgnhonaaDoorText
import Derived.Test.YtiaklkfdgnhonaaDoorMapOps
import Derived.Test.YtiaklkfdgnhonaaDoorProg
import Derived.Deep.QuietTactic
import Derived.BigQuiet
import Derived.RegionTactic
import Derived.WalkLawsBesides
import Derived.Outline
import Derived.Sort.Walk0
namespace Go.Proofs.YtiaklkfdgnhonaaDoor
open Go.RowKit Go.Maps
set_option linter.unusedVariables false

structure Ch where
  item : ByteArray
  maker : ByteArray
  tags : ByteArray
  score : Int

def chC (x : Ch) : List Value := [.string x.item, .string x.maker, .string x.tags, .int .i64 x.score]
theorem chC_len (x : Ch) : (chC x).length = 4 := rfl
theorem chC_one : ∀ (l : List Ch), ∀ u ∈ l.flatMap chC, u.oneCell' = true := by
  intro l u hu
  obtain ⟨x, _, hx⟩ := List.mem_flatMap.1 hu
  simp [chC] at hx
  rcases hx with rfl | rfl | rfl | rfl <;> rfl

theorem ret_int {k : IntKind} {a b : Int} (h : a = b) : Ending.returned (.int k a) = .returned (.int k b) := by rw [h]

def cmpI (a b : Int) : Int := if a < b then -1 else if b < a then 1 else 0
def cmpS (a b : ByteArray) : Int := if Op.bytesLess a.toList b.toList = true then -1 else if (a.toList == b.toList) = true then 0 else 1

theorem cmpI_any (a b : Int) (w : World) : Calls Tryd.prog 35 #[.int .i64 a, .int .i64 b] w fun e w' => e = .returned (.int .i64 (cmpI a b)) ∧ w = w' := by
  have n1 : (a != a) = false := by simp
  have n2 : (b != b) = false := by simp
  by_cases h1 : a < b
  · go_enter Tryd.func35, Tryd.ntmps35
    go_wp2
    go_ret
    exact ⟨ret_int (by simp [cmpI, h1]), rfl⟩
  · by_cases h2 : b < a
    · go_enter Tryd.func35, Tryd.ntmps35
      go_wp2
      go_ret
      exact ⟨ret_int (by unfold cmpI; rw [if_neg (by omega), if_pos h2]), rfl⟩
    · go_enter Tryd.func35, Tryd.ntmps35
      go_wp2
      go_ret
      exact ⟨ret_int (by unfold cmpI; rw [if_neg (by omega), if_neg (by omega)]), rfl⟩

theorem cmpS_any (a b : ByteArray) (w : World) : Calls Tryd.prog 36 #[.string a, .string b] w fun e w' => e = .returned (.int .i64 (cmpS a b)) ∧ w = w' := by
  have n1 : (a.toList != a.toList) = false := by simp
  have n2 : (b.toList != b.toList) = false := by simp
  cases h1 : Op.bytesLess a.toList b.toList
  · cases h2 : (a.toList == b.toList)
    · have hr : cmpS a b = 1 := by unfold cmpS; rw [h1, h2]; rfl
      rw [hr]
      clear hr
      go_enter Tryd.func36, Tryd.ntmps36
      go_wp2
      go_ret
      exact ⟨rfl, rfl⟩
    · have hr : cmpS a b = 0 := by unfold cmpS; rw [h1, h2]; rfl
      rw [hr]
      clear hr
      go_enter Tryd.func36, Tryd.ntmps36
      go_wp2
      go_ret
      exact ⟨rfl, rfl⟩
  · have hr : cmpS a b = -1 := by unfold cmpS; rw [h1]; rfl
    rw [hr]
    clear hr
    go_enter Tryd.func36, Tryd.ntmps36
    go_wp2
    go_ret
    exact ⟨rfl, rfl⟩

/-- The first that is not 0. -/
def orL : List Int → Int
  | [] => 0
  | z :: l => if z = 0 then orL l else z

theorem orL_skip : ∀ (l : List Int) (k : Nat), (∀ j z, j < k → l[j]? = some z → z = 0) → orL l = orL (l.drop k)
  | [], k, _ => by simp
  | z :: l, 0, _ => by simp
  | z :: l, k + 1, h => by
    have h0 : z = 0 := h 0 z (by omega) (by simp)
    have := orL_skip l k (fun j y hj hy => h (j + 1) y (by omega) (by simpa using hy))
    simp [orL, h0, this]

theorem or_any (g n cap : Nat) (zs : List Int) (w : World) (hn : zs.length = n) (hc : ∀ j z, zs[j]? = some z → w.cell? ⟨g, j, none⟩ = some (.int .i64 z)) (hb : n ≤ 1000000) :
    Calls Tryd.prog 34 #[.slice (some ⟨g, 0, none⟩) n cap] w fun e w' => e = .returned (.int .i64 (orL zs)) ∧ w = w' := by
  have HC := Lib.hid hc
  have HN := Lib.hid hn
  clear hc hn
  go_enter Tryd.func34, Tryd.ntmps34
  go_wp2
  go_loop [8] (fun i => ∃ k : Nat, k ≤ n ∧ i = .int .i64 k ∧ Hid (∀ j z, j < k → zs[j]? = some z → z = 0)) (fun i => n - (intOf i).toNat)
  case atStart => exact ⟨0, Nat.zero_le _, rfl, fun j z hj => by omega⟩
  case round =>
    obtain ⟨k, hk, rfl, hz⟩ := hrel
    by_cases hlt : k < n
    · obtain ⟨z, hzk⟩ : ∃ z, zs[k]? = some z := ⟨zs[k]'(by rw [HN.out]; exact hlt), List.getElem?_eq_getElem _⟩
      have c0 := HC.out k z hzk
      have HZ := Lib.hid hzk
      clear hzk
      by_cases h0 : z = 0
      · have hb0 : (z != 0) = false := by simp [h0]
        have H0 := Lib.hid h0
        clear h0
        go_wp2
        go_round
        case rel =>
          refine ⟨k + 1, by omega, by go_num, fun j y hj hy => ?_⟩
          by_cases e : j = k
          · subst e
            rw [HZ.out] at hy
            cases hy
            exact H0.out
          · exact hz.out j y (by omega) hy
        case measure => simp [intOf]; omega
      · have hb0 : (z != 0) = true := by simpa using h0
        have H0 := Lib.hid h0
        clear h0
        go_wp2
        go_ret
        refine ⟨ret_int ?_, rfl⟩
        rw [orL_skip zs k hz.out, List.drop_eq_getElem_cons (by rw [HN.out]; exact hlt), orL]
        have : zs[k]'(by rw [HN.out]; exact hlt) = z := by
          have := HZ.out
          rw [List.getElem?_eq_getElem (by rw [HN.out]; exact hlt)] at this
          exact Option.some.inj this
        rw [this, if_neg H0.out]
    · go_wp2
      go_ret
      refine ⟨ret_int ?_, rfl⟩
      rw [orL_skip zs k hz.out, List.drop_of_length_le (by rw [HN.out]; omega)]
      rfl

/-- Which choice is ahead. -/
def aheadI (x y : Ch) : Int := orL [cmpI y.score x.score, cmpS x.item y.item, cmpS x.maker y.maker, cmpS x.tags y.tags]

theorem ahead_any (x y : Ch) (w : World) : Calls Tryd.prog 25 #[.agg #[.string x.item, .string x.maker, .string x.tags, .int .i64 x.score], .agg #[.string y.item, .string y.maker, .string y.tags, .int .i64 y.score]] w fun e w' =>
    e = .returned (.int .i64 (aheadI x y)) ∧ ∃ o1 o2 o3, w' = (((w.alloc o1).alloc o2).alloc o3).drew := by
  obtain ⟨i1, m1, t1, s1⟩ := x
  obtain ⟨i2, m2, t2, s2⟩ := y
  go_enter Tryd.func25, Tryd.ntmps25
  go_wp2_with fail
  refine wp_text [20] (by kernel_rfl) (by kernel_rfl) ?_
  simp only [wpText, Nat.sub_zero, List.take_succ_cons, List.take_zero, List.drop_succ_cons, List.drop_zero, Nat.reduceAdd]
  repeat ((with_reducible refine wpStill_step (fun K hK => ?_)); go_simp; refine hK _ ?_; clear hK K)
  with_reducible refine wpStill_step (fun K hK => ?_)
  go_simp
  refine ⟨_, still_of (cmpI_any _ _ _), hK _ ?_⟩
  clear hK K
  repeat ((with_reducible refine wpStill_step (fun K hK => ?_)); go_simp; refine hK _ ?_; clear hK K)
  with_reducible refine wpStill_step (fun K hK => ?_)
  go_simp
  refine ⟨_, still_of (cmpS_any _ _ _), hK _ ?_⟩
  clear hK K
  repeat ((with_reducible refine wpStill_step (fun K hK => ?_)); go_simp; refine hK _ ?_; clear hK K)
  with_reducible refine wpStill_step (fun K hK => ?_)
  go_simp
  refine ⟨_, still_of (cmpS_any _ _ _), hK _ ?_⟩
  clear hK K
  repeat ((with_reducible refine wpStill_step (fun K hK => ?_)); go_simp; refine hK _ ?_; clear hK K)
  with_reducible refine wpStill_step (fun K hK => ?_)
  go_simp
  refine ⟨_, still_of (cmpS_any _ _ _), hK _ ?_⟩
  clear hK K
  with_reducible refine wpStill_nil ?_
  go_wp2_with fail
  with_reducible refine wpStill_step (fun K hK => ?_)
  go_simp
  refine ⟨_, still_of (or_any _ 4 4 [cmpI s2 s1, cmpS i1 i2, cmpS m1 m2, cmpS t1 t2] _ rfl ?hcells (by omega)), hK _ ?_⟩
  case hcells =>
    intro j z hz
    rcases j with _ | _ | _ | _ | j
    · simp at hz; subst hz; simp [go_sem]
    · simp at hz; subst hz; simp [go_sem]
    · simp at hz; subst hz; simp [go_sem]
    · simp at hz; subst hz; simp [go_sem]
    · simp at hz
  clear hK K
  repeat ((with_reducible refine wpStill_step (fun K hK => ?_)); go_simp; refine hK _ ?_; clear hK K)
  with_reducible refine wpStill_nil ?_
  go_wp2_with fail
  go_ret
  exact ⟨rfl, _, _, _, rfl⟩

end Go.Proofs.YtiaklkfdgnhonaaDoor
