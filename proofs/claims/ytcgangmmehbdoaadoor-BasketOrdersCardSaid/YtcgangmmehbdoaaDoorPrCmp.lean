/- Pairs: their comparison; slices.Clone of them. -/
import Derived.Test.YtcgangmmehbdoaaDoorPrP
namespace Go.Proofs.YtcgangmmehbdoaaDoor
open Go.Shelf Go.RowKit Go.Lib Go.Sort
set_option linter.unusedVariables false

set_option maxHeartbeats 1000000 in
set_option maxRecDepth 100000 in
theorem pairs1_any (x y : Pr) (w : World) : Calls Tryd.prog 35 #[.agg #[.string x.1.1, .string x.1.2, .int .i64 x.2], .agg #[.string y.1.1, .string y.1.2, .int .i64 y.2]] w fun e w' =>
    e = .returned (.int .i64 (cmpPI x y)) ∧ ∃ o1 o2 o3, w' = (((w.alloc o1).alloc o2).alloc o3).drew := by
  obtain ⟨⟨x1, x2⟩, x3⟩ := x
  obtain ⟨⟨y1, y2⟩, y3⟩ := y
  go_enter Tryd.func35, Tryd.ntmps35
  go_wp2_with fail
  refine wp_text [15] (by kernel_rfl) (by kernel_rfl) ?_
  simp only [wpText, Nat.sub_zero, List.take_succ_cons, List.take_zero, List.drop_succ_cons, List.drop_zero, Nat.reduceAdd]
  repeat ((with_reducible refine wpStill_step (fun K hK => ?_)); go_simp; refine hK _ ?_; clear hK K)
  with_reducible refine wpStill_step (fun K hK => ?_)
  go_simp
  refine ⟨_, still_of (cmpI_any _ _ _), hK _ ?_⟩
  clear hK K
  repeat ((with_reducible refine wpStill_step (fun K hK => ?_)); go_simp; refine hK _ ?_; clear hK K)
  with_reducible refine wpStill_step (fun K hK => ?_)
  go_simp
  refine ⟨_, still_of (cmpS_any _ _ _), hK _ ?_⟩
  clear hK K
  repeat ((with_reducible refine wpStill_step (fun K hK => ?_)); go_simp; refine hK _ ?_; clear hK K)
  with_reducible refine wpStill_step (fun K hK => ?_)
  go_simp
  refine ⟨_, still_of (cmpS_any _ _ _), hK _ ?_⟩
  clear hK K
  with_reducible refine wpStill_nil ?_
  go_wp2_with fail
  with_reducible refine wpStill_step (fun K hK => ?_)
  go_simp
  refine ⟨_, still_of (or_any _ 3 3 [cmpI y3 x3, cmpS x1 y1, cmpS x2 y2] _ rfl ?hcells (by omega)), hK _ ?_⟩
  case hcells =>
    intro j z hz
    rcases j with _ | _ | _ | j
    · simp at hz; subst hz; simp [go_sem]
    · simp at hz; subst hz; simp [go_sem]
    · simp at hz; subst hz; simp [go_sem]
    · simp at hz
  clear hK K
  repeat ((with_reducible refine wpStill_step (fun K hK => ?_)); go_simp; refine hK _ ?_; clear hK K)
  with_reducible refine wpStill_nil ?_
  go_wp2_with fail
  go_ret
  exact ⟨rfl, _, _, _, rfl⟩
theorem cmpP_lays (blk off size : Nat) (w : World) : CmpLays Tryd.prog 35 #[] prC 3 cmpPI blk off size w :=
  fun _ _ _ _ x y => (pairs1_any x y _).mono fun e w' ⟨he, o1, o2, o3, hw⟩ => ⟨he, 1, #[o1] ++ (#[o2] ++ #[o3]), by
    rw [hw, alloc_eq_grow, alloc_eq_grow, alloc_eq_grow, grow_grow, grow_grow, drew_grow]⟩

set_option maxHeartbeats 1000000 in
set_option maxRecDepth 100000 in
/-- slices.Clone: a row of the call's own. -/
theorem cloneP_any (w : World) (B : Nat) (A : Option Addr) (l : List Pr) (n c : Nat) (hn : l.length = n) (hl : RowIn w B 3 A n (l.flatMap prC)) (hB : B ≤ w.heap.size) (hnil : A = none → c = 0) (hb : n ≤ 1000000) :
    Calls Tryd.prog 38 #[.slice A n c] w fun e w' => ∃ v, e = .returned v ∧ w'.ownsRow w.heap.size 46 3 v n (l.flatMap prC) ∧ Below w.heap.size w w' := by
  obtain ⟨i0, hi0, hz0, hz1, hz2⟩ := info_parts pr_info
  have hen : ∀ (a : Option Addr) (l c : Nat) (W : World), (binOp .eql 42 (.slice a l c) (.slice none 0 0)).run Tryd.prog W = .ok (.bool a.isNone) W := fun a l c W => Lib.run_eql_slice_nil _ _ _ _ _ _ _ _ Tryd.underlying42
  cases A with
  | none =>
    have hc := hnil rfl
    subst hc
    have h0 : n = 0 := by
      rcases hl.2 with h | ⟨b, off, h, _⟩
      · exact h
      · cases h
    subst h0
    obtain rfl : l = [] := List.eq_nil_of_length_eq_zero hn
    clear hl hnil hn
    go_enter Tryd.func38, Tryd.ntmps38
    go_wp2_with fail
    go_ret
    exact ⟨_, rfl, own_nil _ _ _ _, Below.refl _ _⟩
  | some ad =>
    have r0 : RowIn (w.alloc (.cells #[] 46)) B 3 (some ad) n (l.flatMap prC) := RowIn.alloc hl hB (.cells #[] 46)
    have HR := Lib.hid r0
    have HO := Lib.hid (own_empty w 46 3)
    have HONE := Lib.hid (prC_one l)
    clear hl r0 hnil hn
    go_enter Tryd.func38, Tryd.ntmps38
    go_wp2_with (at_builtin; refine wpList_append_row _ rfl (.tmp 5) (.tmp 6) 42 rfl w.heap.size 46 i0 _ 3 40 Tryd.underlying42 hi0 hz0 hz1 hz2 rfl (by omega) _ 0 [] rfl HO.out B (some ad) n c _ rfl HR.out (fun h => by cases h) HONE.out (by unfold maxLen; omega) (by omega) (by simp) ?_; intro v w1 ho hg hv)
    go_ret
    refine ⟨v, rfl, ?_, ?_⟩
    · rw [Nat.zero_add, List.nil_append] at ho
      exact ho
    · have h4 : Kept (fun i => w.heap.size ≤ i) w w1 := ((Kept.refl _ w).alloc _).grown hg (fun j hj => Or.inr (by cases hj; exact Nat.le_refl _))
      exact h4.toBelow (fun i hi => hi) (Nat.le_refl _)

end Go.Proofs.YtcgangmmehbdoaaDoor
