/- The document's Put of counts. -/
import Derived.Test.YtnkglbiakjnfjaaDoorCrPutP
namespace Go.Proofs.YtnkglbiakjnfjaaDoor
open Go.Shelf Go.RowKit Go.Maps
set_option linter.unusedVariables false

theorem one_ctr (w : World) (x : Ct) (t : TypeId) : RowIn (w.alloc (.cells #[.string x.key, .int .i64 x.n] t)) (w.heap.size + 1) 2 (some ⟨w.heap.size, 0, none⟩) 1 (ctC x) := by
  refine ⟨rfl, Or.inr ⟨w.heap.size, 0, rfl, by omega, fun j u hu => ?_⟩⟩
  rw [(Blk.new w t _).cell]
  rw [← hu, Nat.zero_add]
  simp [ctC]
theorem flatC_snoc (l : List Ct) (x : Ct) : (l ++ [x]).flatMap ctC = l.flatMap ctC ++ ctC x := by rw [List.flatMap_append]; simp

set_option maxHeartbeats 4000000 in
set_option maxRecDepth 100000 in
theorem cput_any (w : World) (B : Nat) (A : Option Addr) (n c : Nat) (l : List Ct) (s : Ct) (hn : l.length = n) (hl : RowIn w B 2 A n (l.flatMap ctC)) (hB : B ≤ w.heap.size) (hr : l.Pairwise ltC) (hns : s ∉ l) (hb : n ≤ 100000) :
    Calls Tryd.prog 51 #[.slice A n c, .agg #[.string s.key, .int .i64 s.n]] w fun e w' => ∃ (A' : Option Addr) (n' c' : Nat) (out : List Ct), e = .returned (.slice A' n' c') ∧ out.length = n' ∧ n' ≤ n + 1 ∧ w'.ownsRow w.heap.size 45 2 (.slice A' n' c') n' (out.flatMap ctC) ∧ (out.Pairwise ltC ∧ ∀ y, y ∈ out ↔ y ∈ l ∨ y = s) ∧ Below w.heap.size w w' := by
  have HN := Lib.hid hn
  have HL := Lib.hid hl
  have HR := Lib.hid hr
  have HNS := Lib.hid hns
  obtain ⟨w1, hw1⟩ : ∃ w1, w.alloc (.cells #[.string s.key, .int .i64 s.n] 45) = w1 := ⟨_, rfl⟩
  have HK1 : Hid (Blk w1 w.heap.size 45 #[.string s.key, .int .i64 s.n]) := Lib.hid (by rw [← hw1]; exact Blk.new _ _ _)
  have HB1 : Hid (Below w.heap.size w w1) := Lib.hid (by rw [← hw1]; exact (Below.refl _ _).alloc (Nat.le_refl _) _)
  obtain ⟨w2, hw2⟩ : ∃ w2, w1.alloc (.cells #[] 45) = w2 := ⟨_, rfl⟩
  have HO2 : Hid (w2.ownsRow w1.heap.size 45 2 (.slice (some ⟨w1.heap.size, 0, none⟩) 0 0) 0 []) := Lib.hid (by rw [← hw2]; exact own_empty _ _ _)
  have HB2 : Hid (Below w1.heap.size w1 w2) := Lib.hid (by rw [← hw2]; exact (Below.refl _ _).alloc (Nat.le_refl _) _)
  have hz12 := HB1.out.size
  obtain ⟨i0, hi0, hz0, hz1, hz2⟩ := info_parts ct_info
  have HST : Hid (∀ W, Below w1.heap.size w1 W → World.cell? W ⟨w.heap.size, 0, none⟩ = some (.string s.key) ∧ World.cell? W ⟨w.heap.size, 1, none⟩ = some (.int .i64 s.n)) := Lib.hid (fun W hW => ⟨(hW.cell (p := ⟨w.heap.size, 0, none⟩) HK1.out.lt).trans (HK1.out.cell 0), (hW.cell (p := ⟨w.heap.size, 1, none⟩) HK1.out.lt).trans (HK1.out.cell 1)⟩)
  clear hn hl hr hns
  go_enter Tryd.func51, Tryd.ntmps51
  go_wp2_with fail
  clear hw1 hw2
  go_loopw [5, 6, 7] (fun v d i wr => ∃ (k m : Nat) (dn : Bool) (out : List Ct), k ≤ n ∧ m ≤ k + 1 ∧ (dn = false → m ≤ k) ∧ i = .int .i64 k ∧ d = .bool dn ∧ Hid (out.length = m) ∧ Hid (CPut l s k dn out) ∧ Hid (wr.ownsRow w1.heap.size 45 2 v m (out.flatMap ctC)) ∧ Hid (Below w1.heap.size w1 wr)) (fun _ _ i _ => n - (intOf i).toNat)
  case atStart => exact ⟨0, 0, false, [], Nat.zero_le _, by omega, fun _ => Nat.le_refl _, rfl, rfl, Lib.hid rfl, Lib.hid (CPut.nil l s), HO2, HB2⟩
  case round =>
    clear HO2 HB2
    obtain ⟨k, m, dn, out, hk, hmk, hmd, rfl, rfl, hm, hput, hrow, hbw⟩ := hrel
    obtain ⟨A5, c5, hq⟩ := own_shape hrow.out
    rw [hq] at hrow ⊢
    clear hq
    have hwz := hbw.out.size
    by_cases hlt : k < n
    · obtain ⟨x, hx⟩ : ∃ x, l[k]? = some x := ⟨l[k]'(by rw [HN.out]; exact hlt), List.getElem?_eq_getElem _⟩
      have HX := Lib.hid hx
      have HNE : Hid (x ≠ s) := Lib.hid (fun e => HNS.out (by rw [← e]; exact List.mem_of_getElem? hx))
      obtain ⟨g, o, rfl, hgB, hcl⟩ := cts_at HL.out (by omega)
      have HCE : Hid (∀ W, Below w1.heap.size w1 W → World.cell? W ⟨w.heap.size, 0, none⟩ = some (.string s.key) ∧ World.cell? W ⟨w.heap.size, 1, none⟩ = some (.int .i64 s.n) ∧ World.cell? W ⟨g, o + k * 2, none⟩ = some (.string x.key) ∧ World.cell? W ⟨g, o + k * 2 + 1, none⟩ = some (.int .i64 x.n)) := Lib.hid (fun W hW => by
        have hW' := HB1.out.trans (hW.mono HB1.out.size)
        exact ⟨(HST.out W hW).1, (HST.out W hW).2, (hW'.cell (p := ⟨g, o + k * 2, none⟩) (by show g < _; omega)).trans (hcl k x hx).1, (hW'.cell (p := ⟨g, o + k * 2 + 1, none⟩) (by show g < _; omega)).trans (hcl k x hx).2⟩)
      have hk8 : (k : Int) < (n : Int) := by omega
      have hk9 : (0 : Int) ≤ (k : Int) := by omega
      clear hcl hx
      cases dn
      · have hm2 := hmd rfl
        have HLE := Lib.hid (rless_any s x wr.drew)
        clear hmd
        go_wp2_with fail
        refine wp_plan (fun W => Below w1.heap.size w1 W) [(0, false), (1, false), (2, false), (3, false), (4, false), (5, false), (6, false), (7, false), (8, true), (9, false)] (by kernel_rfl) (by kernel_rfl) (below_drew hbw.out) ?_
        simp only [planL, List.getElem?_cons_zero, List.getElem?_cons_succ]
        repeat (first | (refine plan_on _ (by rfl) (fun W hW => by (obtain ⟨y0, y1, y2, y3⟩ := HCE.out W hW; go_simp; try with_reducible rfl)) ?_; simp only [Act.put, List.setIfInBounds_toArray, List.set_cons_zero, List.set_cons_succ]) | (refine plan_off (by rfl) ?_; simp only [Act.put, List.setIfInBounds_toArray, List.set_cons_zero, List.set_cons_succ]))
        refine plan_turn ?_
        go_wp2_with fail
        refine HLE.out.mono ?_
        rintro e w5 ⟨rfl, hb5⟩
        have HB5 : Hid (Below w1.heap.size w1 w5) := Lib.hid ((below_drew hbw.out).trans (hb5.mono hwz))
        have HO5 : Hid (w5.ownsRow w1.heap.size 45 2 (.slice A5 m c5) m (out.flatMap ctC)) := Lib.hid (owns_kept hrow.out (below_kept (S := fun _ => False) (below_from 1 hb5) (Nat.le_refl _)) (fun _ _ h => h))
        have hz5 := HB5.out.size
        clear hb5 HLE
        by_cases q : cmpCI s x < 0
        · have HP : Hid (CPut l s (k + 1) true ((out ++ [s]) ++ [x])) := Lib.hid (hput.out.here HR.out HX.out q)
          have dq : decide (cmpCI s x < 0) = true := decide_eq_true q
          rw [dq]
          go_wp2_with fail
          refine ⟨HB5.out, ?_⟩
          repeat (first | (refine plan_on _ (by rfl) (fun W hW => by (obtain ⟨y0, y1, y2, y3⟩ := HCE.out W hW; go_simp; try with_reducible rfl)) ?_; simp only [Act.put, List.setIfInBounds_toArray, List.set_cons_zero, List.set_cons_succ]) | (refine plan_off (by rfl) ?_; simp only [Act.put, List.setIfInBounds_toArray, List.set_cons_zero, List.set_cons_succ]))
          refine plan_done ?_
          obtain ⟨y0, y1, y2, y3⟩ := HCE.out w5 HB5.out
          clear q dq
          go_wp2_with (first
            | (at_builtin; refine wpList_append_row _ rfl _ _ 31 rfl w1.heap.size 45 i0 _ 2 24 Tryd.underlying31 hi0 hz0 hz1 hz2 rfl (by omega) (.slice A5 m c5) m _ rfl (HO5.out.alloc _) (w5.heap.size + 1) (some ⟨w5.heap.size, 0, none⟩) 1 1 (ctC s) rfl (one_ctr w5 s _) (fun h => by cases h) (fun u hu => ctC_one [s] u (by simpa using hu)) (by unfold maxLen; omega) (by omega) (by simp; omega) ?_; intro v7 w7 ho7 hg7 hv7; obtain ⟨A7, c7, hv⟩ := own_shape ho7; subst hv; have HO7 := Lib.hid ho7; have HB7 : Hid (Below w1.heap.size w1 w7) := Lib.hid ((HB5.out.alloc hz5 _).grown hg7 (by simp; omega) (fun j hj => (HO5.out.lt _ hj).1)); obtain ⟨z0, z1, z2, z3⟩ := HCE.out w7 HB7.out; have hz7 := HB7.out.size; clear y0 y1 y2 y3 ho7 hg7 hv7)
            | (at_builtin; refine wpList_append_row _ rfl _ _ 31 rfl w1.heap.size 45 i0 _ 2 24 Tryd.underlying31 hi0 hz0 hz1 hz2 rfl (by omega) (.slice A7 (m + 1) c7) (m + 1) _ rfl (HO7.out.alloc _) (w7.heap.size + 1) (some ⟨w7.heap.size, 0, none⟩) 1 1 (ctC x) rfl (one_ctr w7 x _) (fun h => by cases h) (fun u hu => ctC_one [x] u (by simpa using hu)) (by unfold maxLen; omega) (by omega) (by simp; omega) ?_; intro v8 w8 ho8 hg8 hv8))
          go_roundw
          case rel =>
            refine ⟨k + 1, m + 1 + 1, true, (out ++ [s]) ++ [x], by omega, by omega, fun h => (by cases h), by go_num, rfl, Lib.hid ?_, HP, Lib.hid ?_, Lib.hid ((HB7.out.alloc hz7 _).grown hg8 (by simp; omega) (fun j hj => (HO7.out.lt _ hj).1))⟩
            · simp [hm.out]
            · rw [flatC_snoc, flatC_snoc]; exact ho8
          case measure => simp [intOf]; omega
        · have HP : Hid (CPut l s (k + 1) false (out ++ [x])) := Lib.hid (hput.out.past HR.out HX.out q HNE.out)
          have dq : decide (cmpCI s x < 0) = false := decide_eq_false q
          rw [dq]
          go_wp2_with fail
          refine ⟨HB5.out, ?_⟩
          repeat (first | (refine plan_on _ (by rfl) (fun W hW => by (obtain ⟨y0, y1, y2, y3⟩ := HCE.out W hW; go_simp; try with_reducible rfl)) ?_; simp only [Act.put, List.setIfInBounds_toArray, List.set_cons_zero, List.set_cons_succ]) | (refine plan_off (by rfl) ?_; simp only [Act.put, List.setIfInBounds_toArray, List.set_cons_zero, List.set_cons_succ]))
          refine plan_done ?_
          obtain ⟨y0, y1, y2, y3⟩ := HCE.out w5 HB5.out
          clear q dq
          go_wp2_with (first
            | (at_builtin; refine wpList_append_row _ rfl _ _ 31 rfl w1.heap.size 45 i0 _ 2 24 Tryd.underlying31 hi0 hz0 hz1 hz2 rfl (by omega) (.slice A5 m c5) m _ rfl (HO5.out.alloc _) (w5.heap.size + 1) (some ⟨w5.heap.size, 0, none⟩) 1 1 (ctC x) rfl (one_ctr w5 x _) (fun h => by cases h) (fun u hu => ctC_one [x] u (by simpa using hu)) (by unfold maxLen; omega) (by omega) (by simp; omega) ?_; intro v7 w7 ho7 hg7 hv7))
          go_roundw
          case rel =>
            refine ⟨k + 1, m + 1, false, out ++ [x], by omega, by omega, fun _ => by omega, by go_num, rfl, Lib.hid ?_, HP, Lib.hid ?_, Lib.hid ((HB5.out.alloc hz5 _).grown hg7 (by simp; omega) (fun j hj => (HO5.out.lt _ hj).1))⟩
            · simp [hm.out]
            · rw [flatC_snoc]; exact ho7
          case measure => simp [intOf]; omega
      · have HP : Hid (CPut l s (k + 1) true (out ++ [x])) := Lib.hid (hput.out.on HR.out HX.out)
        clear hmd
        go_wp2_with fail
        refine wp_plan (fun W => Below w1.heap.size w1 W) [(0, false), (1, false), (2, false), (3, false), (4, false), (5, false), (6, false), (7, false), (8, true), (9, false)] (by kernel_rfl) (by kernel_rfl) (below_drew hbw.out) ?_
        simp only [planL, List.getElem?_cons_zero, List.getElem?_cons_succ]
        repeat (first | (refine plan_on _ (by rfl) (fun W hW => by (obtain ⟨y0, y1, y2, y3⟩ := HCE.out W hW; go_simp; try with_reducible rfl)) ?_; simp only [Act.put, List.setIfInBounds_toArray, List.set_cons_zero, List.set_cons_succ]) | (refine plan_off (by rfl) ?_; simp only [Act.put, List.setIfInBounds_toArray, List.set_cons_zero, List.set_cons_succ]))
        refine plan_turn ?_
        go_wp2_with fail
        refine ⟨below_drew hbw.out, ?_⟩
        repeat (first | (refine plan_on _ (by rfl) (fun W hW => by (obtain ⟨y0, y1, y2, y3⟩ := HCE.out W hW; go_simp; try with_reducible rfl)) ?_; simp only [Act.put, List.setIfInBounds_toArray, List.set_cons_zero, List.set_cons_succ]) | (refine plan_off (by rfl) ?_; simp only [Act.put, List.setIfInBounds_toArray, List.set_cons_zero, List.set_cons_succ]))
        refine plan_done ?_
        obtain ⟨w5, hw5⟩ : ∃ w5, wr.drew = w5 := ⟨_, rfl⟩
        rw [hw5]
        have HB5 : Hid (Below w1.heap.size w1 w5) := Lib.hid (by rw [← hw5]; exact below_drew hbw.out)
        have HO5 : Hid (w5.ownsRow w1.heap.size 45 2 (.slice A5 m c5) m (out.flatMap ctC)) := Lib.hid (by rw [← hw5]; exact hrow.out)
        have hz5 := HB5.out.size
        clear hw5
        obtain ⟨y0, y1, y2, y3⟩ := HCE.out w5 HB5.out
        go_wp2_with (first
          | (at_builtin; refine wpList_append_row _ rfl _ _ 31 rfl w1.heap.size 45 i0 _ 2 24 Tryd.underlying31 hi0 hz0 hz1 hz2 rfl (by omega) (.slice A5 m c5) m _ rfl (HO5.out.alloc _) (w5.heap.size + 1) (some ⟨w5.heap.size, 0, none⟩) 1 1 (ctC x) rfl (one_ctr w5 x _) (fun h => by cases h) (fun u hu => ctC_one [x] u (by simpa using hu)) (by unfold maxLen; omega) (by omega) (by simp; omega) ?_; intro v7 w7 ho7 hg7 hv7))
        go_roundw
        case rel =>
          refine ⟨k + 1, m + 1, true, out ++ [x], by omega, by omega, fun h => (by cases h), by go_num, rfl, Lib.hid ?_, HP, Lib.hid ?_, Lib.hid ((HB5.out.alloc hz5 _).grown hg7 (by simp; omega) (fun j hj => (HO5.out.lt _ hj).1))⟩
          · simp [hm.out]
          · rw [flatC_snoc]; exact ho7
        case measure => simp [intOf]; omega
    · obtain rfl : n = k := by omega
      have htl : l.take n = l := by rw [← HN.out, List.take_length]
      cases dn
      · obtain ⟨p1, p2, _⟩ := hput.out
        obtain ⟨p3, p4⟩ := p2 rfl
        rw [htl] at p3 p4
        have HPF : Hid ((out ++ [s]).Pairwise ltC ∧ ∀ y, y ∈ out ++ [s] ↔ y ∈ l ∨ y = s) := Lib.hid ⟨snocC p1 (by rw [p3]; exact p4), fun y => by rw [List.mem_append, List.mem_singleton, p3]⟩
        have hm2 := hmd rfl
        obtain ⟨y0, y1⟩ := HST.out wr hbw.out
        clear p1 p2 p3 p4 htl hmd
        go_wp2_with (first
          | (at_builtin; refine wpList_append_row _ rfl _ _ 31 rfl w1.heap.size 45 i0 _ 2 24 Tryd.underlying31 hi0 hz0 hz1 hz2 rfl (by omega) (.slice A5 m c5) m _ rfl (hrow.out.alloc _) (wr.heap.size + 1) (some ⟨wr.heap.size, 0, none⟩) 1 1 (ctC s) rfl (one_ctr wr s _) (fun h => by cases h) (fun u hu => ctC_one [s] u (by simpa using hu)) (by unfold maxLen; omega) (by omega) (by simp; omega) ?_; intro v7 w7 ho7 hg7 hv7))
        obtain ⟨A7, c7, hv⟩ := own_shape ho7
        subst hv
        go_ret
        refine ⟨A7, m + 1, c7, out ++ [s], rfl, by simp [hm.out], by omega, own_mono ?_ hz12, HPF.out, HB1.out.trans (((hbw.out.alloc hwz _).grown hg7 (by simp; omega) (fun j hj => (hrow.out.lt _ hj).1)).mono hz12)⟩
        rw [flatC_snoc]; exact ho7
      · obtain ⟨p1, _, p3⟩ := hput.out
        obtain ⟨p4, _⟩ := p3 rfl
        rw [htl] at p4
        have HPF : Hid (out.Pairwise ltC ∧ ∀ y, y ∈ out ↔ y ∈ l ∨ y = s) := Lib.hid ⟨p1, p4⟩
        clear p1 p3 p4 htl hmd
        go_wp2_with fail
        go_ret
        exact ⟨A5, m, c5, out, rfl, hm.out, hmk, own_mono hrow.out hz12, HPF.out, HB1.out.trans (hbw.out.mono hz12)⟩

end Go.Proofs.YtnkglbiakjnfjaaDoor
