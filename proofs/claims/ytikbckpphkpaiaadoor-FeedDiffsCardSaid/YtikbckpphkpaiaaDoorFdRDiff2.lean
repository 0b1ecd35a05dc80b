/- The document's Diff. -/
import Derived.Test.YtikbckpphkpaiaaDoorFdRef
import Derived.Test.YtikbckpphkpaiaaDoorFdOrders
import Derived.Test.YtikbckpphkpaiaaDoorPlanN
namespace Go.Proofs.YtikbckpphkpaiaaDoor
open Go.Shelf Go.RowKit Go.Maps
set_option linter.unusedVariables false

set_option maxHeartbeats 4000000 in
set_option maxRecDepth 100000 in
theorem put46_any (w : World) (A : Option Addr) (l : List ByteArray) (n c : Nat) (s : ByteArray) (base : Nat) (hn : l.length = n) (hown : w.ownsRow base 9 1 (.slice A n c) n (l.map .string)) (hbase : base ≤ w.heap.size) (hb : n ≤ 1000000) :
    Calls Tryd.prog 33 #[.slice A n c, .string s] w fun e w' => ∃ A' c', e = .returned (.slice A' (putP l s).length c') ∧ w'.ownsRow base 9 1 (.slice A' (putP l s).length c') (putP l s).length ((putP l s).map .string) ∧ Below w.heap.size w w' := by
  have hl : RowIn w w.heap.size 1 A n (l.map .string) := RowIn.of_own hown
  have hcn : n ≤ c ∧ (A = none → c = 0) := by
    rcases hown.2 with ⟨h, h0⟩ | ⟨g9, cap9, cur9, h, _, _, h4, _⟩
    · injection h with h1 h2 h3
      exact ⟨by omega, fun _ => h3⟩
    · injection h with h1 _ h3
      refine ⟨by rw [h3]; exact h4, fun h => ?_⟩
      rw [h] at h1
      cases h1
  obtain ⟨hc, hnil⟩ := hcn
  have HOW := Lib.hid hown
  obtain ⟨i0, hi0, hz0, hz1, hz2⟩ := info_parts str_info
  have HN := Lib.hid hn
  have HL := Lib.hid hl
  have HNIL := Lib.hid hnil
  clear hn hl hnil hown
  go_enter Tryd.func33, Tryd.ntmps33
  go_wp2_with fail
  go_loopw [5] (fun i wr => ∃ k : Nat, k ≤ n ∧ i = .int .i64 k ∧ Hid (∀ j x, j < k → l[j]? = some x → ltN x s) ∧ wr = w) (fun i _ => n - (intOf i).toNat)
  case atStart => exact ⟨0, Nat.zero_le _, rfl, Lib.hid (fun j x hj => by omega), rfl⟩
  case round =>
    obtain ⟨k, hk, rfl, hlo, rfl⟩ := hrel
    obtain ⟨w, rfl⟩ : ∃ w : World, w = wr := ⟨_, rfl⟩
    have HFIN : Hid ((∀ x, l[k]? = some x → ¬ ltN x s) → l[k]? ≠ some s → putP l s = l.take k ++ (s :: l.drop k)) := Lib.hid (fun h1 h2 => by rw [putP_at l s k (by rw [HN.out]; exact hk) hlo.out h1, if_neg h2])
    have HSAM : Hid (l[k]? = some s → putP l s = l) := Lib.hid (fun h2 => by rw [putP_at l s k (by rw [HN.out]; exact hk) hlo.out (fun x hx e => by rw [h2] at hx; cases hx; exact ltN_irr _ e), if_pos h2])
    have REST : Hid (l[k]? ≠ some s → (∀ x, l[k]? = some x → ¬ ltN x s) → (putP l s).length = 0 + k + 1 + (n - k) ∧ (putP l s).map Value.string = [] ++ (l.take k).map .string ++ [.string s] ++ (l.drop k).map .string) := Lib.hid (fun h1 h2 => by
      rw [HFIN.out h2 h1]
      constructor
      · simp [HN.out]; omega
      · simp)
    have HR1 : Hid (RowIn w w.heap.size 1 A k ((l.take k).map .string)) := Lib.hid (by have := HL.out.front hk; rw [Nat.mul_one, ← List.map_take] at this; exact this)
    have HR2 : Hid (RowIn w w.heap.size 1 (if c = k then A else A.map (·.add k)) (n - k) ((l.drop k).map .string)) := Lib.hid (by have := HL.out.cut hk hc; simp only [Nat.mul_one, ← List.map_drop] at this; exact this)
    have HNI2 : Hid ((if c = k then A else A.map (·.add k)) = none → c - k = 0) := Lib.hid (fun h => by
      split at h
      · omega
      · have : A = none := by simpa using h
        have := HNIL.out this
        omega)
    have HRE : Hid (∀ o : Obj, RowIn (w.alloc o) w.heap.size 1 A k ((l.take k).map .string)) := Lib.hid (fun o => RowIn.alloc HR1.out (Nat.le_refl _) _)
    have HRN : Hid (∀ o o2 : Obj, RowIn ((w.alloc o).alloc o2) w.heap.size 1 A k ((l.take k).map .string)) := Lib.hid (fun o o2 => RowIn.alloc (RowIn.alloc HR1.out (Nat.le_refl _) _) (by simp) _)
    have HOA := Lib.hid (own_empty w 9 1)
    have HOC : Hid (∀ o : Obj, ((w.alloc o).alloc (.cells #[] 9)).ownsRow w.heap.size 9 1 (.slice (some ⟨w.heap.size + 1, 0, none⟩) 0 0) 0 []) := Lib.hid (fun o => by
      have := own_empty (w.alloc o) 9 1
      rw [show (w.alloc o).heap.size = w.heap.size + 1 from by simp] at this
      exact own_mono this (by omega))
    have H1B : Hid (RowIn ((w.alloc (.cells #[] 9)).alloc (.cells #[.string s] 9)) (w.heap.size + 2) 1 (some ⟨w.heap.size + 1, 0, none⟩) 1 [.string s]) := Lib.hid (by
      have := one_str (w.alloc (.cells #[] 9)) s 9
      rw [show (w.alloc (.cells #[] 9)).heap.size = w.heap.size + 1 from by simp] at this
      exact this)
    have H1C : Hid (RowIn ((w.alloc (.cells #[.string s] 9)).alloc (.cells #[] 9)) (w.heap.size + 1) 1 (some ⟨w.heap.size, 0, none⟩) 1 [.string s]) := Lib.hid (RowIn.alloc (one_str w s 9) (by simp) _)
    have HBA : Hid (∀ o : Obj, Below w.heap.size w (w.alloc o).drew) := Lib.hid (fun o => below_drew ((Below.refl _ _).alloc (Nat.le_refl _) _))
    have HBA0 : Hid (∀ o : Obj, Below w.heap.size w (w.alloc o)) := Lib.hid (fun o => (Below.refl _ _).alloc (Nat.le_refl _) _)
    have HBB : Hid (∀ o o2 : Obj, Below w.heap.size w ((w.alloc o).alloc o2).drew) := Lib.hid (fun o o2 => below_drew (((Below.refl _ _).alloc (Nat.le_refl _) _).alloc (by simp) _))
    have HBB0 : Hid (∀ o o2 : Obj, Below w.heap.size w ((w.alloc o).alloc o2)) := Lib.hid (fun o o2 => ((Below.refl _ _).alloc (Nat.le_refl _) _).alloc (by simp) _)
    have HBX : Hid (∀ (W : World) (o : Obj), Below w.heap.size w W → Below w.heap.size w (W.alloc o)) := Lib.hid (fun W o h => h.alloc h.size _)
    have HON1 := Lib.hid (strs_one (l.take k))
    have HON2 := Lib.hid (strs_one (l.drop k))
    have HONX : Hid (∀ u ∈ [Value.string s], u.oneCell' = true) := Lib.hid (fun u hu => by simp at hu; subst hu; rfl)
    have P1 : Hid (0 + k ≤ maxLen) := Lib.hid (by unfold maxLen; omega)
    have P2 : Hid ((0 + k) * 16 ≤ 140737488355328) := Lib.hid (by omega)
    have P3 : Hid (0 + k + 1 ≤ maxLen) := Lib.hid (by unfold maxLen; omega)
    have P4 : Hid ((0 + k + 1) * 16 ≤ 140737488355328) := Lib.hid (by omega)
    have P5 : Hid (0 + k + 1 + (n - k) ≤ maxLen) := Lib.hid (by unfold maxLen; omega)
    have P6 : Hid ((0 + k + 1 + (n - k)) * 16 ≤ 140737488355328) := Lib.hid (by omega)
    have hk9 : (0 : Int) ≤ (k : Int) := by omega
    have hk7 : (k : Int) ≤ (n : Int) := by omega
    have hk6 : (k : Int) ≤ (c : Int) := by omega
    have hk5 : (n : Int) ≤ (c : Int) := by omega
    by_cases hlt : k < n
    · obtain ⟨x, hx⟩ : ∃ x, l[k]? = some x := ⟨l[k]'(by rw [HN.out]; exact hlt), List.getElem?_eq_getElem _⟩
      have HX := Lib.hid hx
      have hk8 : (k : Int) < (n : Int) := by omega
      obtain ⟨g, o, hA, _, hcl⟩ := HL.out.at (by omega)
      have e0 : w.cell? ⟨g, o + k, none⟩ = some (.string x) := hcl k _ (by simp [hx])
      subst hA
      have HM2 : (Option.map (fun x : Addr => x.add k) (some ⟨g, o, none⟩)) = some ⟨g, o + k, none⟩ := by simp [at_add]
      rw [HM2] at HR2 HNI2
      clear hcl hx HM2
      cases hq : Op.bytesLess x.toList s.toList
      · have HQ : Hid (∀ y, l[k]? = some y → ¬ ltN y s) := Lib.hid (fun y hy e => by rw [HX.out] at hy; cases hy; rw [(less_iff _ _).2 e] at hq; cases hq)
        by_cases he : x = s
        · have q1 : (x.toList == s.toList) = true := (beq_list x s).2 he
          have HPP : Hid (putP l s = l) := Lib.hid (HSAM.out (by rw [HX.out, he]))
          clear he
          go_wp2_with fail
          go_ret
          refine ⟨some ⟨g, o, none⟩, c, ?_, ?_, Below.refl _ _⟩
          · rw [HPP.out, HN.out]; rfl
          · rw [HPP.out, HN.out]; exact HOW.out
        · have q1 : (x.toList == s.toList) = false := Bool.eq_false_iff.2 (fun e => he ((beq_list x s).1 e))
          have HRS := Lib.hid (REST.out (by rw [HX.out]; exact fun e => he (Option.some.inj e)) HQ.out)
          clear he
          go_wp2_with fail
          go_region_held3 (fun W => True)
            (first | trivial)
            (first
              | (refine step_append_row _ (by rfl) (.tmp 33) (.tmp 36) 39 (by rfl) w.heap.size 9 i0 _ 1 16 Tryd.underlying39 hi0 hz0 hz1 hz2 rfl (by decide) (.slice (some ⟨w.heap.size, 0, none⟩) 0 0) 0 [] (by rfl) HOA.out w.heap.size (some ⟨g, o, none⟩) k c _ (by rfl) (HRE.out _) HNIL.out HON1.out P1.out P2.out (by simp <;> omega) ?_; intro v1 wx ho1 hg1 hv1; have b1 : Below w.heap.size w wx := bel1 (by first | exact HBA.out _ | exact HBA0.out _ | exact HBB.out _ _ | exact HBB0.out _ _ | exact b1 | exact HBX.out _ _ b1 | exact b2 | exact HBX.out _ _ b2) hg1 (fun j hj => by first | exact (ho1.lt _ hj).1 | exact (ho2.lt _ hj).1 | (cases hj; exact Nat.le_refl _) | (cases hj; exact Nat.le_succ _)))
              | (refine step_append_row _ (by rfl) (.tmp 33) (.tmp 36) 39 (by rfl) w.heap.size 9 i0 _ 1 16 Tryd.underlying39 hi0 hz0 hz1 hz2 rfl (by decide) (.slice (some ⟨w.heap.size, 0, none⟩) 0 0) 0 [] (by rfl) (HOA.out.alloc _) w.heap.size (some ⟨g, o, none⟩) k c _ (by rfl) (HRN.out _ _) HNIL.out HON1.out P1.out P2.out (by simp <;> omega) ?_; intro v1 wx ho1 hg1 hv1; have b1 : Below w.heap.size w wx := bel1 (by first | exact HBA.out _ | exact HBA0.out _ | exact HBB.out _ _ | exact HBB0.out _ _ | exact b1 | exact HBX.out _ _ b1 | exact b2 | exact HBX.out _ _ b2) hg1 (fun j hj => by first | exact (ho1.lt _ hj).1 | exact (ho2.lt _ hj).1 | (cases hj; exact Nat.le_refl _) | (cases hj; exact Nat.le_succ _)))
              | (refine step_append_row _ (by rfl) (.tmp 33) (.tmp 36) 39 (by rfl) w.heap.size 9 i0 _ 1 16 Tryd.underlying39 hi0 hz0 hz1 hz2 rfl (by decide) (.slice (some ⟨w.heap.size + 1, 0, none⟩) 0 0) 0 [] (by rfl) (HOC.out _) w.heap.size (some ⟨g, o, none⟩) k c _ (by rfl) (HRN.out _ _) HNIL.out HON1.out P1.out P2.out (by simp <;> omega) ?_; intro v1 wx ho1 hg1 hv1; have b1 : Below w.heap.size w wx := bel1 (by first | exact HBA.out _ | exact HBA0.out _ | exact HBB.out _ _ | exact HBB0.out _ _ | exact b1 | exact HBX.out _ _ b1 | exact b2 | exact HBX.out _ _ b2) hg1 (fun j hj => by first | exact (ho1.lt _ hj).1 | exact (ho2.lt _ hj).1 | (cases hj; exact Nat.le_refl _) | (cases hj; exact Nat.le_succ _)))
              | (refine step_append_row _ (by rfl) (.tmp 37) (.tmp 39) 39 (by rfl) w.heap.size 9 i0 _ 1 16 Tryd.underlying39 hi0 hz0 hz1 hz2 rfl (by decide) v1 (0 + k) ([] ++ (l.take k).map .string) (by rfl) (ho1.alloc _) (wx.heap.size + 1) (some ⟨wx.heap.size, 0, none⟩) 1 1 [.string s] (by rfl) (one_str wx s _) (fun h => by cases h) HONX.out P3.out P4.out (Nat.le_trans b1.size (by simp)) ?_; intro v2 wy ho2 hg2 hv2; have b2 : Below w.heap.size w wy := bel1 (by first | exact HBA.out _ | exact HBA0.out _ | exact HBB.out _ _ | exact HBB0.out _ _ | exact b1 | exact HBX.out _ _ b1 | exact b2 | exact HBX.out _ _ b2) hg2 (fun j hj => by first | exact (ho1.lt _ hj).1 | exact (ho2.lt _ hj).1 | (cases hj; exact Nat.le_refl _) | (cases hj; exact Nat.le_succ _)))
              | (refine step_append_row _ (by rfl) (.tmp 37) (.tmp 39) 39 (by rfl) w.heap.size 9 i0 _ 1 16 Tryd.underlying39 hi0 hz0 hz1 hz2 rfl (by decide) v1 (0 + k) ([] ++ (l.take k).map .string) (by rfl) ho1 (w.heap.size + 2) (some ⟨w.heap.size + 1, 0, none⟩) 1 1 [.string s] (by rfl) (row_grown (RowIn.drew H1B.out) (by simp <;> omega) (by simp [Value.ownBlock] <;> omega) hg1) (fun h => by cases h) HONX.out P3.out P4.out (Nat.le_trans b1.size (by simp)) ?_; intro v2 wy ho2 hg2 hv2; have b2 : Below w.heap.size w wy := bel1 (by first | exact HBA.out _ | exact HBA0.out _ | exact HBB.out _ _ | exact HBB0.out _ _ | exact b1 | exact HBX.out _ _ b1 | exact b2 | exact HBX.out _ _ b2) hg2 (fun j hj => by first | exact (ho1.lt _ hj).1 | exact (ho2.lt _ hj).1 | (cases hj; exact Nat.le_refl _) | (cases hj; exact Nat.le_succ _)))
              | (refine step_append_row _ (by rfl) (.tmp 37) (.tmp 39) 39 (by rfl) w.heap.size 9 i0 _ 1 16 Tryd.underlying39 hi0 hz0 hz1 hz2 rfl (by decide) v1 (0 + k) ([] ++ (l.take k).map .string) (by rfl) ho1 (w.heap.size + 1) (some ⟨w.heap.size, 0, none⟩) 1 1 [.string s] (by rfl) (row_grown (RowIn.drew H1C.out) (by simp <;> omega) (by simp [Value.ownBlock] <;> omega) hg1) (fun h => by cases h) HONX.out P3.out P4.out (Nat.le_trans b1.size (by simp)) ?_; intro v2 wy ho2 hg2 hv2; have b2 : Below w.heap.size w wy := bel1 (by first | exact HBA.out _ | exact HBA0.out _ | exact HBB.out _ _ | exact HBB0.out _ _ | exact b1 | exact HBX.out _ _ b1 | exact b2 | exact HBX.out _ _ b2) hg2 (fun j hj => by first | exact (ho1.lt _ hj).1 | exact (ho2.lt _ hj).1 | (cases hj; exact Nat.le_refl _) | (cases hj; exact Nat.le_succ _)))
              | (refine step_append_row _ (by rfl) (.tmp 40) (.tmp 43) 39 (by rfl) w.heap.size 9 i0 _ 1 16 Tryd.underlying39 hi0 hz0 hz1 hz2 rfl (by decide) v2 (0 + k + 1) ([] ++ (l.take k).map .string ++ [.string s]) (by rfl) ho2 w.heap.size (if c = k then some ⟨g, o, none⟩ else some ⟨g, o + k, none⟩) (n - k) (c - k) _ (by rfl) (HR2.out.below b2) HNI2.out HON2.out P5.out P6.out b2.size ?_; intro v3 wz ho3 hg3 hv3; have b3 : Below w.heap.size w wz := bel1 b2 hg3 (fun j hj => (ho2.lt _ hj).1)))
          all_goals
            go_wp2_with fail
          all_goals
            obtain ⟨A9, c9, hr9⟩ := own_shape ho3
            subst hr9
            go_ret
            obtain ⟨r1, r2⟩ := HRS.out
            refine ⟨A9, c9, ?_, ?_, b3⟩
            · rw [r1]; rfl
            · rw [r1, r2]; exact own_mono ho3 hbase
      · have HQ : Hid (ltN x s) := Lib.hid ((less_iff _ _).1 hq)
        go_wp2_with fail
        go_roundw
        case rel =>
          refine ⟨k + 1, by omega, by go_num, Lib.hid (fun j y hj hy => ?_), by first | rfl | trivial⟩
          by_cases e : j = k
          · subst e
            rw [HX.out] at hy
            cases hy
            exact HQ.out
          · exact hlo.out j y (by omega) hy
        case measure => simp [intOf]; omega
    · have HNO : Hid (l[k]? = none) := Lib.hid (List.getElem?_eq_none (by rw [HN.out]; omega))
      have HRS := Lib.hid (REST.out (by rw [HNO.out]; simp) (fun x hx => by rw [HNO.out] at hx; cases hx))
      go_wp2_with fail
      go_region_held3 (fun W => True)
        (first | trivial)
        (first
          | (refine step_append_row _ (by rfl) (.tmp 33) (.tmp 36) 39 (by rfl) w.heap.size 9 i0 _ 1 16 Tryd.underlying39 hi0 hz0 hz1 hz2 rfl (by decide) (.slice (some ⟨w.heap.size, 0, none⟩) 0 0) 0 [] (by rfl) HOA.out w.heap.size (A) k c _ (by rfl) (HRE.out _) HNIL.out HON1.out P1.out P2.out (by simp <;> omega) ?_; intro v1 wx ho1 hg1 hv1; have b1 : Below w.heap.size w wx := bel1 (by first | exact HBA.out _ | exact HBA0.out _ | exact HBB.out _ _ | exact HBB0.out _ _ | exact b1 | exact HBX.out _ _ b1 | exact b2 | exact HBX.out _ _ b2) hg1 (fun j hj => by first | exact (ho1.lt _ hj).1 | exact (ho2.lt _ hj).1 | (cases hj; exact Nat.le_refl _) | (cases hj; exact Nat.le_succ _)))
          | (refine step_append_row _ (by rfl) (.tmp 33) (.tmp 36) 39 (by rfl) w.heap.size 9 i0 _ 1 16 Tryd.underlying39 hi0 hz0 hz1 hz2 rfl (by decide) (.slice (some ⟨w.heap.size, 0, none⟩) 0 0) 0 [] (by rfl) (HOA.out.alloc _) w.heap.size (A) k c _ (by rfl) (HRN.out _ _) HNIL.out HON1.out P1.out P2.out (by simp <;> omega) ?_; intro v1 wx ho1 hg1 hv1; have b1 : Below w.heap.size w wx := bel1 (by first | exact HBA.out _ | exact HBA0.out _ | exact HBB.out _ _ | exact HBB0.out _ _ | exact b1 | exact HBX.out _ _ b1 | exact b2 | exact HBX.out _ _ b2) hg1 (fun j hj => by first | exact (ho1.lt _ hj).1 | exact (ho2.lt _ hj).1 | (cases hj; exact Nat.le_refl _) | (cases hj; exact Nat.le_succ _)))
          | (refine step_append_row _ (by rfl) (.tmp 33) (.tmp 36) 39 (by rfl) w.heap.size 9 i0 _ 1 16 Tryd.underlying39 hi0 hz0 hz1 hz2 rfl (by decide) (.slice (some ⟨w.heap.size + 1, 0, none⟩) 0 0) 0 [] (by rfl) (HOC.out _) w.heap.size (A) k c _ (by rfl) (HRN.out _ _) HNIL.out HON1.out P1.out P2.out (by simp <;> omega) ?_; intro v1 wx ho1 hg1 hv1; have b1 : Below w.heap.size w wx := bel1 (by first | exact HBA.out _ | exact HBA0.out _ | exact HBB.out _ _ | exact HBB0.out _ _ | exact b1 | exact HBX.out _ _ b1 | exact b2 | exact HBX.out _ _ b2) hg1 (fun j hj => by first | exact (ho1.lt _ hj).1 | exact (ho2.lt _ hj).1 | (cases hj; exact Nat.le_refl _) | (cases hj; exact Nat.le_succ _)))
          | (refine step_append_row _ (by rfl) (.tmp 37) (.tmp 39) 39 (by rfl) w.heap.size 9 i0 _ 1 16 Tryd.underlying39 hi0 hz0 hz1 hz2 rfl (by decide) v1 (0 + k) ([] ++ (l.take k).map .string) (by rfl) (ho1.alloc _) (wx.heap.size + 1) (some ⟨wx.heap.size, 0, none⟩) 1 1 [.string s] (by rfl) (one_str wx s _) (fun h => by cases h) HONX.out P3.out P4.out (Nat.le_trans b1.size (by simp)) ?_; intro v2 wy ho2 hg2 hv2; have b2 : Below w.heap.size w wy := bel1 (by first | exact HBA.out _ | exact HBA0.out _ | exact HBB.out _ _ | exact HBB0.out _ _ | exact b1 | exact HBX.out _ _ b1 | exact b2 | exact HBX.out _ _ b2) hg2 (fun j hj => by first | exact (ho1.lt _ hj).1 | exact (ho2.lt _ hj).1 | (cases hj; exact Nat.le_refl _) | (cases hj; exact Nat.le_succ _)))
          | (refine step_append_row _ (by rfl) (.tmp 37) (.tmp 39) 39 (by rfl) w.heap.size 9 i0 _ 1 16 Tryd.underlying39 hi0 hz0 hz1 hz2 rfl (by decide) v1 (0 + k) ([] ++ (l.take k).map .string) (by rfl) ho1 (w.heap.size + 2) (some ⟨w.heap.size + 1, 0, none⟩) 1 1 [.string s] (by rfl) (row_grown (RowIn.drew H1B.out) (by simp <;> omega) (by simp [Value.ownBlock] <;> omega) hg1) (fun h => by cases h) HONX.out P3.out P4.out (Nat.le_trans b1.size (by simp)) ?_; intro v2 wy ho2 hg2 hv2; have b2 : Below w.heap.size w wy := bel1 (by first | exact HBA.out _ | exact HBA0.out _ | exact HBB.out _ _ | exact HBB0.out _ _ | exact b1 | exact HBX.out _ _ b1 | exact b2 | exact HBX.out _ _ b2) hg2 (fun j hj => by first | exact (ho1.lt _ hj).1 | exact (ho2.lt _ hj).1 | (cases hj; exact Nat.le_refl _) | (cases hj; exact Nat.le_succ _)))
          | (refine step_append_row _ (by rfl) (.tmp 37) (.tmp 39) 39 (by rfl) w.heap.size 9 i0 _ 1 16 Tryd.underlying39 hi0 hz0 hz1 hz2 rfl (by decide) v1 (0 + k) ([] ++ (l.take k).map .string) (by rfl) ho1 (w.heap.size + 1) (some ⟨w.heap.size, 0, none⟩) 1 1 [.string s] (by rfl) (row_grown (RowIn.drew H1C.out) (by simp <;> omega) (by simp [Value.ownBlock] <;> omega) hg1) (fun h => by cases h) HONX.out P3.out P4.out (Nat.le_trans b1.size (by simp)) ?_; intro v2 wy ho2 hg2 hv2; have b2 : Below w.heap.size w wy := bel1 (by first | exact HBA.out _ | exact HBA0.out _ | exact HBB.out _ _ | exact HBB0.out _ _ | exact b1 | exact HBX.out _ _ b1 | exact b2 | exact HBX.out _ _ b2) hg2 (fun j hj => by first | exact (ho1.lt _ hj).1 | exact (ho2.lt _ hj).1 | (cases hj; exact Nat.le_refl _) | (cases hj; exact Nat.le_succ _)))
          | (refine step_append_row _ (by rfl) (.tmp 40) (.tmp 43) 39 (by rfl) w.heap.size 9 i0 _ 1 16 Tryd.underlying39 hi0 hz0 hz1 hz2 rfl (by decide) v2 (0 + k + 1) ([] ++ (l.take k).map .string ++ [.string s]) (by rfl) ho2 w.heap.size (if c = k then A else A.map (·.add k)) (n - k) (c - k) _ (by rfl) (HR2.out.below b2) HNI2.out HON2.out P5.out P6.out b2.size ?_; intro v3 wz ho3 hg3 hv3; have b3 : Below w.heap.size w wz := bel1 b2 hg3 (fun j hj => (ho2.lt _ hj).1)))
      all_goals
        go_wp2_with fail
      all_goals
        obtain ⟨A9, c9, hr9⟩ := own_shape ho3
        subst hr9
        go_ret
        obtain ⟨r1, r2⟩ := HRS.out
        refine ⟨A9, c9, ?_, ?_, b3⟩
        · rw [r1]; rfl
        · rw [r1, r2]; exact own_mono ho3 hbase

theorem isd_no {es : List Ev} {t n : Int} {src : ByteArray} {l : List Ro} (h : goesD l src t n = false) : IsDiff es t src n l [] := ⟨fun _ => rfl, fun h2 => by rw [h] at h2; cases h2⟩
/-- Names so far. -/
def NmTo (l : List Ev) (t : Int) (want : List Ro) (k : Nat) (ns : List ByteArray) : Prop := IsNames (fun y => rlB l t y || (findR (want.take k) y).isSome) ns
theorem NmTo.next {l : List Ev} {t : Int} {want : List Ro} {k : Nat} {ns : List ByteArray} {r : Ro} (h : NmTo l t want k ns) (hr : want[k]? = some r) : NmTo l t want (k + 1) (putP ns r.name) := by
  refine ⟨putP_rise h.1 _, fun y => ?_⟩
  rw [putP_mem, h.2 y]
  show ((rlB l t y || (findR (want.take k) y).isSome) = true ∨ y = r.name) ↔ (rlB l t y || (findR (want.take (k + 1)) y).isSome) = true
  rw [Bool.or_eq_true, Bool.or_eq_true, findR_isSome, findR_isSome, take_snoc hr, List.map_append, List.mem_append, or_assoc]
  simp
theorem NmTo.fin {l : List Ev} {t : Int} {want : List Ro} {ns : List ByteArray} (hr : Rising l) (h : NmTo l t want want.length ns) : NamesD l t want ns := by
  refine ⟨h.1, fun y => ?_⟩
  rw [h.2 y, List.take_length]
  show (rlB l t y || _) = true ↔ (whB l t (fun _ => true) y || _) = true
  rw [rl_wh hr]

def NSee (g j : Nat) (nm : ByteArray) (b : Nat) (r : Ro) (W : World) : Prop := W.cell? ⟨g, j, none⟩ = some (.string nm) ∧ W.cell? ⟨b, 4, none⟩ = some (.int .i64 r.stock)
def RSee (b : Nat) (r : Ro) (W : World) : Prop := W.cell? ⟨b, 1, none⟩ = some (.string r.maker) ∧ W.cell? ⟨b, 2, none⟩ = some (.string r.tags) ∧ W.cell? ⟨b, 3, none⟩ = some (.int .i64 r.price)
theorem RSee.far {b e : Nat} {r : Ro} {W : World} (h : RSee b r W) (hne : b ≠ e) (i : Nat) (v : Value) : RSee b r (W.setCell ⟨e, i, none⟩ v) :=
  ⟨(World.cell?_setCell_far _ ⟨e, i, none⟩ ⟨b, 1, none⟩ _ (Ne.symm hne)).trans h.1, (World.cell?_setCell_far _ ⟨e, i, none⟩ ⟨b, 2, none⟩ _ (Ne.symm hne)).trans h.2.1, (World.cell?_setCell_far _ ⟨e, i, none⟩ ⟨b, 3, none⟩ _ (Ne.symm hne)).trans h.2.2⟩
set_option maxHeartbeats 8000000 in
set_option maxRecDepth 100000 in
theorem rdiff_any (w : World) (B : Nat) (A : Option Addr) (l : List Ev) (n c : Nat) (t : Int) (src : ByteArray) (num : Int) (A2 : Option Addr) (want : List Ro) (m c2 : Nat) (hn : l.length = n) (hl : EvsAt w B A l) (hB : B ≤ w.heap.size) (hb : n ≤ 1000) (hsh : ∀ e ∈ l, EvSh e) (hkd : ∀ e ∈ l, e.kind = 11 ∨ e.kind = 12 ∨ e.kind = 13) (hri : Rising l) (hsrc : src.size ≤ 1000000)
    (hm : want.length = m) (hr : RowIn w B 5 A2 m (want.flatMap roC)) (hmb : m ≤ 1000) (hmc : m ≤ c2) (hfew : ∀ r ∈ want, RoFew r) :
    Calls Tryd.prog 14 #[.slice A n c, .int .i64 t, .string src, .int .i64 num, .slice A2 m c2] w fun e w' => ∃ (A' : Option Addr) (c' : Nat) (out : List Ev), e = .returned (.slice A' out.length c') ∧ IsDiff l t src num want out ∧ out.length ≤ 4000 ∧ EvsAt w' w'.heap.size A' out ∧ Below w.heap.size w w' := by
  have HN := Lib.hid hn
  have HL := Lib.hid hl
  have HES := Lib.hid hsh
  have HKD := Lib.hid hkd
  have HRI := Lib.hid hri
  have HM := Lib.hid hm
  have HR := Lib.hid hr
  have HFEW := Lib.hid hfew
  have HAL := Lib.hid (rall_any w B A2 want m c2 hm hr hB hmb hmc hfew)
  have HNO : Hid (∀ W, Below w.heap.size w W → goesD want src t num = false → ∃ (A' : Option Addr) (c' : Nat) (out : List Ev), Ending.returned (.slice none 0 0) = .returned (.slice A' out.length c') ∧ IsDiff l t src num want out ∧ out.length ≤ 4000 ∧ EvsAt W W.heap.size A' out ∧ Below w.heap.size w W) := Lib.hid (fun W hW h => ⟨none, 0, [], rfl, isd_no h, by simp, RowIn.nil _ _ _ _, hW⟩)
  clear hn hl hsh hkd hri hm hr hfew
  go_enter Tryd.func14, Tryd.ntmps14
  go_wp2_with fail
  refine HAL.out.mono ?_
  rintro e w1 ⟨rfl, hb1⟩
  have HB1 := Lib.hid hb1
  clear hb1 HAL
  cases q0 : okL want
  · have HG0 : Hid (goesD want src t num = false) := Lib.hid (by unfold goesD; rw [q0]; rfl)
    clear q0
    go_wp2_with fail
    go_ret
    exact HNO.out _ HB1.out HG0.out
  have HQ0 := Lib.hid q0
  clear q0
  have HNS := Lib.hid (rname_any src w1 (by unfold maxLen; omega))
  go_wp2_with fail
  refine HNS.out.mono ?_
  rintro e w2 ⟨rfl, rfl⟩
  clear HNS
  cases q1 : nameB src
  · have HG0 : Hid (goesD want src t num = false) := Lib.hid (by unfold goesD; rw [q1]; simp)
    clear q1
    go_wp2_with fail
    go_ret
    exact HNO.out _ HB1.out HG0.out
  have HQ1 := Lib.hid q1
  clear q1
  by_cases q2 : t < 0
  · have HG0 : Hid (goesD want src t num = false) := Lib.hid (by unfold goesD; rw [decide_eq_false (show ¬ 0 ≤ t from by omega)]; simp)
    go_wp2_with fail
    go_ret
    exact HNO.out _ HB1.out HG0.out
  have d2 : decide (t < 0) = false := decide_eq_false q2
  by_cases q3 : 1099511627776 < t
  · have HG0 : Hid (goesD want src t num = false) := Lib.hid (by unfold goesD; rw [decide_eq_false (show ¬ t ≤ 1099511627776 from by omega)]; simp)
    go_wp2_with fail
    go_ret
    exact HNO.out _ HB1.out HG0.out
  have d3 : decide (1099511627776 < t) = false := decide_eq_false q3
  by_cases q4 : num < 1
  · have HG0 : Hid (goesD want src t num = false) := Lib.hid (by unfold goesD; rw [decide_eq_false (show ¬ 1 ≤ num from by omega)]; simp)
    go_wp2_with fail
    go_ret
    exact HNO.out _ HB1.out HG0.out
  have d4 : decide (num < 1) = false := decide_eq_false q4
  have HGO : Hid (goesD want src t num = true) := Lib.hid (by
    unfold goesD
    rw [HQ0.out, HQ1.out, decide_eq_true (show 0 ≤ t from by omega), decide_eq_true (show t ≤ 1099511627776 from by omega), decide_eq_true (show 1 ≤ num from by omega)]
    rfl)
  clear HQ0 HQ1 HNO
  have HRN := Lib.hid (refnames_any w1 B A l n c t HN.out (HL.out.keep (fun p hp => HB1.out.cell (Nat.lt_of_lt_of_le hp hB))) (Nat.le_trans hB HB1.out.size) (by omega) HES.out HKD.out)
  go_wp2_with fail
  refine HRN.out.mono ?_
  rintro e w2 ⟨A3, c3, ks, rfl, hks, hkl, hown, hb2⟩
  have HB2 : Hid (Below w.heap.size w w2) := Lib.hid (HB1.out.trans (hb2.mono HB1.out.size))
  obtain ⟨bs, hbs⟩ : ∃ bs, w1.heap.size = bs := ⟨_, rfl⟩
  rw [hbs] at hown
  have HOW := Lib.hid hown
  have HKL := Lib.hid hkl
  have HBS : Hid (bs ≤ w2.heap.size) := Lib.hid (by rw [← hbs]; exact hb2.size)
  have HNM : Hid (NmTo l t want 0 ks) := Lib.hid (by
    refine ⟨hks.1, fun y => ?_⟩
    rw [hks.2 y]
    show _ ↔ (rlB l t y || (findR [] y).isSome) = true
    rw [show (findR [] y).isSome = false from rfl, Bool.or_false])
  clear hks hkl hown hb2 HRN hbs
  go_wp2_with fail
  obtain ⟨w0, rfl⟩ : ∃ w0, w0 = w2 := ⟨_, rfl⟩
  go_loopw [11, 12] (fun v i wr => ∃ (k q c5 : Nat) (A5 : Option Addr), k ≤ m ∧ i = .int .i64 k ∧ v = .slice A5 q c5 ∧ q ≤ n + k ∧ Hid (∃ ns, ns.length = q ∧ NmTo l t want k ns ∧ wr.ownsRow bs 9 1 (.slice A5 q c5) q (ns.map .string)) ∧ Hid (bs ≤ wr.heap.size) ∧ Hid (Below w.heap.size w wr)) (fun _ i _ => m - (intOf i).toNat)
  case atStart => exact ⟨0, ks.length, c3, A3, Nat.zero_le _, rfl, rfl, HKL.out, Lib.hid ⟨ks, rfl, HNM.out, HOW.out⟩, HBS, HB2⟩
  case round =>
    obtain ⟨k, q, c5, A5, hk, rfl, rfl, hqk, hns, hbz, hbw⟩ := hrel
    clear HB2 HOW HNM HKL HBS
    by_cases hlt : k < m
    · obtain ⟨r, hr⟩ : ∃ r, want[k]? = some r := ⟨want[k]'(by rw [HM.out]; exact hlt), List.getElem?_eq_getElem _⟩
      obtain ⟨g, o, rfl, hgB, hcl⟩ := ro_at HR.out (by omega)
      obtain ⟨f0, _⟩ := hcl k r hr
      have e0 : wr.cell? ⟨g, o + k * 5, none⟩ = some (.string r.name) := (hbw.out.cell (p := ⟨g, _, none⟩) (Nat.lt_of_lt_of_le hgB hB)).trans f0
      obtain ⟨ns, hnl, hnm, hown⟩ := hns.out
      have HPU := Lib.hid (put46_any wr A5 ns q c5 r.name bs hnl hown hbz.out (by omega))
      have HNX : Hid (NmTo l t want (k + 1) (putP ns r.name)) := Lib.hid (hnm.next hr)
      have HPL : Hid ((putP ns r.name).length ≤ q + 1) := Lib.hid (by have := putP_len ns r.name; omega)
      have hk8 : (k : Int) < (m : Int) := by omega
      have hk9 : (0 : Int) ≤ (k : Int) := by omega
      clear hcl hr f0 hnl hnm hown hns
      go_wp2_with fail
      refine HPU.out.mono ?_
      rintro e w6 ⟨A6, c6, rfl, ho6, hb6⟩
      have HO6 := Lib.hid ho6
      have HB6 : Hid (Below w.heap.size w w6) := Lib.hid (hbw.out.trans (hb6.mono hbw.out.size))
      have HZ6 : Hid (bs ≤ w6.heap.size) := Lib.hid (Nat.le_trans hbz.out hb6.size)
      obtain ⟨ns6, hns6⟩ : ∃ ns6, putP ns r.name = ns6 := ⟨_, rfl⟩
      rw [hns6] at HO6 HNX HPL ⊢
      obtain ⟨q6, hq6⟩ : ∃ q6, ns6.length = q6 := ⟨_, rfl⟩
      have HQ6 := Lib.hid hq6
      rw [hq6] at HO6 HPL ⊢
      have hq7 : q6 ≤ q + 1 := HPL.out
      clear ho6 hb6 HPU hq6 hns6 e0
      go_wp2_with fail
      go_roundw
      case rel => exact ⟨k + 1, q6, c6, A6, by omega, by go_num, rfl, by omega, Lib.hid ⟨ns6, HQ6.out, HNX.out, HO6.out⟩, HZ6, HB6⟩
      case measure => simp [intOf]; omega
    obtain rfl : m = k := by omega
    obtain ⟨ns, hnl, hnm, hown⟩ := hns.out
    have HND : Hid (NamesD l t want ns) := Lib.hid (by rw [← HM.out] at hnm; exact hnm.fin HRI.out)
    have HNL := Lib.hid hnl
    have HRW : Hid (RowIn wr wr.heap.size 1 A5 q (ns.map .string)) := Lib.hid (RowIn.of_own hown)
    obtain ⟨wB, rfl⟩ : ∃ wB, wB = wr := ⟨_, rfl⟩
    clear hnl hnm hown hns
    go_wp2_with fail
    obtain ⟨b2, hb2⟩ : ∃ b2, wB.heap.size = b2 := ⟨_, rfl⟩
    have HZB := Lib.hid hb2
    have HBB : Hid (Below w.heap.size w wB) := hbw
    have HWB : Hid (w.heap.size ≤ b2) := Lib.hid (by rw [← hb2]; exact hbw.out.size)
    rw [hb2] at HRW
    clear hb2 hbw hbz
    have hq2 : q ≤ 2000 := by omega
    go_loopw [13, 14] (fun v i wr => ∃ (k p c8 : Nat) (A8 : Option Addr), k ≤ q ∧ i = .int .i64 k ∧ v = .slice A8 p c8 ∧ p ≤ 2 * k ∧ Hid ((rawD l t src want (ns.take k)).length = p) ∧ Hid (wr.ownsRow b2 37 8 (.slice A8 p c8) p ((numD num (rawD l t src want (ns.take k))).flatMap evC)) ∧ Hid (Below b2 wB wr)) (fun _ i _ => q - (intOf i).toNat)
    case atStart => exact ⟨0, 0, 0, none, Nat.zero_le _, rfl, rfl, Nat.zero_le _, Lib.hid rfl, Lib.hid (own_nil _ _ _ _), Lib.hid (Below.refl _ _)⟩
    case round =>
      obtain ⟨k, p, c8, A8, hk, rfl, rfl, hpk, hpl, hrow, hbw2⟩ := hrel
      have hz2 : b2 ≤ wr.heap.size := by have := hbw2.out.size; have := HZB.out; omega
      have HBW : Hid (Below w.heap.size w wr) := Lib.hid (HBB.out.trans (hbw2.out.mono HWB.out))
      by_cases hlt : k < q
      · obtain ⟨nm, hnm⟩ : ∃ nm, ns[k]? = some nm := ⟨ns[k]'(by rw [HNL.out]; exact hlt), List.getElem?_eq_getElem _⟩
        obtain ⟨g, o, rfl, hgB, hcl⟩ := HRW.out.at (by omega)
        have e0 : wr.cell? ⟨g, o + k, none⟩ = some (.string nm) := (hbw2.out.cell (p := ⟨g, o + k, none⟩) hgB).trans (hcl k _ (by simp [hnm]))
        have HNMC : Hid (wB.cell? ⟨g, o + k, none⟩ = some (.string nm)) := Lib.hid (hcl k _ (by simp [hnm]))
        have HTK : Hid (rawD l t src want (ns.take (k + 1)) = rawD l t src want (ns.take k) ++ (tellsOf l t want nm).map (mkE src 0 t nm)) := Lib.hid (by rw [take_snoc hnm, rawD_snoc])
        obtain ⟨x, hx⟩ : ∃ x, (atP l nm t).getD it0 = x := ⟨_, rfl⟩
        have HXX := Lib.hid hx
        have hrx : rx (rst l nm t) = x := by rw [← hx, at_ahead HRI.out]; rfl
        obtain ⟨bx, hbx⟩ : ∃ bx, (rst l nm t).isSome = bx := ⟨_, rfl⟩
        have HAT : Hid (Calls Tryd.prog 34 #[.slice A n c, .string nm, .int .i64 t] wr fun e w' => e = .returned (.tuple #[.agg #[.string x.name, .string x.maker, .string x.tags, .int .i64 x.stock, .int .i64 x.price, .int .i64 x.born, .bool x.listed], .bool bx]) ∧ Below wr.heap.size wr w') := Lib.hid (by
          have h := refat_any wr B A l n c nm t HN.out (HL.out.keep (fun p hp => HBW.out.cell (Nat.lt_of_lt_of_le hp hB))) (Nat.le_trans hB HBW.out.size) (by omega) HES.out HKD.out
          unfold rtoldP itA at h
          rw [hrx, hbx] at h
          exact h)
        have hk8 : (k : Int) < (q : Int) := by omega
        have hk9 : (0 : Int) ≤ (k : Int) := by omega
        have hgr : g < wr.heap.size := by omega
        clear hcl hnm hx hrx hbx
        go_wp2_with fail
        refine HAT.out.mono ?_
        rintro e w6 ⟨rfl, hb6⟩
        have HB6 := Lib.hid hb6
        have hz6 : wr.heap.size ≤ w6.heap.size := hb6.size
        have e6 : w6.cell? ⟨g, o + k, none⟩ = some (.string nm) := (hb6.cell (p := ⟨g, o + k, none⟩) hgr).trans e0
        have hg6 : g < w6.heap.size := by omega
        clear e0 HAT hb6
        go_wp2_with fail
        obtain ⟨nv, hnv⟩ : ∃ nv, wrap64 (num + (p : Int)) = nv := ⟨_, rfl⟩
        have HNV : Hid (IntKind.i64.wrap (num + (p : Int)) = nv) := Lib.hid (by rw [IntWalk.i64_left]; exact hnv)
        rw [hnv]
        obtain ⟨eb, heb⟩ : ∃ eb, w6.heap.size + 1 = eb := ⟨_, rfl⟩
        have HEQ := Lib.hid heb
        obtain ⟨w8, hw8⟩ : ∃ w8, (w6.alloc (.cells #[.string x.name, .string x.maker, .string x.tags, .int .i64 x.stock, .int .i64 x.price, .int .i64 x.born, .bool x.listed] 67)).alloc (.cells #[.string src, .int .i64 nv, .int .i64 t, .int .i64 0, .string ⟨#[]⟩, .string nm, .int .i64 0, .string ⟨#[]⟩] 37) = w8 := ⟨_, rfl⟩
        have HX8 : Hid (Blk w8 w6.heap.size 67 #[.string x.name, .string x.maker, .string x.tags, .int .i64 x.stock, .int .i64 x.price, .int .i64 x.born, .bool x.listed]) := Lib.hid (by rw [← hw8]; exact (Blk.new _ _ _).alloc _)
        have HE8 : Hid (Blk w8 eb 37 #[.string src, .int .i64 nv, .int .i64 t, .int .i64 0, .string ⟨#[]⟩, .string nm, .int .i64 0, .string ⟨#[]⟩]) := Lib.hid (by
          rw [← hw8, ← heb]
          have := Blk.new (w6.alloc (.cells #[.string x.name, .string x.maker, .string x.tags, .int .i64 x.stock, .int .i64 x.price, .int .i64 x.born, .bool x.listed] 67)) 37 #[.string src, .int .i64 nv, .int .i64 t, .int .i64 0, .string ⟨#[]⟩, .string nm, .int .i64 0, .string ⟨#[]⟩]
          rwa [show (w6.alloc (.cells #[.string x.name, .string x.maker, .string x.tags, .int .i64 x.stock, .int .i64 x.price, .int .i64 x.born, .bool x.listed] 67)).heap.size = w6.heap.size + 1 from by simp] at this)
        have HB8 : Hid (Below wr.heap.size wr w8) := Lib.hid (by rw [← hw8]; exact (HB6.out.alloc hz6 _).alloc (by simp; omega) _)
        have HEB : Hid (wr.heap.size ≤ eb) := Lib.hid (by omega)
        rw [hw8, heb]
        obtain ⟨LX, hLX⟩ : ∃ LX, rawD l t src want (ns.take k) = LX := ⟨_, rfl⟩
        rw [hLX] at HTK hpl hrow
        have HLX : Hid (LX.length = p) := hpl
        have hz8 : wr.heap.size ≤ w8.heap.size := HB8.out.size
        have HFD := Lib.hid (rfind_any w8 B A2 want m c2 nm HM.out (HR.out.keep (fun p hp => (HBW.out.trans (HB8.out.mono HBW.out.size)).cell (Nat.lt_of_lt_of_le hp hB))) hmb)
        obtain ⟨i0, hi0, hz0, hz1, hz3⟩ := info_parts ev_info
        clear hnv hw8 heb e6 hLX hpl
        refine HFD.out.mono ?_
        rintro e wx ⟨i, rfl, hfi, hwx⟩
        obtain rfl : w8 = wx := hwx.symm
        clear HFD

        rcases hfi with ⟨rfl, hf⟩ | ⟨k1, r, rfl, hr1, hf⟩
        · have HTL : Hid (tellsOf l t want nm = [(13, 0, ⟨#[]⟩)]) := Lib.hid (by unfold tellsOf; rw [hf]; rfl)
          have y0 : w8.cell? ⟨eb, 0, none⟩ = some (.string src) := HE8.out.cell 0
          have y3 : w8.cell? ⟨eb, 3, none⟩ = some (.int .i64 0) := HE8.out.cell 3
          have j3 : w8.frozen? ⟨eb, 3, none⟩ = false := HE8.out.frozen 3
          have HS9 : Hid (Blk (w8.setCell ⟨eb, 3, none⟩ (.int .i64 13)) eb 37 #[.string src, .int .i64 nv, .int .i64 t, .int .i64 13, .string ⟨#[]⟩, .string nm, .int .i64 0, .string ⟨#[]⟩]) := Lib.hid (HE8.out.set_ 3 _)
          have z0 : (w8.setCell ⟨eb, 3, none⟩ (.int .i64 13)).cell? ⟨eb, 0, none⟩ = some (.string src) := HS9.out.cell 0
          have z1 : (w8.setCell ⟨eb, 3, none⟩ (.int .i64 13)).cell? ⟨eb, 1, none⟩ = some (.int .i64 nv) := HS9.out.cell 1
          have z2 : (w8.setCell ⟨eb, 3, none⟩ (.int .i64 13)).cell? ⟨eb, 2, none⟩ = some (.int .i64 t) := HS9.out.cell 2
          have z3 : (w8.setCell ⟨eb, 3, none⟩ (.int .i64 13)).cell? ⟨eb, 3, none⟩ = some (.int .i64 13) := HS9.out.cell 3
          have z4 : (w8.setCell ⟨eb, 3, none⟩ (.int .i64 13)).cell? ⟨eb, 4, none⟩ = some (.string ⟨#[]⟩) := HS9.out.cell 4
          have z5 : (w8.setCell ⟨eb, 3, none⟩ (.int .i64 13)).cell? ⟨eb, 5, none⟩ = some (.string nm) := HS9.out.cell 5
          have z6 : (w8.setCell ⟨eb, 3, none⟩ (.int .i64 13)).cell? ⟨eb, 6, none⟩ = some (.int .i64 0) := HS9.out.cell 6
          have z7 : (w8.setCell ⟨eb, 3, none⟩ (.int .i64 13)).cell? ⟨eb, 7, none⟩ = some (.string ⟨#[]⟩) := HS9.out.cell 7
          have HB9 : Hid (Below wr.heap.size wr (w8.setCell ⟨eb, 3, none⟩ (.int .i64 13))) := Lib.hid (HB8.out.setCell (p := ⟨eb, 3, none⟩) HEB.out _)
          have HO9 : Hid ((w8.setCell ⟨eb, 3, none⟩ (.int .i64 13)).ownsRow b2 37 8 (.slice A8 p c8) p ((numD num LX).flatMap evC)) := Lib.hid (owns_kept hrow.out (below_kept (S := fun _ => False) HB9.out (Nat.le_refl _)) (fun _ _ h => h))
          clear hf
          have HR11x : Hid (RowIn ((w8.setCell ⟨eb, 3, none⟩ (.int .i64 13)).alloc (.cells #[.string src, .int .i64 nv, .int .i64 t, .int .i64 13, .string ⟨#[]⟩, .string nm, .int .i64 0, .string ⟨#[]⟩] 37)) (w8.heap.size + 1) 8 (some ⟨w8.heap.size, 0, none⟩) 1 (evC ⟨src, nv, t, 13, ⟨#[]⟩, nm, 0, ⟨#[]⟩⟩)) := Lib.hid (by
            have := ev1_row (w8.setCell ⟨eb, 3, none⟩ (.int .i64 13)) ⟨src, nv, t, 13, ⟨#[]⟩, nm, 0, ⟨#[]⟩⟩ 37
            rw [show (w8.setCell ⟨eb, 3, none⟩ (.int .i64 13)).heap.size = w8.heap.size from by simp] at this
            exact this)
          have HO11x := Lib.hid (HO9.out.alloc (.cells #[.string src, .int .i64 nv, .int .i64 t, .int .i64 13, .string ⟨#[]⟩, .string nm, .int .i64 0, .string ⟨#[]⟩] 37))
          have hz11x : b2 ≤ ((w8.setCell ⟨eb, 3, none⟩ (.int .i64 13)).alloc (.cells #[.string src, .int .i64 nv, .int .i64 t, .int .i64 13, .string ⟨#[]⟩, .string nm, .int .i64 0, .string ⟨#[]⟩] 37)).heap.size := by simp; omega
          have HE111 : Hid (∀ u ∈ evC ⟨src, nv, t, 13, ⟨#[]⟩, nm, 0, ⟨#[]⟩⟩, u.oneCell' = true) := Lib.hid (fun u hu => evC_one [⟨src, nv, t, 13, ⟨#[]⟩, nm, 0, ⟨#[]⟩⟩] u (by simpa using hu))
          go_wp2_with (first
            | (at_builtin; refine wpList_append_row _ rfl _ _ 22 rfl b2 37 i0 _ 8 96 Tryd.underlying22 hi0 hz0 hz1 hz3 rfl (by omega) (.slice A8 (p) c8) (p) _ rfl HO11x.out _ _ 1 1 _ rfl HR11x.out (fun h => by cases h) HE111.out (by unfold maxLen; omega) (by omega) hz11x ?_; intro v11 w11 ho11 hg11 hv11; obtain ⟨A11, c11, hv⟩ := own_shape ho11; subst hv))
          have HF : Hid (numD num (rawD l t src want (ns.take (k + 1))) = numD num LX ++ [⟨src, nv, t, 13, ⟨#[]⟩, nm, 0, ⟨#[]⟩⟩]) := Lib.hid (by
            rw [HTK.out, HTL.out, List.map_cons, List.map_nil, numD_snoc, HLX.out, HNV.out]
            rfl)
          have HZ11 : Hid (Below b2 wB w11) := Lib.hid ((hbw2.out.trans ((HB9.out.alloc (by simp; omega) _).mono hz2)).grown hg11 (by simp; omega) (fun j hj => (hrow.out.lt _ hj).1))
          go_wp2_with fail
          go_roundw
          case rel =>
            refine ⟨k + 1, p + 1, c11, A11, by omega, by go_num, rfl, by omega, Lib.hid ?_, Lib.hid ?_, HZ11⟩
            · rw [HTK.out, HTL.out, List.length_append, HLX.out]; rfl
            · rw [HF.out, List.flatMap_append, List.flatMap_cons, List.flatMap_nil, List.append_nil]; exact ho11
          case measure => simp [intOf]; omega
        · have hk1m : k1 < m := by have := (List.getElem?_eq_some_iff.1 hr1).1; rw [HM.out] at this; exact this
          obtain ⟨g2, o2, rfl, hg2B, hcl2⟩ := ro_at HR.out (by omega)
          have HRC : Hid (∀ W, Below w.heap.size w W → W.cell? ⟨g2, o2 + k1 * 5, none⟩ = some (.string r.name) ∧ W.cell? ⟨g2, o2 + k1 * 5 + 1, none⟩ = some (.string r.maker) ∧ W.cell? ⟨g2, o2 + k1 * 5 + 2, none⟩ = some (.string r.tags) ∧ W.cell? ⟨g2, o2 + k1 * 5 + 3, none⟩ = some (.int .i64 r.price) ∧ W.cell? ⟨g2, o2 + k1 * 5 + 4, none⟩ = some (.int .i64 r.stock)) := Lib.hid (fun W hW => by
            obtain ⟨f0, f1, f2, f3, f4⟩ := hcl2 k1 r hr1
            have hg2w := Nat.lt_of_lt_of_le hg2B hB
            exact ⟨(hW.cell (p := ⟨g2, _, none⟩) hg2w).trans f0, (hW.cell (p := ⟨g2, _, none⟩) hg2w).trans f1, (hW.cell (p := ⟨g2, _, none⟩) hg2w).trans f2, (hW.cell (p := ⟨g2, _, none⟩) hg2w).trans f3, (hW.cell (p := ⟨g2, _, none⟩) hg2w).trans f4⟩)
          obtain ⟨r0, r1, r2, r3, r4⟩ := HRC.out w8 (HBW.out.trans (HB8.out.mono HBW.out.size))
          have hk1a : decide ((k1 : Int) < 0) = false := decide_eq_false (by omega)
          have hk1b : (k1 : Int) < (m : Int) := by omega
          have hk1c : (0 : Int) ≤ (k1 : Int) := by omega
          have HTL : Hid (tellsOf l t want nm = tell1 x (some r)) := Lib.hid (by unfold tellsOf; rw [hf, HXX.out])
          have hrsz := HFEW.out r (findR_some hf).1
          unfold RoFew at hrsz
          have hrs1 : r.maker.size ≤ 600 := by omega
          have hrs2 : r.tags.size ≤ 600 := by omega
          have hrs3 : (r.maker ++ ⟨#[59]⟩ : ByteArray).size ≤ 601 := by
            rw [ByteArray.size_append]
            show r.maker.size + 1 ≤ 601
            omega
          have x1 : w8.cell? ⟨w6.heap.size, 1, none⟩ = some (.string x.maker) := HX8.out.cell 1
          have x2 : w8.cell? ⟨w6.heap.size, 2, none⟩ = some (.string x.tags) := HX8.out.cell 2
          have x3 : w8.cell? ⟨w6.heap.size, 3, none⟩ = some (.int .i64 x.stock) := HX8.out.cell 3
          have x4 : w8.cell? ⟨w6.heap.size, 4, none⟩ = some (.int .i64 x.price) := HX8.out.cell 4
          have x6 : w8.cell? ⟨w6.heap.size, 6, none⟩ = some (.bool x.listed) := HX8.out.cell 6
          have hx8 : w6.heap.size < w8.heap.size := HX8.out.lt
          obtain ⟨w9, hw9⟩ : ∃ w9, w8.alloc (.cells #[.string r.name, .string r.maker, .string r.tags, .int .i64 r.price, .int .i64 r.stock] 46) = w9 := ⟨_, rfl⟩
          have HR9 : Hid (Blk w9 w8.heap.size 46 #[.string r.name, .string r.maker, .string r.tags, .int .i64 r.price, .int .i64 r.stock]) := Lib.hid (by rw [← hw9]; exact Blk.new _ _ _)
          have HX9 : Hid (Blk w9 w6.heap.size 67 #[.string x.name, .string x.maker, .string x.tags, .int .i64 x.stock, .int .i64 x.price, .int .i64 x.born, .bool x.listed]) := Lib.hid (by rw [← hw9]; exact HX8.out.alloc _)
          have HE9 : Hid (Blk w9 eb 37 #[.string src, .int .i64 nv, .int .i64 t, .int .i64 0, .string ⟨#[]⟩, .string nm, .int .i64 0, .string ⟨#[]⟩]) := Lib.hid (by rw [← hw9]; exact HE8.out.alloc _)
          have HB9 : Hid (Below wr.heap.size wr w9) := Lib.hid (by rw [← hw9]; exact HB8.out.alloc HB8.out.size _)
          have HW9 := Lib.hid hw9
          have HBE : Hid (w8.heap.size ≠ eb) := Lib.hid (by have := HE8.out.lt; omega)
          have HXE : Hid (w6.heap.size ≠ eb) := Lib.hid (by have := HEQ.out; omega)
          clear hw9 hcl2 hr1 hf hg2B hrsz

          by_cases hl1 : x.listed = false
          · have HPC : Hid (¬ (x.listed = true ∧ x.maker = r.maker ∧ x.tags = r.tags ∧ x.price = r.price)) := Lib.hid (fun h => by rw [hl1] at h; cases h.1)
            go_wp2_with fail
            try rw [HW9.out]
            obtain ⟨wd, hwd⟩ : ∃ wd, w9.drew = wd := ⟨_, rfl⟩
            have HRd : Hid (Blk wd w8.heap.size 46 #[.string r.name, .string r.maker, .string r.tags, .int .i64 r.price, .int .i64 r.stock]) := Lib.hid (by rw [← hwd]; exact HR9.out.drew)
            have HXd : Hid (Blk wd w6.heap.size 67 #[.string x.name, .string x.maker, .string x.tags, .int .i64 x.stock, .int .i64 x.price, .int .i64 x.born, .bool x.listed]) := Lib.hid (by rw [← hwd]; exact HX9.out.drew)
            have HEd : Hid (Blk wd eb 37 #[.string src, .int .i64 nv, .int .i64 t, .int .i64 0, .string ⟨#[]⟩, .string nm, .int .i64 0, .string ⟨#[]⟩]) := Lib.hid (by rw [← hwd]; exact HE9.out.drew)
            have HBd : Hid (Below wr.heap.size wr wd) := Lib.hid (by rw [← hwd]; exact below_drew HB9.out)
            have HS0 : Hid (RSee w8.heap.size r w9.drew) := Lib.hid (by rw [hwd]; exact ⟨HRd.out.cell 1, HRd.out.cell 2, HRd.out.cell 3⟩)
            refine wp_plan (RSee w8.heap.size r) [(0, false), (1, false), (2, false), (3, false), (4, false), (5, false), (6, false), (7, false), (8, false), (9, true), (10, false), (11, true), (12, false), (13, true)] (by kernel_rfl) (by kernel_rfl) HS0.out ?_
            rw [hwd] at HS0 ⊢
            clear hwd
            have y3 : wd.cell? ⟨eb, 3, none⟩ = some (.int .i64 0) := HEd.out.cell 3
            have y6 : wd.cell? ⟨eb, 6, none⟩ = some (.int .i64 0) := HEd.out.cell 6
            have y7 : wd.cell? ⟨eb, 7, none⟩ = some (.string ⟨#[]⟩) := HEd.out.cell 7
            have j3 : wd.frozen? ⟨eb, 3, none⟩ = false := HEd.out.frozen 3
            have j6 : wd.frozen? ⟨eb, 6, none⟩ = false := HEd.out.frozen 6
            have j7 : wd.frozen? ⟨eb, 7, none⟩ = false := HEd.out.frozen 7
            simp only [planL, List.getElem?_cons_zero, List.getElem?_cons_succ]
            iterate 2 (refine plan_on _ (by rfl) (fun W hW => by (obtain ⟨v1, v2, v3⟩ := hW; go_simp; try with_reducible rfl)) ?_; simp only [Act.put, List.setIfInBounds_toArray, List.set_cons_zero, List.set_cons_succ])
            refine plan_on (.string (r.maker ++ ⟨#[59]⟩)) (by rfl) (fun W hW => by (go_simp; try omega)) ?_
            simp only [Act.put, List.setIfInBounds_toArray, List.set_cons_zero, List.set_cons_succ]
            iterate 2 (refine plan_on _ (by rfl) (fun W hW => by (obtain ⟨v1, v2, v3⟩ := hW; go_simp; try with_reducible rfl)) ?_; simp only [Act.put, List.setIfInBounds_toArray, List.set_cons_zero, List.set_cons_succ])
            refine plan_on (.string (r.maker ++ ⟨#[59]⟩ ++ r.tags)) (by rfl) (fun W hW => by (go_simp; try omega)) ?_
            simp only [Act.put, List.setIfInBounds_toArray, List.set_cons_zero, List.set_cons_succ]
            repeat (first | (refine plan_on _ (by rfl) (fun W hW => by (obtain ⟨v1, v2, v3⟩ := hW; go_simp; try with_reducible rfl)) ?_; simp only [Act.put, List.setIfInBounds_toArray, List.set_cons_zero, List.set_cons_succ]) | (refine plan_off (by rfl) ?_; simp only [Act.put, List.setIfInBounds_toArray, List.set_cons_zero, List.set_cons_succ]))
            refine plan_turn ?_
            go_wp2_with fail
            refine ⟨HS0.out.far HBE.out _ _, ?_⟩
            repeat (first | (refine plan_on _ (by rfl) (fun W hW => by (obtain ⟨v1, v2, v3⟩ := hW; go_simp; try with_reducible rfl)) ?_; simp only [Act.put, List.setIfInBounds_toArray, List.set_cons_zero, List.set_cons_succ]) | (refine plan_off (by rfl) ?_; simp only [Act.put, List.setIfInBounds_toArray, List.set_cons_zero, List.set_cons_succ]))
            refine plan_turn ?_
            go_wp2_with fail
            refine ⟨(HS0.out.far HBE.out _ _).far HBE.out _ _, ?_⟩
            repeat (first | (refine plan_on _ (by rfl) (fun W hW => by (obtain ⟨v1, v2, v3⟩ := hW; go_simp; try with_reducible rfl)) ?_; simp only [Act.put, List.setIfInBounds_toArray, List.set_cons_zero, List.set_cons_succ]) | (refine plan_off (by rfl) ?_; simp only [Act.put, List.setIfInBounds_toArray, List.set_cons_zero, List.set_cons_succ]))
            refine plan_turn ?_
            go_wp2_with fail
            refine ⟨((HS0.out.far HBE.out _ _).far HBE.out _ _).far HBE.out _ _, ?_⟩
            refine plan_done ?_
            obtain ⟨ws, hws⟩ : ∃ ws, ((wd.setCell ⟨eb, 3, none⟩ (.int .i64 11)).setCell ⟨eb, 7, none⟩ (.string (r.maker ++ ⟨#[59]⟩ ++ r.tags))).setCell ⟨eb, 6, none⟩ (.int .i64 r.price) = ws := ⟨_, rfl⟩
            have HEs : Hid (Blk ws eb 37 #[.string src, .int .i64 nv, .int .i64 t, .int .i64 11, .string ⟨#[]⟩, .string nm, .int .i64 r.price, .string (r.maker ++ ⟨#[59]⟩ ++ r.tags)]) := Lib.hid (by rw [← hws]; exact ((HEd.out.set_ 3 _).set_ 7 _).set_ 6 _)
            have HXs : Hid (Blk ws w6.heap.size 67 #[.string x.name, .string x.maker, .string x.tags, .int .i64 x.stock, .int .i64 x.price, .int .i64 x.born, .bool x.listed]) := Lib.hid (by rw [← hws]; exact ((HXd.out.far HXE.out _).far HXE.out _).far HXE.out _)
            have HRs : Hid (Blk ws w8.heap.size 46 #[.string r.name, .string r.maker, .string r.tags, .int .i64 r.price, .int .i64 r.stock]) := Lib.hid (by rw [← hws]; exact ((HRd.out.far HBE.out _).far HBE.out _).far HBE.out _)
            have HBs : Hid (Below wr.heap.size wr ws) := Lib.hid (by rw [← hws]; exact ((HBd.out.setCell (p := ⟨eb, 3, none⟩) HEB.out _).setCell (p := ⟨eb, 7, none⟩) HEB.out _).setCell (p := ⟨eb, 6, none⟩) HEB.out _)
            have HOs : Hid (ws.ownsRow b2 37 8 (.slice A8 p c8) p ((numD num LX).flatMap evC)) := Lib.hid (owns_kept hrow.out (below_kept (S := fun _ => False) HBs.out (Nat.le_refl _)) (fun _ _ h => h))
            have hzs : wr.heap.size ≤ ws.heap.size := HBs.out.size
            rw [hws]
            clear hws y3 y6 y7 j3 j6 j7 HS0 HRd HXd HEd HBd
            have z0 : ws.cell? ⟨eb, 0, none⟩ = some (.string src) := HEs.out.cell 0
            have z1 : ws.cell? ⟨eb, 1, none⟩ = some (.int .i64 nv) := HEs.out.cell 1
            have z2 : ws.cell? ⟨eb, 2, none⟩ = some (.int .i64 t) := HEs.out.cell 2
            have z3 : ws.cell? ⟨eb, 3, none⟩ = some (.int .i64 11) := HEs.out.cell 3
            have z4 : ws.cell? ⟨eb, 4, none⟩ = some (.string ⟨#[]⟩) := HEs.out.cell 4
            have z5 : ws.cell? ⟨eb, 5, none⟩ = some (.string nm) := HEs.out.cell 5
            have z6 : ws.cell? ⟨eb, 6, none⟩ = some (.int .i64 r.price) := HEs.out.cell 6
            have z7 : ws.cell? ⟨eb, 7, none⟩ = some (.string (r.maker ++ ⟨#[59]⟩ ++ r.tags)) := HEs.out.cell 7
            have HNA : Hid (∀ j, (Value.slice A8 p c8).ownBlock = some j → j < wr.heap.size) := Lib.hid (fun j h => (hrow.out.lt j h).2)
            have HPT : Hid (numD num (LX ++ [mkE src 0 t nm (11, r.price, r.maker ++ ⟨#[59]⟩ ++ r.tags)]) = numD num LX ++ [⟨src, nv, t, 11, ⟨#[]⟩, nm, r.price, r.maker ++ ⟨#[59]⟩ ++ r.tags⟩]) := Lib.hid (by rw [numD_snoc, HLX.out, HNV.out]; rfl)
            clear r0 r1 r2 r3 r4 x1 x2 x3 x4 x6
            by_cases qs : x.stock = r.stock
            · have qs2 : (x.stock != r.stock) = false := by simp [qs]
              have HF : Hid (rawD l t src want (ns.take (k + 1)) = LX ++ [mkE src 0 t nm (11, r.price, r.maker ++ ⟨#[59]⟩ ++ r.tags)]) := Lib.hid (by rw [HTK.out, HTL.out]; unfold tell1; dsimp only; rw [if_neg HPC.out, if_pos qs]; rfl)
              clear qs
              have HR21x : Hid (RowIn ((ws).alloc (.cells #[.string src, .int .i64 nv, .int .i64 t, .int .i64 11, .string ⟨#[]⟩, .string nm, .int .i64 r.price, .string (r.maker ++ ⟨#[59]⟩ ++ r.tags)] 37)) (ws.heap.size + 1) 8 (some ⟨ws.heap.size, 0, none⟩) 1 (evC ⟨src, nv, t, 11, ⟨#[]⟩, nm, r.price, r.maker ++ ⟨#[59]⟩ ++ r.tags⟩)) := Lib.hid (by
                have := ev1_row (ws) ⟨src, nv, t, 11, ⟨#[]⟩, nm, r.price, r.maker ++ ⟨#[59]⟩ ++ r.tags⟩ 37
                rw [show (ws).heap.size = ws.heap.size from by simp] at this
                exact this)
              have HO21x := Lib.hid (HOs.out.alloc (.cells #[.string src, .int .i64 nv, .int .i64 t, .int .i64 11, .string ⟨#[]⟩, .string nm, .int .i64 r.price, .string (r.maker ++ ⟨#[59]⟩ ++ r.tags)] 37))
              have hz21x : b2 ≤ ((ws).alloc (.cells #[.string src, .int .i64 nv, .int .i64 t, .int .i64 11, .string ⟨#[]⟩, .string nm, .int .i64 r.price, .string (r.maker ++ ⟨#[59]⟩ ++ r.tags)] 37)).heap.size := by simp; omega
              have HE121 : Hid (∀ u ∈ evC ⟨src, nv, t, 11, ⟨#[]⟩, nm, r.price, r.maker ++ ⟨#[59]⟩ ++ r.tags⟩, u.oneCell' = true) := Lib.hid (fun u hu => evC_one [⟨src, nv, t, 11, ⟨#[]⟩, nm, r.price, r.maker ++ ⟨#[59]⟩ ++ r.tags⟩] u (by simpa using hu))
              go_wp2_with (first
                | (at_builtin; refine wpList_append_row _ rfl _ _ 22 rfl b2 37 i0 _ 8 96 Tryd.underlying22 hi0 hz0 hz1 hz3 rfl (by omega) (.slice A8 (p) c8) (p) _ rfl HO21x.out _ _ 1 1 _ rfl HR21x.out (fun h => by cases h) HE121.out (by unfold maxLen; omega) (by omega) hz21x ?_; intro v21 w21 ho21 hg21 hv21; obtain ⟨A21, c21, hv⟩ := own_shape ho21; subst hv; have x3v : w21.cell? ⟨w6.heap.size, 3, none⟩ = some (.int .i64 x.stock) := ((HXs.out.alloc _).grown hg21 (fun e => by have := HNA.out _ e.symm; omega)).cell 3; have r4v : w21.cell? ⟨w8.heap.size, 4, none⟩ = some (.int .i64 r.stock) := ((HRs.out.alloc _).grown hg21 (fun e => by have := HNA.out _ e.symm; omega)).cell 4))
              have HBv : Hid (Below b2 wB w21) := Lib.hid ((hbw2.out.trans ((HBs.out.alloc hzs _).mono hz2)).grown hg21 (by simp; omega) (fun j hj => (hrow.out.lt _ hj).1))
              go_roundw
              case rel =>
                refine ⟨k + 1, p + 1, c21, A21, by omega, by go_num, rfl, by omega, Lib.hid ?_, Lib.hid ?_, HBv⟩
                · rw [HF.out, List.length_append, HLX.out]; rfl
                · rw [HF.out, HPT.out, List.flatMap_append, List.flatMap_cons, List.flatMap_nil, List.append_nil]; exact ho21
              case measure => simp [intOf]; omega
            · have qs2 : (x.stock != r.stock) = true := by rw [bne_iff_ne]; exact qs
              have HF : Hid (rawD l t src want (ns.take (k + 1)) = LX ++ [mkE src 0 t nm (11, r.price, r.maker ++ ⟨#[59]⟩ ++ r.tags)] ++ [mkE src 0 t nm (12, r.stock, ⟨#[]⟩)]) := Lib.hid (by rw [HTK.out, HTL.out, List.append_assoc]; unfold tell1; dsimp only; rw [if_neg HPC.out, if_neg qs]; rfl)
              clear qs
              have HR21x : Hid (RowIn ((ws).alloc (.cells #[.string src, .int .i64 nv, .int .i64 t, .int .i64 11, .string ⟨#[]⟩, .string nm, .int .i64 r.price, .string (r.maker ++ ⟨#[59]⟩ ++ r.tags)] 37)) (ws.heap.size + 1) 8 (some ⟨ws.heap.size, 0, none⟩) 1 (evC ⟨src, nv, t, 11, ⟨#[]⟩, nm, r.price, r.maker ++ ⟨#[59]⟩ ++ r.tags⟩)) := Lib.hid (by
                have := ev1_row (ws) ⟨src, nv, t, 11, ⟨#[]⟩, nm, r.price, r.maker ++ ⟨#[59]⟩ ++ r.tags⟩ 37
                rw [show (ws).heap.size = ws.heap.size from by simp] at this
                exact this)
              have HO21x := Lib.hid (HOs.out.alloc (.cells #[.string src, .int .i64 nv, .int .i64 t, .int .i64 11, .string ⟨#[]⟩, .string nm, .int .i64 r.price, .string (r.maker ++ ⟨#[59]⟩ ++ r.tags)] 37))
              have hz21x : b2 ≤ ((ws).alloc (.cells #[.string src, .int .i64 nv, .int .i64 t, .int .i64 11, .string ⟨#[]⟩, .string nm, .int .i64 r.price, .string (r.maker ++ ⟨#[59]⟩ ++ r.tags)] 37)).heap.size := by simp; omega
              have HE121 : Hid (∀ u ∈ evC ⟨src, nv, t, 11, ⟨#[]⟩, nm, r.price, r.maker ++ ⟨#[59]⟩ ++ r.tags⟩, u.oneCell' = true) := Lib.hid (fun u hu => evC_one [⟨src, nv, t, 11, ⟨#[]⟩, nm, r.price, r.maker ++ ⟨#[59]⟩ ++ r.tags⟩] u (by simpa using hu))
              go_wp2_with (first
                | (at_builtin; refine wpList_append_row _ rfl _ _ 22 rfl b2 37 i0 _ 8 96 Tryd.underlying22 hi0 hz0 hz1 hz3 rfl (by omega) (.slice A8 (p) c8) (p) _ rfl HO21x.out _ _ 1 1 _ rfl HR21x.out (fun h => by cases h) HE121.out (by unfold maxLen; omega) (by omega) hz21x ?_; intro v21 w21 ho21 hg21 hv21; obtain ⟨A21, c21, hv⟩ := own_shape ho21; subst hv; have x3v : w21.cell? ⟨w6.heap.size, 3, none⟩ = some (.int .i64 x.stock) := ((HXs.out.alloc _).grown hg21 (fun e => by have := HNA.out _ e.symm; omega)).cell 3; have r4v : w21.cell? ⟨w8.heap.size, 4, none⟩ = some (.int .i64 r.stock) := ((HRs.out.alloc _).grown hg21 (fun e => by have := HNA.out _ e.symm; omega)).cell 4))
              have HBv : Hid (Below b2 wB w21) := Lib.hid ((hbw2.out.trans ((HBs.out.alloc hzs _).mono hz2)).grown hg21 (by simp; omega) (fun j hj => (hrow.out.lt _ hj).1))
              have HRv : Hid (Blk w21 w8.heap.size 46 #[.string r.name, .string r.maker, .string r.tags, .int .i64 r.price, .int .i64 r.stock]) := Lib.hid ((HRs.out.alloc _).grown hg21 (fun e => by have := HNA.out _ e.symm; omega))
              have HOv := Lib.hid ho21
              have HZv : Hid (b2 ≤ w21.heap.size) := Lib.hid (by have := HBv.out.size; have := HZB.out; omega)
              obtain ⟨nv2, hnv2⟩ : ∃ nv2, wrap64 (num + ((p : Int) + 1)) = nv2 := ⟨_, rfl⟩
              have HNV2 : Hid (IntKind.i64.wrap (num + ((p : Int) + 1)) = nv2) := Lib.hid (by rw [IntWalk.i64_left]; exact hnv2)
              have HSn : Hid (∀ X, Below w21.heap.size w21 X → NSee g (o + k) nm w8.heap.size r X) := Lib.hid (fun X hX => ⟨((HBv.out.trans (hX.mono HZv.out)).cell (p := ⟨g, o + k, none⟩) hgB).trans HNMC.out, (hX.cell (p := ⟨w8.heap.size, 4, none⟩) HRv.out.lt).trans (HRv.out.cell 4)⟩)
              refine wp_planN (fun X => Below w21.heap.size w21 X) [(0, 1), (1, 1), (2, 1), (3, 1), (4, 1), (5, 1), (6, 1), (7, 1), (8, 1), (9, 1), (10, 1), (11, 1), (12, 1), (13, 1), (14, 2), (15, 3), (16, 0)] (by kernel_rfl) (by kernel_rfl) (below_drew (Below.refl _ _)) ?_
              simp only [planNL, List.getElem?_cons_zero, List.getElem?_cons_succ]
              repeat (first | (refine planN_on _ (by rfl) (fun X hX => by (obtain ⟨v1, v2⟩ := HSn.out X hX; go_simp; try with_reducible rfl)) ?_; simp only [Act.put, List.setIfInBounds_toArray, List.set_cons_zero, List.set_cons_succ]) | (refine planN_off (by rfl) ?_; simp only [Act.put, List.setIfInBounds_toArray, List.set_cons_zero, List.set_cons_succ]))
              refine planN_turn ?_
              go_wp2_with fail
              rw [hnv2]
              obtain ⟨wq, hwq⟩ : ∃ wq, (w21.alloc (.cells #[.string src, .int .i64 nv2, .int .i64 t, .int .i64 12, .string ⟨#[]⟩, .string nm, .int .i64 r.stock, .string ⟨#[]⟩] 37)).drew = wq := ⟨_, rfl⟩
              rw [hwq]
              have HBq : Hid (Below w21.heap.size w21 wq) := Lib.hid (by rw [← hwq]; exact below_drew ((Below.refl _ _).alloc (Nat.le_refl _) _))
              have HRq : Hid (RowIn wq (w21.heap.size + 1) 8 (some ⟨w21.heap.size, 0, none⟩) 1 (evC ⟨src, nv2, t, 12, ⟨#[]⟩, nm, r.stock, ⟨#[]⟩⟩)) := Lib.hid (by rw [← hwq]; exact (ev1_row w21 ⟨src, nv2, t, 12, ⟨#[]⟩, nm, r.stock, ⟨#[]⟩⟩ 37).drew)
              have HOq := Lib.hid (owns_kept HOv.out (below_kept (S := fun _ => False) HBq.out (Nat.le_refl _)) (fun _ _ h => h))
              have HE1q : Hid (∀ u ∈ evC ⟨src, nv2, t, 12, ⟨#[]⟩, nm, r.stock, ⟨#[]⟩⟩, u.oneCell' = true) := Lib.hid (fun u hu => evC_one [⟨src, nv2, t, 12, ⟨#[]⟩, nm, r.stock, ⟨#[]⟩⟩] u (by simpa using hu))
              have hzq : b2 ≤ wq.heap.size := Nat.le_trans HZv.out HBq.out.size
              clear hwq
              refine ⟨HBq.out, ?_⟩
              refine planN_last ?_
              go_wp2_with (first
                | (at_builtin; refine wpList_append_row _ rfl _ _ 22 rfl b2 37 i0 _ 8 96 Tryd.underlying22 hi0 hz0 hz1 hz3 rfl (by omega) (.slice A21 (p + 1) c21) (p + 1) _ rfl HOq.out _ _ 1 1 _ rfl HRq.out (fun h => by cases h) HE1q.out (by unfold maxLen; omega) (by omega) hzq ?_; intro v31 w31 ho31 hg31 hv31))
              obtain ⟨A31, c31, hv⟩ := own_shape ho31
              subst hv
              have HZ31 : Hid (Below b2 wB w31) := Lib.hid ((HBv.out.trans (HBq.out.mono HZv.out)).grown hg31 hzq (fun j hj => (HOq.out.lt _ hj).1))
              refine planN_on0 _ (by rfl) (fun X _ => by (go_simp; try with_reducible rfl)) ?_
              simp only [Act.put, List.setIfInBounds_toArray, List.set_cons_zero, List.set_cons_succ]
              refine planN_done ?_
              go_wp2_with fail
              go_roundw
              case rel =>
                refine ⟨k + 1, p + 1 + 1, c31, A31, by omega, by go_num, rfl, by omega, Lib.hid ?_, Lib.hid ?_, HZ31⟩
                · rw [HF.out, List.length_append, show (LX ++ [mkE src 0 t nm (11, r.price, r.maker ++ ⟨#[59]⟩ ++ r.tags)]).length = p + 1 from by rw [List.length_append, HLX.out]; rfl]; rfl
                · rw [HF.out, numD_snoc, show (LX ++ [mkE src 0 t nm (11, r.price, r.maker ++ ⟨#[59]⟩ ++ r.tags)]).length = p + 1 from by rw [List.length_append, HLX.out]; rfl, HPT.out]
                  have he : setNum (mkE src 0 t nm (12, r.stock, ⟨#[]⟩)) (IntKind.i64.wrap (num + ((p + 1 : Nat) : Int))) = ⟨src, nv2, t, 12, ⟨#[]⟩, nm, r.stock, ⟨#[]⟩⟩ := by
                    rw [show ((p + 1 : Nat) : Int) = ((p : Int) + 1) from by omega, HNV2.out]; rfl
                  rw [he]
                  simp only [List.flatMap_append, List.flatMap_cons, List.flatMap_nil, List.append_nil]
                  exact ho31
              case measure => simp [intOf]; omega
          rw [Bool.not_eq_false] at hl1
          have HL1 := Lib.hid hl1
          by_cases p2 : x.maker = r.maker
          rotate_left
          · have HPC : Hid (¬ (x.listed = true ∧ x.maker = r.maker ∧ x.tags = r.tags ∧ x.price = r.price)) := Lib.hid (fun h => p2 h.2.1)
            have f2 : (!x.maker.toList == r.maker.toList) = true := by rw [Bool.not_eq_true']; exact Bool.eq_false_iff.2 (fun e => p2 ((beq_list _ _).1 e))
            clear p2
            go_wp2_with fail
            try rw [HW9.out]
            obtain ⟨wd, hwd⟩ : ∃ wd, w9.drew = wd := ⟨_, rfl⟩
            have HRd : Hid (Blk wd w8.heap.size 46 #[.string r.name, .string r.maker, .string r.tags, .int .i64 r.price, .int .i64 r.stock]) := Lib.hid (by rw [← hwd]; exact HR9.out.drew)
            have HXd : Hid (Blk wd w6.heap.size 67 #[.string x.name, .string x.maker, .string x.tags, .int .i64 x.stock, .int .i64 x.price, .int .i64 x.born, .bool x.listed]) := Lib.hid (by rw [← hwd]; exact HX9.out.drew)
            have HEd : Hid (Blk wd eb 37 #[.string src, .int .i64 nv, .int .i64 t, .int .i64 0, .string ⟨#[]⟩, .string nm, .int .i64 0, .string ⟨#[]⟩]) := Lib.hid (by rw [← hwd]; exact HE9.out.drew)
            have HBd : Hid (Below wr.heap.size wr wd) := Lib.hid (by rw [← hwd]; exact below_drew HB9.out)
            have HS0 : Hid (RSee w8.heap.size r w9.drew) := Lib.hid (by rw [hwd]; exact ⟨HRd.out.cell 1, HRd.out.cell 2, HRd.out.cell 3⟩)
            refine wp_plan (RSee w8.heap.size r) [(0, false), (1, false), (2, false), (3, false), (4, false), (5, false), (6, false), (7, false), (8, false), (9, true), (10, false), (11, true), (12, false), (13, true)] (by kernel_rfl) (by kernel_rfl) HS0.out ?_
            rw [hwd] at HS0 ⊢
            clear hwd
            have y3 : wd.cell? ⟨eb, 3, none⟩ = some (.int .i64 0) := HEd.out.cell 3
            have y6 : wd.cell? ⟨eb, 6, none⟩ = some (.int .i64 0) := HEd.out.cell 6
            have y7 : wd.cell? ⟨eb, 7, none⟩ = some (.string ⟨#[]⟩) := HEd.out.cell 7
            have j3 : wd.frozen? ⟨eb, 3, none⟩ = false := HEd.out.frozen 3
            have j6 : wd.frozen? ⟨eb, 6, none⟩ = false := HEd.out.frozen 6
            have j7 : wd.frozen? ⟨eb, 7, none⟩ = false := HEd.out.frozen 7
            simp only [planL, List.getElem?_cons_zero, List.getElem?_cons_succ]
            iterate 2 (refine plan_on _ (by rfl) (fun W hW => by (obtain ⟨v1, v2, v3⟩ := hW; go_simp; try with_reducible rfl)) ?_; simp only [Act.put, List.setIfInBounds_toArray, List.set_cons_zero, List.set_cons_succ])
            refine plan_on (.string (r.maker ++ ⟨#[59]⟩)) (by rfl) (fun W hW => by (go_simp; try omega)) ?_
            simp only [Act.put, List.setIfInBounds_toArray, List.set_cons_zero, List.set_cons_succ]
            iterate 2 (refine plan_on _ (by rfl) (fun W hW => by (obtain ⟨v1, v2, v3⟩ := hW; go_simp; try with_reducible rfl)) ?_; simp only [Act.put, List.setIfInBounds_toArray, List.set_cons_zero, List.set_cons_succ])
            refine plan_on (.string (r.maker ++ ⟨#[59]⟩ ++ r.tags)) (by rfl) (fun W hW => by (go_simp; try omega)) ?_
            simp only [Act.put, List.setIfInBounds_toArray, List.set_cons_zero, List.set_cons_succ]
            repeat (first | (refine plan_on _ (by rfl) (fun W hW => by (obtain ⟨v1, v2, v3⟩ := hW; go_simp; try with_reducible rfl)) ?_; simp only [Act.put, List.setIfInBounds_toArray, List.set_cons_zero, List.set_cons_succ]) | (refine plan_off (by rfl) ?_; simp only [Act.put, List.setIfInBounds_toArray, List.set_cons_zero, List.set_cons_succ]))
            refine plan_turn ?_
            go_wp2_with fail
            refine ⟨HS0.out.far HBE.out _ _, ?_⟩
            repeat (first | (refine plan_on _ (by rfl) (fun W hW => by (obtain ⟨v1, v2, v3⟩ := hW; go_simp; try with_reducible rfl)) ?_; simp only [Act.put, List.setIfInBounds_toArray, List.set_cons_zero, List.set_cons_succ]) | (refine plan_off (by rfl) ?_; simp only [Act.put, List.setIfInBounds_toArray, List.set_cons_zero, List.set_cons_succ]))
            refine plan_turn ?_
            go_wp2_with fail
            refine ⟨(HS0.out.far HBE.out _ _).far HBE.out _ _, ?_⟩
            repeat (first | (refine plan_on _ (by rfl) (fun W hW => by (obtain ⟨v1, v2, v3⟩ := hW; go_simp; try with_reducible rfl)) ?_; simp only [Act.put, List.setIfInBounds_toArray, List.set_cons_zero, List.set_cons_succ]) | (refine plan_off (by rfl) ?_; simp only [Act.put, List.setIfInBounds_toArray, List.set_cons_zero, List.set_cons_succ]))
            refine plan_turn ?_
            go_wp2_with fail
            refine ⟨((HS0.out.far HBE.out _ _).far HBE.out _ _).far HBE.out _ _, ?_⟩
            refine plan_done ?_
            obtain ⟨ws, hws⟩ : ∃ ws, ((wd.setCell ⟨eb, 3, none⟩ (.int .i64 11)).setCell ⟨eb, 7, none⟩ (.string (r.maker ++ ⟨#[59]⟩ ++ r.tags))).setCell ⟨eb, 6, none⟩ (.int .i64 r.price) = ws := ⟨_, rfl⟩
            have HEs : Hid (Blk ws eb 37 #[.string src, .int .i64 nv, .int .i64 t, .int .i64 11, .string ⟨#[]⟩, .string nm, .int .i64 r.price, .string (r.maker ++ ⟨#[59]⟩ ++ r.tags)]) := Lib.hid (by rw [← hws]; exact ((HEd.out.set_ 3 _).set_ 7 _).set_ 6 _)
            have HXs : Hid (Blk ws w6.heap.size 67 #[.string x.name, .string x.maker, .string x.tags, .int .i64 x.stock, .int .i64 x.price, .int .i64 x.born, .bool x.listed]) := Lib.hid (by rw [← hws]; exact ((HXd.out.far HXE.out _).far HXE.out _).far HXE.out _)
            have HRs : Hid (Blk ws w8.heap.size 46 #[.string r.name, .string r.maker, .string r.tags, .int .i64 r.price, .int .i64 r.stock]) := Lib.hid (by rw [← hws]; exact ((HRd.out.far HBE.out _).far HBE.out _).far HBE.out _)
            have HBs : Hid (Below wr.heap.size wr ws) := Lib.hid (by rw [← hws]; exact ((HBd.out.setCell (p := ⟨eb, 3, none⟩) HEB.out _).setCell (p := ⟨eb, 7, none⟩) HEB.out _).setCell (p := ⟨eb, 6, none⟩) HEB.out _)
            have HOs : Hid (ws.ownsRow b2 37 8 (.slice A8 p c8) p ((numD num LX).flatMap evC)) := Lib.hid (owns_kept hrow.out (below_kept (S := fun _ => False) HBs.out (Nat.le_refl _)) (fun _ _ h => h))
            have hzs : wr.heap.size ≤ ws.heap.size := HBs.out.size
            rw [hws]
            clear hws y3 y6 y7 j3 j6 j7 HS0 HRd HXd HEd HBd
            have z0 : ws.cell? ⟨eb, 0, none⟩ = some (.string src) := HEs.out.cell 0
            have z1 : ws.cell? ⟨eb, 1, none⟩ = some (.int .i64 nv) := HEs.out.cell 1
            have z2 : ws.cell? ⟨eb, 2, none⟩ = some (.int .i64 t) := HEs.out.cell 2
            have z3 : ws.cell? ⟨eb, 3, none⟩ = some (.int .i64 11) := HEs.out.cell 3
            have z4 : ws.cell? ⟨eb, 4, none⟩ = some (.string ⟨#[]⟩) := HEs.out.cell 4
            have z5 : ws.cell? ⟨eb, 5, none⟩ = some (.string nm) := HEs.out.cell 5
            have z6 : ws.cell? ⟨eb, 6, none⟩ = some (.int .i64 r.price) := HEs.out.cell 6
            have z7 : ws.cell? ⟨eb, 7, none⟩ = some (.string (r.maker ++ ⟨#[59]⟩ ++ r.tags)) := HEs.out.cell 7
            have HNA : Hid (∀ j, (Value.slice A8 p c8).ownBlock = some j → j < wr.heap.size) := Lib.hid (fun j h => (hrow.out.lt j h).2)
            have HPT : Hid (numD num (LX ++ [mkE src 0 t nm (11, r.price, r.maker ++ ⟨#[59]⟩ ++ r.tags)]) = numD num LX ++ [⟨src, nv, t, 11, ⟨#[]⟩, nm, r.price, r.maker ++ ⟨#[59]⟩ ++ r.tags⟩]) := Lib.hid (by rw [numD_snoc, HLX.out, HNV.out]; rfl)
            clear r0 r1 r2 r3 r4 x1 x2 x3 x4 x6
            by_cases qs : x.stock = r.stock
            · have qs2 : (x.stock != r.stock) = false := by simp [qs]
              have HF : Hid (rawD l t src want (ns.take (k + 1)) = LX ++ [mkE src 0 t nm (11, r.price, r.maker ++ ⟨#[59]⟩ ++ r.tags)]) := Lib.hid (by rw [HTK.out, HTL.out]; unfold tell1; dsimp only; rw [if_neg HPC.out, if_pos qs]; rfl)
              clear qs
              have HR21x : Hid (RowIn ((ws).alloc (.cells #[.string src, .int .i64 nv, .int .i64 t, .int .i64 11, .string ⟨#[]⟩, .string nm, .int .i64 r.price, .string (r.maker ++ ⟨#[59]⟩ ++ r.tags)] 37)) (ws.heap.size + 1) 8 (some ⟨ws.heap.size, 0, none⟩) 1 (evC ⟨src, nv, t, 11, ⟨#[]⟩, nm, r.price, r.maker ++ ⟨#[59]⟩ ++ r.tags⟩)) := Lib.hid (by
                have := ev1_row (ws) ⟨src, nv, t, 11, ⟨#[]⟩, nm, r.price, r.maker ++ ⟨#[59]⟩ ++ r.tags⟩ 37
                rw [show (ws).heap.size = ws.heap.size from by simp] at this
                exact this)
              have HO21x := Lib.hid (HOs.out.alloc (.cells #[.string src, .int .i64 nv, .int .i64 t, .int .i64 11, .string ⟨#[]⟩, .string nm, .int .i64 r.price, .string (r.maker ++ ⟨#[59]⟩ ++ r.tags)] 37))
              have hz21x : b2 ≤ ((ws).alloc (.cells #[.string src, .int .i64 nv, .int .i64 t, .int .i64 11, .string ⟨#[]⟩, .string nm, .int .i64 r.price, .string (r.maker ++ ⟨#[59]⟩ ++ r.tags)] 37)).heap.size := by simp; omega
              have HE121 : Hid (∀ u ∈ evC ⟨src, nv, t, 11, ⟨#[]⟩, nm, r.price, r.maker ++ ⟨#[59]⟩ ++ r.tags⟩, u.oneCell' = true) := Lib.hid (fun u hu => evC_one [⟨src, nv, t, 11, ⟨#[]⟩, nm, r.price, r.maker ++ ⟨#[59]⟩ ++ r.tags⟩] u (by simpa using hu))
              go_wp2_with (first
                | (at_builtin; refine wpList_append_row _ rfl _ _ 22 rfl b2 37 i0 _ 8 96 Tryd.underlying22 hi0 hz0 hz1 hz3 rfl (by omega) (.slice A8 (p) c8) (p) _ rfl HO21x.out _ _ 1 1 _ rfl HR21x.out (fun h => by cases h) HE121.out (by unfold maxLen; omega) (by omega) hz21x ?_; intro v21 w21 ho21 hg21 hv21; obtain ⟨A21, c21, hv⟩ := own_shape ho21; subst hv; have x3v : w21.cell? ⟨w6.heap.size, 3, none⟩ = some (.int .i64 x.stock) := ((HXs.out.alloc _).grown hg21 (fun e => by have := HNA.out _ e.symm; omega)).cell 3; have r4v : w21.cell? ⟨w8.heap.size, 4, none⟩ = some (.int .i64 r.stock) := ((HRs.out.alloc _).grown hg21 (fun e => by have := HNA.out _ e.symm; omega)).cell 4))
              have HBv : Hid (Below b2 wB w21) := Lib.hid ((hbw2.out.trans ((HBs.out.alloc hzs _).mono hz2)).grown hg21 (by simp; omega) (fun j hj => (hrow.out.lt _ hj).1))
              go_roundw
              case rel =>
                refine ⟨k + 1, p + 1, c21, A21, by omega, by go_num, rfl, by omega, Lib.hid ?_, Lib.hid ?_, HBv⟩
                · rw [HF.out, List.length_append, HLX.out]; rfl
                · rw [HF.out, HPT.out, List.flatMap_append, List.flatMap_cons, List.flatMap_nil, List.append_nil]; exact ho21
              case measure => simp [intOf]; omega
            · have qs2 : (x.stock != r.stock) = true := by rw [bne_iff_ne]; exact qs
              have HF : Hid (rawD l t src want (ns.take (k + 1)) = LX ++ [mkE src 0 t nm (11, r.price, r.maker ++ ⟨#[59]⟩ ++ r.tags)] ++ [mkE src 0 t nm (12, r.stock, ⟨#[]⟩)]) := Lib.hid (by rw [HTK.out, HTL.out, List.append_assoc]; unfold tell1; dsimp only; rw [if_neg HPC.out, if_neg qs]; rfl)
              clear qs
              have HR21x : Hid (RowIn ((ws).alloc (.cells #[.string src, .int .i64 nv, .int .i64 t, .int .i64 11, .string ⟨#[]⟩, .string nm, .int .i64 r.price, .string (r.maker ++ ⟨#[59]⟩ ++ r.tags)] 37)) (ws.heap.size + 1) 8 (some ⟨ws.heap.size, 0, none⟩) 1 (evC ⟨src, nv, t, 11, ⟨#[]⟩, nm, r.price, r.maker ++ ⟨#[59]⟩ ++ r.tags⟩)) := Lib.hid (by
                have := ev1_row (ws) ⟨src, nv, t, 11, ⟨#[]⟩, nm, r.price, r.maker ++ ⟨#[59]⟩ ++ r.tags⟩ 37
                rw [show (ws).heap.size = ws.heap.size from by simp] at this
                exact this)
              have HO21x := Lib.hid (HOs.out.alloc (.cells #[.string src, .int .i64 nv, .int .i64 t, .int .i64 11, .string ⟨#[]⟩, .string nm, .int .i64 r.price, .string (r.maker ++ ⟨#[59]⟩ ++ r.tags)] 37))
              have hz21x : b2 ≤ ((ws).alloc (.cells #[.string src, .int .i64 nv, .int .i64 t, .int .i64 11, .string ⟨#[]⟩, .string nm, .int .i64 r.price, .string (r.maker ++ ⟨#[59]⟩ ++ r.tags)] 37)).heap.size := by simp; omega
              have HE121 : Hid (∀ u ∈ evC ⟨src, nv, t, 11, ⟨#[]⟩, nm, r.price, r.maker ++ ⟨#[59]⟩ ++ r.tags⟩, u.oneCell' = true) := Lib.hid (fun u hu => evC_one [⟨src, nv, t, 11, ⟨#[]⟩, nm, r.price, r.maker ++ ⟨#[59]⟩ ++ r.tags⟩] u (by simpa using hu))
              go_wp2_with (first
                | (at_builtin; refine wpList_append_row _ rfl _ _ 22 rfl b2 37 i0 _ 8 96 Tryd.underlying22 hi0 hz0 hz1 hz3 rfl (by omega) (.slice A8 (p) c8) (p) _ rfl HO21x.out _ _ 1 1 _ rfl HR21x.out (fun h => by cases h) HE121.out (by unfold maxLen; omega) (by omega) hz21x ?_; intro v21 w21 ho21 hg21 hv21; obtain ⟨A21, c21, hv⟩ := own_shape ho21; subst hv; have x3v : w21.cell? ⟨w6.heap.size, 3, none⟩ = some (.int .i64 x.stock) := ((HXs.out.alloc _).grown hg21 (fun e => by have := HNA.out _ e.symm; omega)).cell 3; have r4v : w21.cell? ⟨w8.heap.size, 4, none⟩ = some (.int .i64 r.stock) := ((HRs.out.alloc _).grown hg21 (fun e => by have := HNA.out _ e.symm; omega)).cell 4))
              have HBv : Hid (Below b2 wB w21) := Lib.hid ((hbw2.out.trans ((HBs.out.alloc hzs _).mono hz2)).grown hg21 (by simp; omega) (fun j hj => (hrow.out.lt _ hj).1))
              have HRv : Hid (Blk w21 w8.heap.size 46 #[.string r.name, .string r.maker, .string r.tags, .int .i64 r.price, .int .i64 r.stock]) := Lib.hid ((HRs.out.alloc _).grown hg21 (fun e => by have := HNA.out _ e.symm; omega))
              have HOv := Lib.hid ho21
              have HZv : Hid (b2 ≤ w21.heap.size) := Lib.hid (by have := HBv.out.size; have := HZB.out; omega)
              obtain ⟨nv2, hnv2⟩ : ∃ nv2, wrap64 (num + ((p : Int) + 1)) = nv2 := ⟨_, rfl⟩
              have HNV2 : Hid (IntKind.i64.wrap (num + ((p : Int) + 1)) = nv2) := Lib.hid (by rw [IntWalk.i64_left]; exact hnv2)
              have HSn : Hid (∀ X, Below w21.heap.size w21 X → NSee g (o + k) nm w8.heap.size r X) := Lib.hid (fun X hX => ⟨((HBv.out.trans (hX.mono HZv.out)).cell (p := ⟨g, o + k, none⟩) hgB).trans HNMC.out, (hX.cell (p := ⟨w8.heap.size, 4, none⟩) HRv.out.lt).trans (HRv.out.cell 4)⟩)
              refine wp_planN (fun X => Below w21.heap.size w21 X) [(0, 1), (1, 1), (2, 1), (3, 1), (4, 1), (5, 1), (6, 1), (7, 1), (8, 1), (9, 1), (10, 1), (11, 1), (12, 1), (13, 1), (14, 2), (15, 3), (16, 0)] (by kernel_rfl) (by kernel_rfl) (below_drew (Below.refl _ _)) ?_
              simp only [planNL, List.getElem?_cons_zero, List.getElem?_cons_succ]
              repeat (first | (refine planN_on _ (by rfl) (fun X hX => by (obtain ⟨v1, v2⟩ := HSn.out X hX; go_simp; try with_reducible rfl)) ?_; simp only [Act.put, List.setIfInBounds_toArray, List.set_cons_zero, List.set_cons_succ]) | (refine planN_off (by rfl) ?_; simp only [Act.put, List.setIfInBounds_toArray, List.set_cons_zero, List.set_cons_succ]))
              refine planN_turn ?_
              go_wp2_with fail
              rw [hnv2]
              obtain ⟨wq, hwq⟩ : ∃ wq, (w21.alloc (.cells #[.string src, .int .i64 nv2, .int .i64 t, .int .i64 12, .string ⟨#[]⟩, .string nm, .int .i64 r.stock, .string ⟨#[]⟩] 37)).drew = wq := ⟨_, rfl⟩
              rw [hwq]
              have HBq : Hid (Below w21.heap.size w21 wq) := Lib.hid (by rw [← hwq]; exact below_drew ((Below.refl _ _).alloc (Nat.le_refl _) _))
              have HRq : Hid (RowIn wq (w21.heap.size + 1) 8 (some ⟨w21.heap.size, 0, none⟩) 1 (evC ⟨src, nv2, t, 12, ⟨#[]⟩, nm, r.stock, ⟨#[]⟩⟩)) := Lib.hid (by rw [← hwq]; exact (ev1_row w21 ⟨src, nv2, t, 12, ⟨#[]⟩, nm, r.stock, ⟨#[]⟩⟩ 37).drew)
              have HOq := Lib.hid (owns_kept HOv.out (below_kept (S := fun _ => False) HBq.out (Nat.le_refl _)) (fun _ _ h => h))
              have HE1q : Hid (∀ u ∈ evC ⟨src, nv2, t, 12, ⟨#[]⟩, nm, r.stock, ⟨#[]⟩⟩, u.oneCell' = true) := Lib.hid (fun u hu => evC_one [⟨src, nv2, t, 12, ⟨#[]⟩, nm, r.stock, ⟨#[]⟩⟩] u (by simpa using hu))
              have hzq : b2 ≤ wq.heap.size := Nat.le_trans HZv.out HBq.out.size
              clear hwq
              refine ⟨HBq.out, ?_⟩
              refine planN_last ?_
              go_wp2_with (first
                | (at_builtin; refine wpList_append_row _ rfl _ _ 22 rfl b2 37 i0 _ 8 96 Tryd.underlying22 hi0 hz0 hz1 hz3 rfl (by omega) (.slice A21 (p + 1) c21) (p + 1) _ rfl HOq.out _ _ 1 1 _ rfl HRq.out (fun h => by cases h) HE1q.out (by unfold maxLen; omega) (by omega) hzq ?_; intro v31 w31 ho31 hg31 hv31))
              obtain ⟨A31, c31, hv⟩ := own_shape ho31
              subst hv
              have HZ31 : Hid (Below b2 wB w31) := Lib.hid ((HBv.out.trans (HBq.out.mono HZv.out)).grown hg31 hzq (fun j hj => (HOq.out.lt _ hj).1))
              refine planN_on0 _ (by rfl) (fun X _ => by (go_simp; try with_reducible rfl)) ?_
              simp only [Act.put, List.setIfInBounds_toArray, List.set_cons_zero, List.set_cons_succ]
              refine planN_done ?_
              go_wp2_with fail
              go_roundw
              case rel =>
                refine ⟨k + 1, p + 1 + 1, c31, A31, by omega, by go_num, rfl, by omega, Lib.hid ?_, Lib.hid ?_, HZ31⟩
                · rw [HF.out, List.length_append, show (LX ++ [mkE src 0 t nm (11, r.price, r.maker ++ ⟨#[59]⟩ ++ r.tags)]).length = p + 1 from by rw [List.length_append, HLX.out]; rfl]; rfl
                · rw [HF.out, numD_snoc, show (LX ++ [mkE src 0 t nm (11, r.price, r.maker ++ ⟨#[59]⟩ ++ r.tags)]).length = p + 1 from by rw [List.length_append, HLX.out]; rfl, HPT.out]
                  have he : setNum (mkE src 0 t nm (12, r.stock, ⟨#[]⟩)) (IntKind.i64.wrap (num + ((p + 1 : Nat) : Int))) = ⟨src, nv2, t, 12, ⟨#[]⟩, nm, r.stock, ⟨#[]⟩⟩ := by
                    rw [show ((p + 1 : Nat) : Int) = ((p : Int) + 1) from by omega, HNV2.out]; rfl
                  rw [he]
                  simp only [List.flatMap_append, List.flatMap_cons, List.flatMap_nil, List.append_nil]
                  exact ho31
              case measure => simp [intOf]; omega
          have f2 : (!x.maker.toList == r.maker.toList) = false := by rw [(beq_list _ _).2 p2]; rfl
          have HP2 := Lib.hid p2
          clear p2
          by_cases p3 : x.tags = r.tags
          rotate_left
          · have HPC : Hid (¬ (x.listed = true ∧ x.maker = r.maker ∧ x.tags = r.tags ∧ x.price = r.price)) := Lib.hid (fun h => p3 h.2.2.1)
            have f3 : (!x.tags.toList == r.tags.toList) = true := by rw [Bool.not_eq_true']; exact Bool.eq_false_iff.2 (fun e => p3 ((beq_list _ _).1 e))
            clear p3
            go_wp2_with fail
            try rw [HW9.out]
            obtain ⟨wd, hwd⟩ : ∃ wd, w9.drew = wd := ⟨_, rfl⟩
            have HRd : Hid (Blk wd w8.heap.size 46 #[.string r.name, .string r.maker, .string r.tags, .int .i64 r.price, .int .i64 r.stock]) := Lib.hid (by rw [← hwd]; exact HR9.out.drew)
            have HXd : Hid (Blk wd w6.heap.size 67 #[.string x.name, .string x.maker, .string x.tags, .int .i64 x.stock, .int .i64 x.price, .int .i64 x.born, .bool x.listed]) := Lib.hid (by rw [← hwd]; exact HX9.out.drew)
            have HEd : Hid (Blk wd eb 37 #[.string src, .int .i64 nv, .int .i64 t, .int .i64 0, .string ⟨#[]⟩, .string nm, .int .i64 0, .string ⟨#[]⟩]) := Lib.hid (by rw [← hwd]; exact HE9.out.drew)
            have HBd : Hid (Below wr.heap.size wr wd) := Lib.hid (by rw [← hwd]; exact below_drew HB9.out)
            have HS0 : Hid (RSee w8.heap.size r w9.drew) := Lib.hid (by rw [hwd]; exact ⟨HRd.out.cell 1, HRd.out.cell 2, HRd.out.cell 3⟩)
            refine wp_plan (RSee w8.heap.size r) [(0, false), (1, false), (2, false), (3, false), (4, false), (5, false), (6, false), (7, false), (8, false), (9, true), (10, false), (11, true), (12, false), (13, true)] (by kernel_rfl) (by kernel_rfl) HS0.out ?_
            rw [hwd] at HS0 ⊢
            clear hwd
            have y3 : wd.cell? ⟨eb, 3, none⟩ = some (.int .i64 0) := HEd.out.cell 3
            have y6 : wd.cell? ⟨eb, 6, none⟩ = some (.int .i64 0) := HEd.out.cell 6
            have y7 : wd.cell? ⟨eb, 7, none⟩ = some (.string ⟨#[]⟩) := HEd.out.cell 7
            have j3 : wd.frozen? ⟨eb, 3, none⟩ = false := HEd.out.frozen 3
            have j6 : wd.frozen? ⟨eb, 6, none⟩ = false := HEd.out.frozen 6
            have j7 : wd.frozen? ⟨eb, 7, none⟩ = false := HEd.out.frozen 7
            simp only [planL, List.getElem?_cons_zero, List.getElem?_cons_succ]
            iterate 2 (refine plan_on _ (by rfl) (fun W hW => by (obtain ⟨v1, v2, v3⟩ := hW; go_simp; try with_reducible rfl)) ?_; simp only [Act.put, List.setIfInBounds_toArray, List.set_cons_zero, List.set_cons_succ])
            refine plan_on (.string (r.maker ++ ⟨#[59]⟩)) (by rfl) (fun W hW => by (go_simp; try omega)) ?_
            simp only [Act.put, List.setIfInBounds_toArray, List.set_cons_zero, List.set_cons_succ]
            iterate 2 (refine plan_on _ (by rfl) (fun W hW => by (obtain ⟨v1, v2, v3⟩ := hW; go_simp; try with_reducible rfl)) ?_; simp only [Act.put, List.setIfInBounds_toArray, List.set_cons_zero, List.set_cons_succ])
            refine plan_on (.string (r.maker ++ ⟨#[59]⟩ ++ r.tags)) (by rfl) (fun W hW => by (go_simp; try omega)) ?_
            simp only [Act.put, List.setIfInBounds_toArray, List.set_cons_zero, List.set_cons_succ]
            repeat (first | (refine plan_on _ (by rfl) (fun W hW => by (obtain ⟨v1, v2, v3⟩ := hW; go_simp; try with_reducible rfl)) ?_; simp only [Act.put, List.setIfInBounds_toArray, List.set_cons_zero, List.set_cons_succ]) | (refine plan_off (by rfl) ?_; simp only [Act.put, List.setIfInBounds_toArray, List.set_cons_zero, List.set_cons_succ]))
            refine plan_turn ?_
            go_wp2_with fail
            refine ⟨HS0.out.far HBE.out _ _, ?_⟩
            repeat (first | (refine plan_on _ (by rfl) (fun W hW => by (obtain ⟨v1, v2, v3⟩ := hW; go_simp; try with_reducible rfl)) ?_; simp only [Act.put, List.setIfInBounds_toArray, List.set_cons_zero, List.set_cons_succ]) | (refine plan_off (by rfl) ?_; simp only [Act.put, List.setIfInBounds_toArray, List.set_cons_zero, List.set_cons_succ]))
            refine plan_turn ?_
            go_wp2_with fail
            refine ⟨(HS0.out.far HBE.out _ _).far HBE.out _ _, ?_⟩
            repeat (first | (refine plan_on _ (by rfl) (fun W hW => by (obtain ⟨v1, v2, v3⟩ := hW; go_simp; try with_reducible rfl)) ?_; simp only [Act.put, List.setIfInBounds_toArray, List.set_cons_zero, List.set_cons_succ]) | (refine plan_off (by rfl) ?_; simp only [Act.put, List.setIfInBounds_toArray, List.set_cons_zero, List.set_cons_succ]))
            refine plan_turn ?_
            go_wp2_with fail
            refine ⟨((HS0.out.far HBE.out _ _).far HBE.out _ _).far HBE.out _ _, ?_⟩
            refine plan_done ?_
            obtain ⟨ws, hws⟩ : ∃ ws, ((wd.setCell ⟨eb, 3, none⟩ (.int .i64 11)).setCell ⟨eb, 7, none⟩ (.string (r.maker ++ ⟨#[59]⟩ ++ r.tags))).setCell ⟨eb, 6, none⟩ (.int .i64 r.price) = ws := ⟨_, rfl⟩
            have HEs : Hid (Blk ws eb 37 #[.string src, .int .i64 nv, .int .i64 t, .int .i64 11, .string ⟨#[]⟩, .string nm, .int .i64 r.price, .string (r.maker ++ ⟨#[59]⟩ ++ r.tags)]) := Lib.hid (by rw [← hws]; exact ((HEd.out.set_ 3 _).set_ 7 _).set_ 6 _)
            have HXs : Hid (Blk ws w6.heap.size 67 #[.string x.name, .string x.maker, .string x.tags, .int .i64 x.stock, .int .i64 x.price, .int .i64 x.born, .bool x.listed]) := Lib.hid (by rw [← hws]; exact ((HXd.out.far HXE.out _).far HXE.out _).far HXE.out _)
            have HRs : Hid (Blk ws w8.heap.size 46 #[.string r.name, .string r.maker, .string r.tags, .int .i64 r.price, .int .i64 r.stock]) := Lib.hid (by rw [← hws]; exact ((HRd.out.far HBE.out _).far HBE.out _).far HBE.out _)
            have HBs : Hid (Below wr.heap.size wr ws) := Lib.hid (by rw [← hws]; exact ((HBd.out.setCell (p := ⟨eb, 3, none⟩) HEB.out _).setCell (p := ⟨eb, 7, none⟩) HEB.out _).setCell (p := ⟨eb, 6, none⟩) HEB.out _)
            have HOs : Hid (ws.ownsRow b2 37 8 (.slice A8 p c8) p ((numD num LX).flatMap evC)) := Lib.hid (owns_kept hrow.out (below_kept (S := fun _ => False) HBs.out (Nat.le_refl _)) (fun _ _ h => h))
            have hzs : wr.heap.size ≤ ws.heap.size := HBs.out.size
            rw [hws]
            clear hws y3 y6 y7 j3 j6 j7 HS0 HRd HXd HEd HBd
            have z0 : ws.cell? ⟨eb, 0, none⟩ = some (.string src) := HEs.out.cell 0
            have z1 : ws.cell? ⟨eb, 1, none⟩ = some (.int .i64 nv) := HEs.out.cell 1
            have z2 : ws.cell? ⟨eb, 2, none⟩ = some (.int .i64 t) := HEs.out.cell 2
            have z3 : ws.cell? ⟨eb, 3, none⟩ = some (.int .i64 11) := HEs.out.cell 3
            have z4 : ws.cell? ⟨eb, 4, none⟩ = some (.string ⟨#[]⟩) := HEs.out.cell 4
            have z5 : ws.cell? ⟨eb, 5, none⟩ = some (.string nm) := HEs.out.cell 5
            have z6 : ws.cell? ⟨eb, 6, none⟩ = some (.int .i64 r.price) := HEs.out.cell 6
            have z7 : ws.cell? ⟨eb, 7, none⟩ = some (.string (r.maker ++ ⟨#[59]⟩ ++ r.tags)) := HEs.out.cell 7
            have HNA : Hid (∀ j, (Value.slice A8 p c8).ownBlock = some j → j < wr.heap.size) := Lib.hid (fun j h => (hrow.out.lt j h).2)
            have HPT : Hid (numD num (LX ++ [mkE src 0 t nm (11, r.price, r.maker ++ ⟨#[59]⟩ ++ r.tags)]) = numD num LX ++ [⟨src, nv, t, 11, ⟨#[]⟩, nm, r.price, r.maker ++ ⟨#[59]⟩ ++ r.tags⟩]) := Lib.hid (by rw [numD_snoc, HLX.out, HNV.out]; rfl)
            clear r0 r1 r2 r3 r4 x1 x2 x3 x4 x6
            by_cases qs : x.stock = r.stock
            · have qs2 : (x.stock != r.stock) = false := by simp [qs]
              have HF : Hid (rawD l t src want (ns.take (k + 1)) = LX ++ [mkE src 0 t nm (11, r.price, r.maker ++ ⟨#[59]⟩ ++ r.tags)]) := Lib.hid (by rw [HTK.out, HTL.out]; unfold tell1; dsimp only; rw [if_neg HPC.out, if_pos qs]; rfl)
              clear qs
              have HR21x : Hid (RowIn ((ws).alloc (.cells #[.string src, .int .i64 nv, .int .i64 t, .int .i64 11, .string ⟨#[]⟩, .string nm, .int .i64 r.price, .string (r.maker ++ ⟨#[59]⟩ ++ r.tags)] 37)) (ws.heap.size + 1) 8 (some ⟨ws.heap.size, 0, none⟩) 1 (evC ⟨src, nv, t, 11, ⟨#[]⟩, nm, r.price, r.maker ++ ⟨#[59]⟩ ++ r.tags⟩)) := Lib.hid (by
                have := ev1_row (ws) ⟨src, nv, t, 11, ⟨#[]⟩, nm, r.price, r.maker ++ ⟨#[59]⟩ ++ r.tags⟩ 37
                rw [show (ws).heap.size = ws.heap.size from by simp] at this
                exact this)
              have HO21x := Lib.hid (HOs.out.alloc (.cells #[.string src, .int .i64 nv, .int .i64 t, .int .i64 11, .string ⟨#[]⟩, .string nm, .int .i64 r.price, .string (r.maker ++ ⟨#[59]⟩ ++ r.tags)] 37))
              have hz21x : b2 ≤ ((ws).alloc (.cells #[.string src, .int .i64 nv, .int .i64 t, .int .i64 11, .string ⟨#[]⟩, .string nm, .int .i64 r.price, .string (r.maker ++ ⟨#[59]⟩ ++ r.tags)] 37)).heap.size := by simp; omega
              have HE121 : Hid (∀ u ∈ evC ⟨src, nv, t, 11, ⟨#[]⟩, nm, r.price, r.maker ++ ⟨#[59]⟩ ++ r.tags⟩, u.oneCell' = true) := Lib.hid (fun u hu => evC_one [⟨src, nv, t, 11, ⟨#[]⟩, nm, r.price, r.maker ++ ⟨#[59]⟩ ++ r.tags⟩] u (by simpa using hu))
              go_wp2_with (first
                | (at_builtin; refine wpList_append_row _ rfl _ _ 22 rfl b2 37 i0 _ 8 96 Tryd.underlying22 hi0 hz0 hz1 hz3 rfl (by omega) (.slice A8 (p) c8) (p) _ rfl HO21x.out _ _ 1 1 _ rfl HR21x.out (fun h => by cases h) HE121.out (by unfold maxLen; omega) (by omega) hz21x ?_; intro v21 w21 ho21 hg21 hv21; obtain ⟨A21, c21, hv⟩ := own_shape ho21; subst hv; have x3v : w21.cell? ⟨w6.heap.size, 3, none⟩ = some (.int .i64 x.stock) := ((HXs.out.alloc _).grown hg21 (fun e => by have := HNA.out _ e.symm; omega)).cell 3; have r4v : w21.cell? ⟨w8.heap.size, 4, none⟩ = some (.int .i64 r.stock) := ((HRs.out.alloc _).grown hg21 (fun e => by have := HNA.out _ e.symm; omega)).cell 4))
              have HBv : Hid (Below b2 wB w21) := Lib.hid ((hbw2.out.trans ((HBs.out.alloc hzs _).mono hz2)).grown hg21 (by simp; omega) (fun j hj => (hrow.out.lt _ hj).1))
              go_roundw
              case rel =>
                refine ⟨k + 1, p + 1, c21, A21, by omega, by go_num, rfl, by omega, Lib.hid ?_, Lib.hid ?_, HBv⟩
                · rw [HF.out, List.length_append, HLX.out]; rfl
                · rw [HF.out, HPT.out, List.flatMap_append, List.flatMap_cons, List.flatMap_nil, List.append_nil]; exact ho21
              case measure => simp [intOf]; omega
            · have qs2 : (x.stock != r.stock) = true := by rw [bne_iff_ne]; exact qs
              have HF : Hid (rawD l t src want (ns.take (k + 1)) = LX ++ [mkE src 0 t nm (11, r.price, r.maker ++ ⟨#[59]⟩ ++ r.tags)] ++ [mkE src 0 t nm (12, r.stock, ⟨#[]⟩)]) := Lib.hid (by rw [HTK.out, HTL.out, List.append_assoc]; unfold tell1; dsimp only; rw [if_neg HPC.out, if_neg qs]; rfl)
              clear qs
              have HR21x : Hid (RowIn ((ws).alloc (.cells #[.string src, .int .i64 nv, .int .i64 t, .int .i64 11, .string ⟨#[]⟩, .string nm, .int .i64 r.price, .string (r.maker ++ ⟨#[59]⟩ ++ r.tags)] 37)) (ws.heap.size + 1) 8 (some ⟨ws.heap.size, 0, none⟩) 1 (evC ⟨src, nv, t, 11, ⟨#[]⟩, nm, r.price, r.maker ++ ⟨#[59]⟩ ++ r.tags⟩)) := Lib.hid (by
                have := ev1_row (ws) ⟨src, nv, t, 11, ⟨#[]⟩, nm, r.price, r.maker ++ ⟨#[59]⟩ ++ r.tags⟩ 37
                rw [show (ws).heap.size = ws.heap.size from by simp] at this
                exact this)
              have HO21x := Lib.hid (HOs.out.alloc (.cells #[.string src, .int .i64 nv, .int .i64 t, .int .i64 11, .string ⟨#[]⟩, .string nm, .int .i64 r.price, .string (r.maker ++ ⟨#[59]⟩ ++ r.tags)] 37))
              have hz21x : b2 ≤ ((ws).alloc (.cells #[.string src, .int .i64 nv, .int .i64 t, .int .i64 11, .string ⟨#[]⟩, .string nm, .int .i64 r.price, .string (r.maker ++ ⟨#[59]⟩ ++ r.tags)] 37)).heap.size := by simp; omega
              have HE121 : Hid (∀ u ∈ evC ⟨src, nv, t, 11, ⟨#[]⟩, nm, r.price, r.maker ++ ⟨#[59]⟩ ++ r.tags⟩, u.oneCell' = true) := Lib.hid (fun u hu => evC_one [⟨src, nv, t, 11, ⟨#[]⟩, nm, r.price, r.maker ++ ⟨#[59]⟩ ++ r.tags⟩] u (by simpa using hu))
              go_wp2_with (first
                | (at_builtin; refine wpList_append_row _ rfl _ _ 22 rfl b2 37 i0 _ 8 96 Tryd.underlying22 hi0 hz0 hz1 hz3 rfl (by omega) (.slice A8 (p) c8) (p) _ rfl HO21x.out _ _ 1 1 _ rfl HR21x.out (fun h => by cases h) HE121.out (by unfold maxLen; omega) (by omega) hz21x ?_; intro v21 w21 ho21 hg21 hv21; obtain ⟨A21, c21, hv⟩ := own_shape ho21; subst hv; have x3v : w21.cell? ⟨w6.heap.size, 3, none⟩ = some (.int .i64 x.stock) := ((HXs.out.alloc _).grown hg21 (fun e => by have := HNA.out _ e.symm; omega)).cell 3; have r4v : w21.cell? ⟨w8.heap.size, 4, none⟩ = some (.int .i64 r.stock) := ((HRs.out.alloc _).grown hg21 (fun e => by have := HNA.out _ e.symm; omega)).cell 4))
              have HBv : Hid (Below b2 wB w21) := Lib.hid ((hbw2.out.trans ((HBs.out.alloc hzs _).mono hz2)).grown hg21 (by simp; omega) (fun j hj => (hrow.out.lt _ hj).1))
              have HRv : Hid (Blk w21 w8.heap.size 46 #[.string r.name, .string r.maker, .string r.tags, .int .i64 r.price, .int .i64 r.stock]) := Lib.hid ((HRs.out.alloc _).grown hg21 (fun e => by have := HNA.out _ e.symm; omega))
              have HOv := Lib.hid ho21
              have HZv : Hid (b2 ≤ w21.heap.size) := Lib.hid (by have := HBv.out.size; have := HZB.out; omega)
              obtain ⟨nv2, hnv2⟩ : ∃ nv2, wrap64 (num + ((p : Int) + 1)) = nv2 := ⟨_, rfl⟩
              have HNV2 : Hid (IntKind.i64.wrap (num + ((p : Int) + 1)) = nv2) := Lib.hid (by rw [IntWalk.i64_left]; exact hnv2)
              have HSn : Hid (∀ X, Below w21.heap.size w21 X → NSee g (o + k) nm w8.heap.size r X) := Lib.hid (fun X hX => ⟨((HBv.out.trans (hX.mono HZv.out)).cell (p := ⟨g, o + k, none⟩) hgB).trans HNMC.out, (hX.cell (p := ⟨w8.heap.size, 4, none⟩) HRv.out.lt).trans (HRv.out.cell 4)⟩)
              refine wp_planN (fun X => Below w21.heap.size w21 X) [(0, 1), (1, 1), (2, 1), (3, 1), (4, 1), (5, 1), (6, 1), (7, 1), (8, 1), (9, 1), (10, 1), (11, 1), (12, 1), (13, 1), (14, 2), (15, 3), (16, 0)] (by kernel_rfl) (by kernel_rfl) (below_drew (Below.refl _ _)) ?_
              simp only [planNL, List.getElem?_cons_zero, List.getElem?_cons_succ]
              repeat (first | (refine planN_on _ (by rfl) (fun X hX => by (obtain ⟨v1, v2⟩ := HSn.out X hX; go_simp; try with_reducible rfl)) ?_; simp only [Act.put, List.setIfInBounds_toArray, List.set_cons_zero, List.set_cons_succ]) | (refine planN_off (by rfl) ?_; simp only [Act.put, List.setIfInBounds_toArray, List.set_cons_zero, List.set_cons_succ]))
              refine planN_turn ?_
              go_wp2_with fail
              rw [hnv2]
              obtain ⟨wq, hwq⟩ : ∃ wq, (w21.alloc (.cells #[.string src, .int .i64 nv2, .int .i64 t, .int .i64 12, .string ⟨#[]⟩, .string nm, .int .i64 r.stock, .string ⟨#[]⟩] 37)).drew = wq := ⟨_, rfl⟩
              rw [hwq]
              have HBq : Hid (Below w21.heap.size w21 wq) := Lib.hid (by rw [← hwq]; exact below_drew ((Below.refl _ _).alloc (Nat.le_refl _) _))
              have HRq : Hid (RowIn wq (w21.heap.size + 1) 8 (some ⟨w21.heap.size, 0, none⟩) 1 (evC ⟨src, nv2, t, 12, ⟨#[]⟩, nm, r.stock, ⟨#[]⟩⟩)) := Lib.hid (by rw [← hwq]; exact (ev1_row w21 ⟨src, nv2, t, 12, ⟨#[]⟩, nm, r.stock, ⟨#[]⟩⟩ 37).drew)
              have HOq := Lib.hid (owns_kept HOv.out (below_kept (S := fun _ => False) HBq.out (Nat.le_refl _)) (fun _ _ h => h))
              have HE1q : Hid (∀ u ∈ evC ⟨src, nv2, t, 12, ⟨#[]⟩, nm, r.stock, ⟨#[]⟩⟩, u.oneCell' = true) := Lib.hid (fun u hu => evC_one [⟨src, nv2, t, 12, ⟨#[]⟩, nm, r.stock, ⟨#[]⟩⟩] u (by simpa using hu))
              have hzq : b2 ≤ wq.heap.size := Nat.le_trans HZv.out HBq.out.size
              clear hwq
              refine ⟨HBq.out, ?_⟩
              refine planN_last ?_
              go_wp2_with (first
                | (at_builtin; refine wpList_append_row _ rfl _ _ 22 rfl b2 37 i0 _ 8 96 Tryd.underlying22 hi0 hz0 hz1 hz3 rfl (by omega) (.slice A21 (p + 1) c21) (p + 1) _ rfl HOq.out _ _ 1 1 _ rfl HRq.out (fun h => by cases h) HE1q.out (by unfold maxLen; omega) (by omega) hzq ?_; intro v31 w31 ho31 hg31 hv31))
              obtain ⟨A31, c31, hv⟩ := own_shape ho31
              subst hv
              have HZ31 : Hid (Below b2 wB w31) := Lib.hid ((HBv.out.trans (HBq.out.mono HZv.out)).grown hg31 hzq (fun j hj => (HOq.out.lt _ hj).1))
              refine planN_on0 _ (by rfl) (fun X _ => by (go_simp; try with_reducible rfl)) ?_
              simp only [Act.put, List.setIfInBounds_toArray, List.set_cons_zero, List.set_cons_succ]
              refine planN_done ?_
              go_wp2_with fail
              go_roundw
              case rel =>
                refine ⟨k + 1, p + 1 + 1, c31, A31, by omega, by go_num, rfl, by omega, Lib.hid ?_, Lib.hid ?_, HZ31⟩
                · rw [HF.out, List.length_append, show (LX ++ [mkE src 0 t nm (11, r.price, r.maker ++ ⟨#[59]⟩ ++ r.tags)]).length = p + 1 from by rw [List.length_append, HLX.out]; rfl]; rfl
                · rw [HF.out, numD_snoc, show (LX ++ [mkE src 0 t nm (11, r.price, r.maker ++ ⟨#[59]⟩ ++ r.tags)]).length = p + 1 from by rw [List.length_append, HLX.out]; rfl, HPT.out]
                  have he : setNum (mkE src 0 t nm (12, r.stock, ⟨#[]⟩)) (IntKind.i64.wrap (num + ((p + 1 : Nat) : Int))) = ⟨src, nv2, t, 12, ⟨#[]⟩, nm, r.stock, ⟨#[]⟩⟩ := by
                    rw [show ((p + 1 : Nat) : Int) = ((p : Int) + 1) from by omega, HNV2.out]; rfl
                  rw [he]
                  simp only [List.flatMap_append, List.flatMap_cons, List.flatMap_nil, List.append_nil]
                  exact ho31
              case measure => simp [intOf]; omega
          have f3 : (!x.tags.toList == r.tags.toList) = false := by rw [(beq_list _ _).2 p3]; rfl
          have HP3 := Lib.hid p3
          clear p3
          by_cases p4 : x.price = r.price
          rotate_left
          · have HPC : Hid (¬ (x.listed = true ∧ x.maker = r.maker ∧ x.tags = r.tags ∧ x.price = r.price)) := Lib.hid (fun h => p4 h.2.2.2)
            have f4 : (x.price != r.price) = true := by rw [bne_iff_ne]; exact p4
            clear p4
            go_wp2_with fail
            try rw [HW9.out]
            obtain ⟨wd, hwd⟩ : ∃ wd, w9.drew = wd := ⟨_, rfl⟩
            have HRd : Hid (Blk wd w8.heap.size 46 #[.string r.name, .string r.maker, .string r.tags, .int .i64 r.price, .int .i64 r.stock]) := Lib.hid (by rw [← hwd]; exact HR9.out.drew)
            have HXd : Hid (Blk wd w6.heap.size 67 #[.string x.name, .string x.maker, .string x.tags, .int .i64 x.stock, .int .i64 x.price, .int .i64 x.born, .bool x.listed]) := Lib.hid (by rw [← hwd]; exact HX9.out.drew)
            have HEd : Hid (Blk wd eb 37 #[.string src, .int .i64 nv, .int .i64 t, .int .i64 0, .string ⟨#[]⟩, .string nm, .int .i64 0, .string ⟨#[]⟩]) := Lib.hid (by rw [← hwd]; exact HE9.out.drew)
            have HBd : Hid (Below wr.heap.size wr wd) := Lib.hid (by rw [← hwd]; exact below_drew HB9.out)
            have HS0 : Hid (RSee w8.heap.size r w9.drew) := Lib.hid (by rw [hwd]; exact ⟨HRd.out.cell 1, HRd.out.cell 2, HRd.out.cell 3⟩)
            refine wp_plan (RSee w8.heap.size r) [(0, false), (1, false), (2, false), (3, false), (4, false), (5, false), (6, false), (7, false), (8, false), (9, true), (10, false), (11, true), (12, false), (13, true)] (by kernel_rfl) (by kernel_rfl) HS0.out ?_
            rw [hwd] at HS0 ⊢
            clear hwd
            have y3 : wd.cell? ⟨eb, 3, none⟩ = some (.int .i64 0) := HEd.out.cell 3
            have y6 : wd.cell? ⟨eb, 6, none⟩ = some (.int .i64 0) := HEd.out.cell 6
            have y7 : wd.cell? ⟨eb, 7, none⟩ = some (.string ⟨#[]⟩) := HEd.out.cell 7
            have j3 : wd.frozen? ⟨eb, 3, none⟩ = false := HEd.out.frozen 3
            have j6 : wd.frozen? ⟨eb, 6, none⟩ = false := HEd.out.frozen 6
            have j7 : wd.frozen? ⟨eb, 7, none⟩ = false := HEd.out.frozen 7
            simp only [planL, List.getElem?_cons_zero, List.getElem?_cons_succ]
            iterate 2 (refine plan_on _ (by rfl) (fun W hW => by (obtain ⟨v1, v2, v3⟩ := hW; go_simp; try with_reducible rfl)) ?_; simp only [Act.put, List.setIfInBounds_toArray, List.set_cons_zero, List.set_cons_succ])
            refine plan_on (.string (r.maker ++ ⟨#[59]⟩)) (by rfl) (fun W hW => by (go_simp; try omega)) ?_
            simp only [Act.put, List.setIfInBounds_toArray, List.set_cons_zero, List.set_cons_succ]
            iterate 2 (refine plan_on _ (by rfl) (fun W hW => by (obtain ⟨v1, v2, v3⟩ := hW; go_simp; try with_reducible rfl)) ?_; simp only [Act.put, List.setIfInBounds_toArray, List.set_cons_zero, List.set_cons_succ])
            refine plan_on (.string (r.maker ++ ⟨#[59]⟩ ++ r.tags)) (by rfl) (fun W hW => by (go_simp; try omega)) ?_
            simp only [Act.put, List.setIfInBounds_toArray, List.set_cons_zero, List.set_cons_succ]
            repeat (first | (refine plan_on _ (by rfl) (fun W hW => by (obtain ⟨v1, v2, v3⟩ := hW; go_simp; try with_reducible rfl)) ?_; simp only [Act.put, List.setIfInBounds_toArray, List.set_cons_zero, List.set_cons_succ]) | (refine plan_off (by rfl) ?_; simp only [Act.put, List.setIfInBounds_toArray, List.set_cons_zero, List.set_cons_succ]))
            refine plan_turn ?_
            go_wp2_with fail
            refine ⟨HS0.out.far HBE.out _ _, ?_⟩
            repeat (first | (refine plan_on _ (by rfl) (fun W hW => by (obtain ⟨v1, v2, v3⟩ := hW; go_simp; try with_reducible rfl)) ?_; simp only [Act.put, List.setIfInBounds_toArray, List.set_cons_zero, List.set_cons_succ]) | (refine plan_off (by rfl) ?_; simp only [Act.put, List.setIfInBounds_toArray, List.set_cons_zero, List.set_cons_succ]))
            refine plan_turn ?_
            go_wp2_with fail
            refine ⟨(HS0.out.far HBE.out _ _).far HBE.out _ _, ?_⟩
            repeat (first | (refine plan_on _ (by rfl) (fun W hW => by (obtain ⟨v1, v2, v3⟩ := hW; go_simp; try with_reducible rfl)) ?_; simp only [Act.put, List.setIfInBounds_toArray, List.set_cons_zero, List.set_cons_succ]) | (refine plan_off (by rfl) ?_; simp only [Act.put, List.setIfInBounds_toArray, List.set_cons_zero, List.set_cons_succ]))
            refine plan_turn ?_
            go_wp2_with fail
            refine ⟨((HS0.out.far HBE.out _ _).far HBE.out _ _).far HBE.out _ _, ?_⟩
            refine plan_done ?_
            obtain ⟨ws, hws⟩ : ∃ ws, ((wd.setCell ⟨eb, 3, none⟩ (.int .i64 11)).setCell ⟨eb, 7, none⟩ (.string (r.maker ++ ⟨#[59]⟩ ++ r.tags))).setCell ⟨eb, 6, none⟩ (.int .i64 r.price) = ws := ⟨_, rfl⟩
            have HEs : Hid (Blk ws eb 37 #[.string src, .int .i64 nv, .int .i64 t, .int .i64 11, .string ⟨#[]⟩, .string nm, .int .i64 r.price, .string (r.maker ++ ⟨#[59]⟩ ++ r.tags)]) := Lib.hid (by rw [← hws]; exact ((HEd.out.set_ 3 _).set_ 7 _).set_ 6 _)
            have HXs : Hid (Blk ws w6.heap.size 67 #[.string x.name, .string x.maker, .string x.tags, .int .i64 x.stock, .int .i64 x.price, .int .i64 x.born, .bool x.listed]) := Lib.hid (by rw [← hws]; exact ((HXd.out.far HXE.out _).far HXE.out _).far HXE.out _)
            have HRs : Hid (Blk ws w8.heap.size 46 #[.string r.name, .string r.maker, .string r.tags, .int .i64 r.price, .int .i64 r.stock]) := Lib.hid (by rw [← hws]; exact ((HRd.out.far HBE.out _).far HBE.out _).far HBE.out _)
            have HBs : Hid (Below wr.heap.size wr ws) := Lib.hid (by rw [← hws]; exact ((HBd.out.setCell (p := ⟨eb, 3, none⟩) HEB.out _).setCell (p := ⟨eb, 7, none⟩) HEB.out _).setCell (p := ⟨eb, 6, none⟩) HEB.out _)
            have HOs : Hid (ws.ownsRow b2 37 8 (.slice A8 p c8) p ((numD num LX).flatMap evC)) := Lib.hid (owns_kept hrow.out (below_kept (S := fun _ => False) HBs.out (Nat.le_refl _)) (fun _ _ h => h))
            have hzs : wr.heap.size ≤ ws.heap.size := HBs.out.size
            rw [hws]
            clear hws y3 y6 y7 j3 j6 j7 HS0 HRd HXd HEd HBd
            have z0 : ws.cell? ⟨eb, 0, none⟩ = some (.string src) := HEs.out.cell 0
            have z1 : ws.cell? ⟨eb, 1, none⟩ = some (.int .i64 nv) := HEs.out.cell 1
            have z2 : ws.cell? ⟨eb, 2, none⟩ = some (.int .i64 t) := HEs.out.cell 2
            have z3 : ws.cell? ⟨eb, 3, none⟩ = some (.int .i64 11) := HEs.out.cell 3
            have z4 : ws.cell? ⟨eb, 4, none⟩ = some (.string ⟨#[]⟩) := HEs.out.cell 4
            have z5 : ws.cell? ⟨eb, 5, none⟩ = some (.string nm) := HEs.out.cell 5
            have z6 : ws.cell? ⟨eb, 6, none⟩ = some (.int .i64 r.price) := HEs.out.cell 6
            have z7 : ws.cell? ⟨eb, 7, none⟩ = some (.string (r.maker ++ ⟨#[59]⟩ ++ r.tags)) := HEs.out.cell 7
            have HNA : Hid (∀ j, (Value.slice A8 p c8).ownBlock = some j → j < wr.heap.size) := Lib.hid (fun j h => (hrow.out.lt j h).2)
            have HPT : Hid (numD num (LX ++ [mkE src 0 t nm (11, r.price, r.maker ++ ⟨#[59]⟩ ++ r.tags)]) = numD num LX ++ [⟨src, nv, t, 11, ⟨#[]⟩, nm, r.price, r.maker ++ ⟨#[59]⟩ ++ r.tags⟩]) := Lib.hid (by rw [numD_snoc, HLX.out, HNV.out]; rfl)
            clear r0 r1 r2 r3 r4 x1 x2 x3 x4 x6
            by_cases qs : x.stock = r.stock
            · have qs2 : (x.stock != r.stock) = false := by simp [qs]
              have HF : Hid (rawD l t src want (ns.take (k + 1)) = LX ++ [mkE src 0 t nm (11, r.price, r.maker ++ ⟨#[59]⟩ ++ r.tags)]) := Lib.hid (by rw [HTK.out, HTL.out]; unfold tell1; dsimp only; rw [if_neg HPC.out, if_pos qs]; rfl)
              clear qs
              have HR21x : Hid (RowIn ((ws).alloc (.cells #[.string src, .int .i64 nv, .int .i64 t, .int .i64 11, .string ⟨#[]⟩, .string nm, .int .i64 r.price, .string (r.maker ++ ⟨#[59]⟩ ++ r.tags)] 37)) (ws.heap.size + 1) 8 (some ⟨ws.heap.size, 0, none⟩) 1 (evC ⟨src, nv, t, 11, ⟨#[]⟩, nm, r.price, r.maker ++ ⟨#[59]⟩ ++ r.tags⟩)) := Lib.hid (by
                have := ev1_row (ws) ⟨src, nv, t, 11, ⟨#[]⟩, nm, r.price, r.maker ++ ⟨#[59]⟩ ++ r.tags⟩ 37
                rw [show (ws).heap.size = ws.heap.size from by simp] at this
                exact this)
              have HO21x := Lib.hid (HOs.out.alloc (.cells #[.string src, .int .i64 nv, .int .i64 t, .int .i64 11, .string ⟨#[]⟩, .string nm, .int .i64 r.price, .string (r.maker ++ ⟨#[59]⟩ ++ r.tags)] 37))
              have hz21x : b2 ≤ ((ws).alloc (.cells #[.string src, .int .i64 nv, .int .i64 t, .int .i64 11, .string ⟨#[]⟩, .string nm, .int .i64 r.price, .string (r.maker ++ ⟨#[59]⟩ ++ r.tags)] 37)).heap.size := by simp; omega
              have HE121 : Hid (∀ u ∈ evC ⟨src, nv, t, 11, ⟨#[]⟩, nm, r.price, r.maker ++ ⟨#[59]⟩ ++ r.tags⟩, u.oneCell' = true) := Lib.hid (fun u hu => evC_one [⟨src, nv, t, 11, ⟨#[]⟩, nm, r.price, r.maker ++ ⟨#[59]⟩ ++ r.tags⟩] u (by simpa using hu))
              go_wp2_with (first
                | (at_builtin; refine wpList_append_row _ rfl _ _ 22 rfl b2 37 i0 _ 8 96 Tryd.underlying22 hi0 hz0 hz1 hz3 rfl (by omega) (.slice A8 (p) c8) (p) _ rfl HO21x.out _ _ 1 1 _ rfl HR21x.out (fun h => by cases h) HE121.out (by unfold maxLen; omega) (by omega) hz21x ?_; intro v21 w21 ho21 hg21 hv21; obtain ⟨A21, c21, hv⟩ := own_shape ho21; subst hv; have x3v : w21.cell? ⟨w6.heap.size, 3, none⟩ = some (.int .i64 x.stock) := ((HXs.out.alloc _).grown hg21 (fun e => by have := HNA.out _ e.symm; omega)).cell 3; have r4v : w21.cell? ⟨w8.heap.size, 4, none⟩ = some (.int .i64 r.stock) := ((HRs.out.alloc _).grown hg21 (fun e => by have := HNA.out _ e.symm; omega)).cell 4))
              have HBv : Hid (Below b2 wB w21) := Lib.hid ((hbw2.out.trans ((HBs.out.alloc hzs _).mono hz2)).grown hg21 (by simp; omega) (fun j hj => (hrow.out.lt _ hj).1))
              go_roundw
              case rel =>
                refine ⟨k + 1, p + 1, c21, A21, by omega, by go_num, rfl, by omega, Lib.hid ?_, Lib.hid ?_, HBv⟩
                · rw [HF.out, List.length_append, HLX.out]; rfl
                · rw [HF.out, HPT.out, List.flatMap_append, List.flatMap_cons, List.flatMap_nil, List.append_nil]; exact ho21
              case measure => simp [intOf]; omega
            · have qs2 : (x.stock != r.stock) = true := by rw [bne_iff_ne]; exact qs
              have HF : Hid (rawD l t src want (ns.take (k + 1)) = LX ++ [mkE src 0 t nm (11, r.price, r.maker ++ ⟨#[59]⟩ ++ r.tags)] ++ [mkE src 0 t nm (12, r.stock, ⟨#[]⟩)]) := Lib.hid (by rw [HTK.out, HTL.out, List.append_assoc]; unfold tell1; dsimp only; rw [if_neg HPC.out, if_neg qs]; rfl)
              clear qs
              have HR21x : Hid (RowIn ((ws).alloc (.cells #[.string src, .int .i64 nv, .int .i64 t, .int .i64 11, .string ⟨#[]⟩, .string nm, .int .i64 r.price, .string (r.maker ++ ⟨#[59]⟩ ++ r.tags)] 37)) (ws.heap.size + 1) 8 (some ⟨ws.heap.size, 0, none⟩) 1 (evC ⟨src, nv, t, 11, ⟨#[]⟩, nm, r.price, r.maker ++ ⟨#[59]⟩ ++ r.tags⟩)) := Lib.hid (by
                have := ev1_row (ws) ⟨src, nv, t, 11, ⟨#[]⟩, nm, r.price, r.maker ++ ⟨#[59]⟩ ++ r.tags⟩ 37
                rw [show (ws).heap.size = ws.heap.size from by simp] at this
                exact this)
              have HO21x := Lib.hid (HOs.out.alloc (.cells #[.string src, .int .i64 nv, .int .i64 t, .int .i64 11, .string ⟨#[]⟩, .string nm, .int .i64 r.price, .string (r.maker ++ ⟨#[59]⟩ ++ r.tags)] 37))
              have hz21x : b2 ≤ ((ws).alloc (.cells #[.string src, .int .i64 nv, .int .i64 t, .int .i64 11, .string ⟨#[]⟩, .string nm, .int .i64 r.price, .string (r.maker ++ ⟨#[59]⟩ ++ r.tags)] 37)).heap.size := by simp; omega
              have HE121 : Hid (∀ u ∈ evC ⟨src, nv, t, 11, ⟨#[]⟩, nm, r.price, r.maker ++ ⟨#[59]⟩ ++ r.tags⟩, u.oneCell' = true) := Lib.hid (fun u hu => evC_one [⟨src, nv, t, 11, ⟨#[]⟩, nm, r.price, r.maker ++ ⟨#[59]⟩ ++ r.tags⟩] u (by simpa using hu))
              go_wp2_with (first
                | (at_builtin; refine wpList_append_row _ rfl _ _ 22 rfl b2 37 i0 _ 8 96 Tryd.underlying22 hi0 hz0 hz1 hz3 rfl (by omega) (.slice A8 (p) c8) (p) _ rfl HO21x.out _ _ 1 1 _ rfl HR21x.out (fun h => by cases h) HE121.out (by unfold maxLen; omega) (by omega) hz21x ?_; intro v21 w21 ho21 hg21 hv21; obtain ⟨A21, c21, hv⟩ := own_shape ho21; subst hv; have x3v : w21.cell? ⟨w6.heap.size, 3, none⟩ = some (.int .i64 x.stock) := ((HXs.out.alloc _).grown hg21 (fun e => by have := HNA.out _ e.symm; omega)).cell 3; have r4v : w21.cell? ⟨w8.heap.size, 4, none⟩ = some (.int .i64 r.stock) := ((HRs.out.alloc _).grown hg21 (fun e => by have := HNA.out _ e.symm; omega)).cell 4))
              have HBv : Hid (Below b2 wB w21) := Lib.hid ((hbw2.out.trans ((HBs.out.alloc hzs _).mono hz2)).grown hg21 (by simp; omega) (fun j hj => (hrow.out.lt _ hj).1))
              have HRv : Hid (Blk w21 w8.heap.size 46 #[.string r.name, .string r.maker, .string r.tags, .int .i64 r.price, .int .i64 r.stock]) := Lib.hid ((HRs.out.alloc _).grown hg21 (fun e => by have := HNA.out _ e.symm; omega))
              have HOv := Lib.hid ho21
              have HZv : Hid (b2 ≤ w21.heap.size) := Lib.hid (by have := HBv.out.size; have := HZB.out; omega)
              obtain ⟨nv2, hnv2⟩ : ∃ nv2, wrap64 (num + ((p : Int) + 1)) = nv2 := ⟨_, rfl⟩
              have HNV2 : Hid (IntKind.i64.wrap (num + ((p : Int) + 1)) = nv2) := Lib.hid (by rw [IntWalk.i64_left]; exact hnv2)
              have HSn : Hid (∀ X, Below w21.heap.size w21 X → NSee g (o + k) nm w8.heap.size r X) := Lib.hid (fun X hX => ⟨((HBv.out.trans (hX.mono HZv.out)).cell (p := ⟨g, o + k, none⟩) hgB).trans HNMC.out, (hX.cell (p := ⟨w8.heap.size, 4, none⟩) HRv.out.lt).trans (HRv.out.cell 4)⟩)
              refine wp_planN (fun X => Below w21.heap.size w21 X) [(0, 1), (1, 1), (2, 1), (3, 1), (4, 1), (5, 1), (6, 1), (7, 1), (8, 1), (9, 1), (10, 1), (11, 1), (12, 1), (13, 1), (14, 2), (15, 3), (16, 0)] (by kernel_rfl) (by kernel_rfl) (below_drew (Below.refl _ _)) ?_
              simp only [planNL, List.getElem?_cons_zero, List.getElem?_cons_succ]
              repeat (first | (refine planN_on _ (by rfl) (fun X hX => by (obtain ⟨v1, v2⟩ := HSn.out X hX; go_simp; try with_reducible rfl)) ?_; simp only [Act.put, List.setIfInBounds_toArray, List.set_cons_zero, List.set_cons_succ]) | (refine planN_off (by rfl) ?_; simp only [Act.put, List.setIfInBounds_toArray, List.set_cons_zero, List.set_cons_succ]))
              refine planN_turn ?_
              go_wp2_with fail
              rw [hnv2]
              obtain ⟨wq, hwq⟩ : ∃ wq, (w21.alloc (.cells #[.string src, .int .i64 nv2, .int .i64 t, .int .i64 12, .string ⟨#[]⟩, .string nm, .int .i64 r.stock, .string ⟨#[]⟩] 37)).drew = wq := ⟨_, rfl⟩
              rw [hwq]
              have HBq : Hid (Below w21.heap.size w21 wq) := Lib.hid (by rw [← hwq]; exact below_drew ((Below.refl _ _).alloc (Nat.le_refl _) _))
              have HRq : Hid (RowIn wq (w21.heap.size + 1) 8 (some ⟨w21.heap.size, 0, none⟩) 1 (evC ⟨src, nv2, t, 12, ⟨#[]⟩, nm, r.stock, ⟨#[]⟩⟩)) := Lib.hid (by rw [← hwq]; exact (ev1_row w21 ⟨src, nv2, t, 12, ⟨#[]⟩, nm, r.stock, ⟨#[]⟩⟩ 37).drew)
              have HOq := Lib.hid (owns_kept HOv.out (below_kept (S := fun _ => False) HBq.out (Nat.le_refl _)) (fun _ _ h => h))
              have HE1q : Hid (∀ u ∈ evC ⟨src, nv2, t, 12, ⟨#[]⟩, nm, r.stock, ⟨#[]⟩⟩, u.oneCell' = true) := Lib.hid (fun u hu => evC_one [⟨src, nv2, t, 12, ⟨#[]⟩, nm, r.stock, ⟨#[]⟩⟩] u (by simpa using hu))
              have hzq : b2 ≤ wq.heap.size := Nat.le_trans HZv.out HBq.out.size
              clear hwq
              refine ⟨HBq.out, ?_⟩
              refine planN_last ?_
              go_wp2_with (first
                | (at_builtin; refine wpList_append_row _ rfl _ _ 22 rfl b2 37 i0 _ 8 96 Tryd.underlying22 hi0 hz0 hz1 hz3 rfl (by omega) (.slice A21 (p + 1) c21) (p + 1) _ rfl HOq.out _ _ 1 1 _ rfl HRq.out (fun h => by cases h) HE1q.out (by unfold maxLen; omega) (by omega) hzq ?_; intro v31 w31 ho31 hg31 hv31))
              obtain ⟨A31, c31, hv⟩ := own_shape ho31
              subst hv
              have HZ31 : Hid (Below b2 wB w31) := Lib.hid ((HBv.out.trans (HBq.out.mono HZv.out)).grown hg31 hzq (fun j hj => (HOq.out.lt _ hj).1))
              refine planN_on0 _ (by rfl) (fun X _ => by (go_simp; try with_reducible rfl)) ?_
              simp only [Act.put, List.setIfInBounds_toArray, List.set_cons_zero, List.set_cons_succ]
              refine planN_done ?_
              go_wp2_with fail
              go_roundw
              case rel =>
                refine ⟨k + 1, p + 1 + 1, c31, A31, by omega, by go_num, rfl, by omega, Lib.hid ?_, Lib.hid ?_, HZ31⟩
                · rw [HF.out, List.length_append, show (LX ++ [mkE src 0 t nm (11, r.price, r.maker ++ ⟨#[59]⟩ ++ r.tags)]).length = p + 1 from by rw [List.length_append, HLX.out]; rfl]; rfl
                · rw [HF.out, numD_snoc, show (LX ++ [mkE src 0 t nm (11, r.price, r.maker ++ ⟨#[59]⟩ ++ r.tags)]).length = p + 1 from by rw [List.length_append, HLX.out]; rfl, HPT.out]
                  have he : setNum (mkE src 0 t nm (12, r.stock, ⟨#[]⟩)) (IntKind.i64.wrap (num + ((p + 1 : Nat) : Int))) = ⟨src, nv2, t, 12, ⟨#[]⟩, nm, r.stock, ⟨#[]⟩⟩ := by
                    rw [show ((p + 1 : Nat) : Int) = ((p : Int) + 1) from by omega, HNV2.out]; rfl
                  rw [he]
                  simp only [List.flatMap_append, List.flatMap_cons, List.flatMap_nil, List.append_nil]
                  exact ho31
              case measure => simp [intOf]; omega
          have f4 : (x.price != r.price) = false := by simp [p4]
          have HPC : Hid (x.listed = true ∧ x.maker = r.maker ∧ x.tags = r.tags ∧ x.price = r.price) := Lib.hid ⟨HL1.out, HP2.out, HP3.out, p4⟩
          clear p4
          have HBv : Hid (Below b2 wB w9) := Lib.hid (hbw2.out.trans (HB9.out.mono hz2))
          have HZv : Hid (b2 ≤ w9.heap.size) := Lib.hid (Nat.le_trans hz2 HB9.out.size)
          have HOv : Hid (w9.ownsRow b2 37 8 (.slice A8 p c8) p ((numD num LX).flatMap evC)) := Lib.hid (owns_kept hrow.out (below_kept (S := fun _ => False) HB9.out (Nat.le_refl _)) (fun _ _ h => h))
          by_cases qs : x.stock = r.stock
          · have qs2 : (x.stock != r.stock) = false := by simp [qs]
            have HF : Hid (rawD l t src want (ns.take (k + 1)) = LX) := Lib.hid (by rw [HTK.out, HTL.out]; unfold tell1; dsimp only; rw [if_pos HPC.out, if_pos qs]; simp)
            clear qs
            go_wp2_with fail
            try rw [HW9.out]
            go_roundw
            case rel =>
              refine ⟨k + 1, p, c8, A8, by omega, by go_num, rfl, by omega, Lib.hid ?_, Lib.hid ?_, ?_⟩
              · rw [HF.out]; exact HLX.out
              · rw [HF.out]; first | exact HOv.out | (rw [HW9.out]; exact HOv.out)
              · first | exact HBv | (rw [HW9.out]; exact HBv)
            case measure => simp [intOf]; omega
          · have qs2 : (x.stock != r.stock) = true := by rw [bne_iff_ne]; exact qs
            have HF : Hid (rawD l t src want (ns.take (k + 1)) = LX ++ [mkE src 0 t nm (12, r.stock, ⟨#[]⟩)]) := Lib.hid (by rw [HTK.out, HTL.out]; unfold tell1; dsimp only; rw [if_pos HPC.out, if_neg qs]; rfl)
            clear qs
            go_wp2_with fail
            try rw [HW9.out]
            obtain ⟨nv2, hnv2⟩ : ∃ nv2, wrap64 (num + (p : Int)) = nv2 := ⟨_, rfl⟩
            have HNV2 : Hid (IntKind.i64.wrap (num + (p : Int)) = nv2) := Lib.hid (by rw [IntWalk.i64_left]; exact hnv2)
            have HSn : Hid (∀ X, Below w9.heap.size w9 X → NSee g (o + k) nm w8.heap.size r X) := Lib.hid (fun X hX => ⟨((HBv.out.trans (hX.mono HZv.out)).cell (p := ⟨g, o + k, none⟩) hgB).trans HNMC.out, (hX.cell (p := ⟨w8.heap.size, 4, none⟩) HR9.out.lt).trans (HR9.out.cell 4)⟩)
            refine wp_planN (fun X => Below w9.heap.size w9 X) [(0, 1), (1, 1), (2, 1), (3, 1), (4, 1), (5, 1), (6, 1), (7, 1), (8, 1), (9, 1), (10, 1), (11, 1), (12, 1), (13, 1), (14, 2), (15, 3), (16, 0)] (by kernel_rfl) (by kernel_rfl) (below_drew (Below.refl _ _)) ?_
            simp only [planNL, List.getElem?_cons_zero, List.getElem?_cons_succ]
            repeat (first | (refine planN_on _ (by rfl) (fun X hX => by (obtain ⟨v1, v2⟩ := HSn.out X hX; go_simp; try with_reducible rfl)) ?_; simp only [Act.put, List.setIfInBounds_toArray, List.set_cons_zero, List.set_cons_succ]) | (refine planN_off (by rfl) ?_; simp only [Act.put, List.setIfInBounds_toArray, List.set_cons_zero, List.set_cons_succ]))
            refine planN_turn ?_
            go_wp2_with fail
            rw [hnv2]
            obtain ⟨wq, hwq⟩ : ∃ wq, (w9.alloc (.cells #[.string src, .int .i64 nv2, .int .i64 t, .int .i64 12, .string ⟨#[]⟩, .string nm, .int .i64 r.stock, .string ⟨#[]⟩] 37)).drew = wq := ⟨_, rfl⟩
            rw [hwq]
            have HBq : Hid (Below w9.heap.size w9 wq) := Lib.hid (by rw [← hwq]; exact below_drew ((Below.refl _ _).alloc (Nat.le_refl _) _))
            have HRq : Hid (RowIn wq (w9.heap.size + 1) 8 (some ⟨w9.heap.size, 0, none⟩) 1 (evC ⟨src, nv2, t, 12, ⟨#[]⟩, nm, r.stock, ⟨#[]⟩⟩)) := Lib.hid (by rw [← hwq]; exact (ev1_row w9 ⟨src, nv2, t, 12, ⟨#[]⟩, nm, r.stock, ⟨#[]⟩⟩ 37).drew)
            have HOq := Lib.hid (owns_kept HOv.out (below_kept (S := fun _ => False) HBq.out (Nat.le_refl _)) (fun _ _ h => h))
            have HE1q : Hid (∀ u ∈ evC ⟨src, nv2, t, 12, ⟨#[]⟩, nm, r.stock, ⟨#[]⟩⟩, u.oneCell' = true) := Lib.hid (fun u hu => evC_one [⟨src, nv2, t, 12, ⟨#[]⟩, nm, r.stock, ⟨#[]⟩⟩] u (by simpa using hu))
            have hzq : b2 ≤ wq.heap.size := Nat.le_trans HZv.out HBq.out.size
            clear hwq
            refine ⟨HBq.out, ?_⟩
            refine planN_last ?_
            go_wp2_with (first
              | (at_builtin; refine wpList_append_row _ rfl _ _ 22 rfl b2 37 i0 _ 8 96 Tryd.underlying22 hi0 hz0 hz1 hz3 rfl (by omega) (.slice A8 (p) c8) (p) _ rfl HOq.out _ _ 1 1 _ rfl HRq.out (fun h => by cases h) HE1q.out (by unfold maxLen; omega) (by omega) hzq ?_; intro v31 w31 ho31 hg31 hv31))
            obtain ⟨A31, c31, hv⟩ := own_shape ho31
            subst hv
            have HZ31 : Hid (Below b2 wB w31) := Lib.hid ((HBv.out.trans (HBq.out.mono HZv.out)).grown hg31 hzq (fun j hj => (HOq.out.lt _ hj).1))
            refine planN_on0 _ (by rfl) (fun X _ => by (go_simp; try with_reducible rfl)) ?_
            simp only [Act.put, List.setIfInBounds_toArray, List.set_cons_zero, List.set_cons_succ]
            refine planN_done ?_
            go_wp2_with fail
            go_roundw
            case rel =>
              refine ⟨k + 1, p + 1, c31, A31, by omega, by go_num, rfl, by omega, Lib.hid ?_, Lib.hid ?_, HZ31⟩
              · rw [HF.out, List.length_append, HLX.out]; rfl
              · rw [HF.out, numD_snoc, HLX.out, show numD num LX = numD num LX from rfl]
                have he : setNum (mkE src 0 t nm (12, r.stock, ⟨#[]⟩)) (IntKind.i64.wrap (num + ((p : Nat) : Int))) = ⟨src, nv2, t, 12, ⟨#[]⟩, nm, r.stock, ⟨#[]⟩⟩ := by
                  rw [show ((p : Nat) : Int) = (p : Int) from by omega, HNV2.out]; rfl
                rw [he]
                simp only [List.flatMap_append, List.flatMap_cons, List.flatMap_nil, List.append_nil]
                exact ho31
            case measure => simp [intOf]; omega
      · obtain rfl : q = k := by omega
        have HTN : Hid (ns.take q = ns) := Lib.hid (by rw [← HNL.out, List.take_length])
        rw [HTN.out] at hpl hrow
        obtain ⟨RL, hRL⟩ : ∃ RL, rawD l t src want ns = RL := ⟨_, rfl⟩
        rw [hRL] at hpl hrow
        have HIS : Hid (∀ out, out = (if 0 < p ∧ 1099511627777 - (p : Int) < num then [] else numD num RL) → IsDiff l t src num want out) := Lib.hid (fun out ho => ⟨fun h => (by rw [HGO.out] at h; cases h), fun _ ns' hns' => by
          have he : ns' = ns := IsNames.one hns' HND.out (fun _ => rfl)
          rw [he, hRL, ho, hpl.out]⟩)
        have hp4 : p ≤ 4000 := by omega
        clear hRL HND HTN
        by_cases hp0 : p = 0
        · have d0 : decide ((0 : Int) < (p : Int)) = false := decide_eq_false (by omega)
          have hnp : ¬ (0 < p) := by omega
          have HI := Lib.hid (HIS.out (numD num RL) (by rw [if_neg (by omega)]))
          clear hp0
          go_wp2_with fail
          go_ret
          refine ⟨A8, c8, numD num RL, by rw [numD_len, hpl.out]; rfl, HI.out, by rw [numD_len, hpl.out]; exact hp4, ?_, HBW.out⟩
          have := RowIn.of_own hrow.out
          unfold EvsAt
          rw [numD_len, hpl.out]
          exact this
        · have d0 : decide ((0 : Int) < (p : Int)) = true := decide_eq_true (by omega)
          have hnp : 0 < p := by omega
          by_cases gg : (1099511627777 : Int) - (p : Int) < num
          · have d1 : decide ((1099511627777 : Int) - (p : Int) < num) = true := decide_eq_true gg
            have HI := Lib.hid (HIS.out [] (by rw [if_pos ⟨hnp, gg⟩]))
            go_wp2_with fail
            go_ret
            exact ⟨none, 0, [], rfl, HI.out, by simp, RowIn.nil _ _ _ _, HBW.out⟩
          · have d1 : decide ((1099511627777 : Int) - (p : Int) < num) = false := decide_eq_false gg
            have HI := Lib.hid (HIS.out (numD num RL) (by rw [if_neg (fun h => gg h.2)]))
            go_wp2_with fail
            go_ret
            refine ⟨A8, c8, numD num RL, by rw [numD_len, hpl.out]; rfl, HI.out, by rw [numD_len, hpl.out]; exact hp4, ?_, HBW.out⟩
            have := RowIn.of_own hrow.out
            unfold EvsAt
            rw [numD_len, hpl.out]
            exact this

end Go.Proofs.YtikbckpphkpaiaaDoor
