/- The document's Of, Has, Changes of layer 15. -/
import Derived.Test.YtpnfnmpohacnoaaDoorRMay
import Derived.Test.YtpnfnmpohacnoaaDoorRLess
import Derived.Test.YtpnfnmpohacnoaaDoorFindsP
namespace Go.Proofs.YtpnfnmpohacnoaaDoor
open Go.Shelf Go.RowKit Go.Maps
set_option linter.unusedVariables false

set_option maxHeartbeats 2000000 in
set_option maxRecDepth 100000 in
theorem of_any (x : Ev) (w : World) (hs : EvSh x) :
    Calls Tryd.prog 39 #[evA x] w fun e w' => e = .returned (.bool (catB x)) ∧ Below w.heap.size w w' := by
  have HC : Hid (catB x = (mayB x && decide (x.kind = 11 ∨ x.kind = 12 ∨ x.kind = 13))) := Lib.hid rfl
  have HMY : Hid (∀ W, Calls Tryd.prog 56 #[evA x] W fun e w' => e = .returned (.bool (mayB x)) ∧ Below W.heap.size W w') := Lib.hid (fun W => rmay_any x W hs)
  generalize mayB x = mx at *
  generalize catB x = cx at *
  obtain ⟨s0, n0, t0, k0, p0, i0, v0, x0⟩ := x
  unfold evA at HMY ⊢
  dsimp only at HMY HC ⊢
  obtain ⟨w1, hw1⟩ : ∃ w1, w.alloc (.cells #[.string s0, .int .i64 n0, .int .i64 t0, .int .i64 k0, .string p0, .string i0, .int .i64 v0, .string x0] 36) = w1 := ⟨_, rfl⟩
  have bl : Blk w1 w.heap.size 36 #[.string s0, .int .i64 n0, .int .i64 t0, .int .i64 k0, .string p0, .string i0, .int .i64 v0, .string x0] := by rw [← hw1]; exact Blk.new _ _ _
  have HB1 : Hid (Below w.heap.size w w1) := Lib.hid (by rw [← hw1]; exact (Below.refl _ _).alloc (Nat.le_refl _) _)
  have c0 : w1.cell? ⟨w.heap.size, 0, none⟩ = some (.string s0) := bl.cell 0
  have c1 : w1.cell? ⟨w.heap.size, 1, none⟩ = some (.int .i64 n0) := bl.cell 1
  have c2 : w1.cell? ⟨w.heap.size, 2, none⟩ = some (.int .i64 t0) := bl.cell 2
  have c3 : w1.cell? ⟨w.heap.size, 3, none⟩ = some (.int .i64 k0) := bl.cell 3
  have c4 : w1.cell? ⟨w.heap.size, 4, none⟩ = some (.string p0) := bl.cell 4
  have c5 : w1.cell? ⟨w.heap.size, 5, none⟩ = some (.string i0) := bl.cell 5
  have c6 : w1.cell? ⟨w.heap.size, 6, none⟩ = some (.int .i64 v0) := bl.cell 6
  have c7 : w1.cell? ⟨w.heap.size, 7, none⟩ = some (.string x0) := bl.cell 7
  have hl1 := bl.lt
  have HM1 := Lib.hid (HMY.out w1)
  clear bl HMY
  go_enter Tryd.func39, Tryd.ntmps39
  go_wp2_with fail
  refine HM1.out.mono ?_
  rintro e w2 ⟨rfl, hb2⟩
  have d3 : w2.cell? ⟨w.heap.size, 3, none⟩ = some (.int .i64 k0) := (hb2.cell (p := ⟨w.heap.size, 3, none⟩) hl1).trans c3
  have HB2 : Hid (Below w.heap.size w w2) := Lib.hid (HB1.out.trans (hb2.mono HB1.out.size))
  clear c0 c1 c2 c3 c4 c5 c6 c7 hw1 HM1 hb2 hl1 HB1
  cases mx
  · have HF : Hid (cx = false) := Lib.hid (by rw [HC.out]; rfl)
    clear HC
    go_wp2_with fail
    go_ret
    exact ⟨ret_bool HF.out.symm, HB2.out⟩
  by_cases q1 : k0 = 11
  · have HF : Hid (cx = true) := Lib.hid (by rw [HC.out, q1]; rfl)
    subst q1
    clear HC
    go_wp2_with fail
    go_ret
    exact ⟨ret_bool HF.out.symm, HB2.out⟩
  have e1 : (k0 == 11) = false := by rw [Bool.eq_false_iff]; intro e; exact q1 (beq_iff_eq.1 e)
  by_cases q2 : k0 = 12
  · have HF : Hid (cx = true) := Lib.hid (by rw [HC.out, q2]; rfl)
    subst q2
    clear HC
    go_wp2_with fail
    go_ret
    exact ⟨ret_bool HF.out.symm, HB2.out⟩
  have e2 : (k0 == 12) = false := by rw [Bool.eq_false_iff]; intro e; exact q2 (beq_iff_eq.1 e)
  by_cases q3 : k0 = 13
  · have HF : Hid (cx = true) := Lib.hid (by rw [HC.out, q3]; rfl)
    subst q3
    clear HC
    go_wp2_with fail
    go_ret
    exact ⟨ret_bool HF.out.symm, HB2.out⟩
  have e3 : (k0 == 13) = false := by rw [Bool.eq_false_iff]; intro e; exact q3 (beq_iff_eq.1 e)
  have HF : Hid (cx = false) := Lib.hid (by rw [HC.out]; simp [q1, q2, q3])
  clear HC q1 q2 q3
  go_wp2_with fail
  go_ret
  exact ⟨ret_bool HF.out.symm, HB2.out⟩

set_option maxHeartbeats 2000000 in
set_option maxRecDepth 100000 in
theorem has_any (x : It) (tg : ByteArray) (w : World) (ht : x.tags.size ≤ 999999) :
    Calls Tryd.prog 57 #[itA x, .string tg] w fun e w' => e = .returned (.bool (memB tg (tagsOf x.tags))) ∧ Below w.heap.size w w' := by
  obtain ⟨nm, mk, tg0, st, pr, bo, li⟩ := x
  unfold itA
  dsimp only at ht ⊢
  have hsz := semi_size tg0
  have hfw := tags_few tg0
  obtain ⟨w1, hw1⟩ : ∃ w1, w.alloc (.cells #[.string nm, .string mk, .string tg0, .int .i64 st, .int .i64 pr, .int .i64 bo, .bool li] 64) = w1 := ⟨_, rfl⟩
  have b1 : Blk w1 w.heap.size 64 #[.string nm, .string mk, .string tg0, .int .i64 st, .int .i64 pr, .int .i64 bo, .bool li] := by rw [← hw1]; exact Blk.new _ _ _
  have HB1 : Hid (Below w.heap.size w w1) := Lib.hid (by rw [← hw1]; exact (Below.refl _ _).alloc (Nat.le_refl _) _)
  have c2 : w1.cell? ⟨w.heap.size, 2, none⟩ = some (.string tg0) := b1.cell 2
  have HT := Lib.hid (rtags_any (⟨#[59]⟩ ++ tg0) w1 (by rw [hsz]; omega))
  have HTG : Hid (evTags (⟨#[59]⟩ ++ tg0) = tagsOf tg0) := Lib.hid rfl
  rw [HTG.out] at HT
  clear b1 hsz HTG
  go_enter Tryd.func57, Tryd.ntmps57
  go_wp2_with fail
  refine HT.out.mono ?_
  rintro e w2 ⟨A, c, rfl, hown, hb2⟩
  have HB2 : Hid (Below w.heap.size w w2) := Lib.hid (HB1.out.trans (hb2.mono HB1.out.size))
  have HR := Lib.hid (RowIn.of_own hown)
  clear HT hown hb2 hw1 c2 HB1
  generalize htl : tagsOf tg0 = l at *
  have HTL := Lib.hid htl
  clear htl
  obtain ⟨n, hn⟩ : ∃ n, l.length = n := ⟨_, rfl⟩
  rw [hn] at HR hfw ⊢
  have HLN := Lib.hid hn
  clear hn
  go_wp2_with fail
  go_loopw [6] (fun i wr => ∃ k : Nat, k ≤ n ∧ i = .int .i64 k ∧ Hid (∀ j s, j < k → l[j]? = some s → s ≠ tg) ∧ wr = w2) (fun i _ => n - (intOf i).toNat)
  case atStart => exact ⟨0, Nat.zero_le _, rfl, Lib.hid (fun j s hj => by omega), rfl⟩
  case round =>
    obtain ⟨k, hk, rfl, hok, rfl⟩ := hrel
    by_cases hlt : k < n
    · obtain ⟨t, ht'⟩ : ∃ t, l[k]? = some t := ⟨l[k]'(by rw [HLN.out]; exact hlt), List.getElem?_eq_getElem _⟩
      obtain ⟨g, o, rfl, _, hc⟩ := HR.out.at (by omega)
      have e0 : wr.cell? ⟨g, o + k, none⟩ = some (.string t) := hc k _ (by simp [ht'])
      have HTK := Lib.hid ht'
      have hk8 : (k : Int) < (n : Int) := by omega
      have hk9 : (0 : Int) ≤ (k : Int) := by omega
      clear ht' hc
      by_cases he : t = tg
      · have HE := Lib.hid he
        have q1 : (t.toList == tg.toList) = true := (beq_list t tg).2 he
        clear he
        go_wp2_with fail
        go_ret
        exact ⟨ret_bool ((memB_iff _ _).2 (by rw [← HE.out]; first | exact List.mem_of_getElem? HTK.out | (rw [HTL.out]; exact List.mem_of_getElem? HTK.out))).symm, HB2.out⟩
      · have HE := Lib.hid he
        have q1 : (t.toList == tg.toList) = false := Bool.eq_false_iff.2 (fun e => he ((beq_list t tg).1 e))
        clear he
        go_wp2_with fail
        go_roundw
        case rel =>
          refine ⟨k + 1, by omega, by go_num, Lib.hid (fun j s hj hs => ?_), by trivial⟩
          by_cases e : j = k
          · subst e
            rw [HTK.out] at hs
            cases hs
            exact HE.out
          · exact hok.out j s (by omega) hs
        case measure => simp [intOf]; omega
    · have HF : Hid (memB tg l = false) := Lib.hid (by
        cases hm : memB tg l
        · rfl
        · obtain ⟨j, hj⟩ := List.mem_iff_getElem?.1 ((memB_iff _ _).1 hm)
          have := (List.getElem?_eq_some_iff.1 hj).1
          rw [HLN.out] at this
          exact absurd rfl (hok.out j tg (by omega) hj))
      go_wp2_with fail
      go_ret
      exact ⟨ret_bool (by first | exact HF.out.symm | (rw [HTL.out]; exact HF.out.symm)), HB2.out⟩

end Go.Proofs.YtpnfnmpohacnoaaDoor
