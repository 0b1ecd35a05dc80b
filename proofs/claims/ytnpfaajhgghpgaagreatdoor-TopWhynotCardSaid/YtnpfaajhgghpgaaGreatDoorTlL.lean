/- tale.listing. -/
import Derived.Test.YtnpfaajhgghpgaaGreatDoorTz
namespace Go.Proofs.YtnpfaajhgghpgaaGreatDoor
open Go.Shelf Go.RowKit Go.Maps
open Ru (TabAt Zbx)
set_option linter.unusedVariables false

def bitsA (v k : Nat) : Array Value := #[.bool (decide (0 < k) && tlBit v 0), .bool (decide (1 < k) && tlBit v 1), .bool (decide (2 < k) && tlBit v 2)]

theorem tlbit (u : Nat) (hu : u < 64) : (bits .and .i64 (u : Int) 1 == 1) = decide (u / 2 ^ 0 % 2 = 1) ∧ (bits .and .i64 ((u : Int) / 2) 1 == 1) = decide (u / 2 ^ 1 % 2 = 1) ∧ (bits .and .i64 ((u : Int) / 4) 1 == 1) = decide (u / 2 ^ 2 % 2 = 1) := by
  have h : ∀ u ∈ List.range 64, (bits .and .i64 (u : Int) 1 == 1) = decide (u / 2 ^ 0 % 2 = 1) ∧ (bits .and .i64 ((u : Int) / 2) 1 == 1) = decide (u / 2 ^ 1 % 2 = 1) ∧ (bits .and .i64 ((u : Int) / 4) 1 == 1) = decide (u / 2 ^ 2 % 2 = 1) := by decide +kernel
  exact h u (List.mem_range.2 hu)
theorem bitsA_set0 (v : Nat) {B : Bool} (h : tlBit v 0 = B) : (bitsA v 0).setIfInBounds 0 (.bool B) = bitsA v 1 := by subst h; simp [bitsA]
theorem bitsA_set1 (v : Nat) {B : Bool} (h : tlBit v 1 = B) : (bitsA v 1).setIfInBounds 1 (.bool B) = bitsA v 2 := by subst h; simp [bitsA]
theorem bitsA_set2 (v : Nat) {B : Bool} (h : tlBit v 2 = B) : (bitsA v 2).setIfInBounds 2 (.bool B) = bitsA v 3 := by subst h; simp [bitsA]
set_option maxRecDepth 100000 in
theorem eq_bits (a b c : Bool) (w : World) : (Op.equalIn 10000 188 (.agg #[.bool a, .bool b, .bool c]) (.agg #[.bool false, .bool false, .bool false])).run Tryz.prog w = .ok (!a && (!b && !c)) w := by
  cases a <;> cases b <;> cases c <;> kernel_rfl
theorem idx_bits0 (a b c : Bool) (w : World) : (Instr.index 188 (.agg #[.bool a, .bool b, .bool c]) (.int .i64 0)).run Tryz.prog w = .ok (.bool a) w := by kernel_rfl
theorem idx_bits1 (a b c : Bool) (w : World) : (Instr.index 188 (.agg #[.bool a, .bool b, .bool c]) (.int .i64 1)).run Tryz.prog w = .ok (.bool b) w := by kernel_rfl
theorem idx_bits2 (a b c : Bool) (w : World) : (Instr.index 188 (.agg #[.bool a, .bool b, .bool c]) (.int .i64 2)).run Tryz.prog w = .ok (.bool c) w := by kernel_rfl
theorem own_cap {w : World} {base e size n c : Nat} {A : Option Addr} {xs : List Value} (h : w.ownsRow base e size (.slice A n c) n xs) : n ≤ c := by
  rcases h.2 with ⟨h1, rfl⟩ | ⟨g, cap, cur, h1, h2, h3, h4, _⟩
  · injection h1 with hA _ hc
    subst hc
    exact Nat.le_refl _
  · injection h1 with hA _ hc
    subst hc
    exact h4
def tagK (v k : Nat) : List ByteArray := (([0, 1, 2].take k).filter (tlBit v)).map (tlNm 116)
theorem tagK_len (v k : Nat) : (tagK v k).length ≤ 3 := by
  unfold tagK
  rw [List.length_map]
  refine Nat.le_trans (List.length_filter_le _ _) ?_
  rw [List.length_take]
  exact Nat.min_le_right _ _
theorem tagK_on {v k : Nat} (hk : k < 3) (h : tlBit v k = true) : tagK v (k + 1) = tagK v k ++ [tlNm 116 k] := by
  have h3 : k = 0 ∨ k = 1 ∨ k = 2 := by omega
  unfold tagK
  rcases h3 with rfl | rfl | rfl
  · simp [h]
  · rw [show ([0, 1, 2] : List Nat).take 2 = [0] ++ [1] from rfl, List.filter_append, List.map_append]; simp [h]
  · rw [show ([0, 1, 2] : List Nat).take 3 = [0, 1] ++ [2] from rfl, List.filter_append, List.map_append]; simp [h]
theorem tagK_off {v k : Nat} (hk : k < 3) (h : tlBit v k = false) : tagK v (k + 1) = tagK v k := by
  have h3 : k = 0 ∨ k = 1 ∨ k = 2 := by omega
  unfold tagK
  rcases h3 with rfl | rfl | rfl
  · simp [h]
  · rw [show ([0, 1, 2] : List Nat).take 2 = [0] ++ [1] from rfl, List.filter_append, List.map_append]; simp [h]
  · rw [show ([0, 1, 2] : List Nat).take 3 = [0, 1] ++ [2] from rfl, List.filter_append, List.map_append]; simp [h]
theorem list_tags (m : ByteArray) {v : Nat} (hb : (!tlBit v 0 && (!tlBit v 1 && !tlBit v 2)) = true) : m ++ ⟨#[59]⟩ = tlList m v := by
  unfold tlList tlTags tlTag
  have h0 : tlBit v 0 = false := by cases h : tlBit v 0 <;> simp_all
  have h1 : tlBit v 1 = false := by cases h : tlBit v 1 <;> simp_all
  have h2 : tlBit v 2 = false := by cases h : tlBit v 2 <;> simp_all
  have e : ([0, 1, 2] : List Nat).filter (tlBit v) = [] := by simp [h0, h1, h2]
  rw [e]
  exact ba_eq (by simp [Lib.join])
theorem tags_pos {v : Nat} (hb : (!tlBit v 0 && (!tlBit v 1 && !tlBit v 2)) = false) : 0 < (tagK v 3).length := by
  have : tagK v 3 = (([0, 1, 2] : List Nat).filter (tlBit v)).map (tlNm 116) := rfl
  rw [this, List.length_map, List.length_pos_iff_exists_mem]
  cases h0 : tlBit v 0
  · cases h1 : tlBit v 1
    · cases h2 : tlBit v 2
      · rw [h0, h1, h2] at hb; cases hb
      · exact ⟨2, List.mem_filter.2 ⟨by simp, h2⟩⟩
    · exact ⟨1, List.mem_filter.2 ⟨by simp, h1⟩⟩
  · exact ⟨0, List.mem_filter.2 ⟨by simp, h0⟩⟩
theorem tlFew (v : Nat) : (Lib.join ((tagK v 3).map (·.data.toList)) [44]).length ≤ 20 := by
  have h : ∀ a b c : Bool, (Lib.join (((([0, 1, 2] : List Nat).filter fun i => if i = 0 then a else if i = 1 then b else c).map (tlNm 116)).map (·.data.toList)) [44]).length ≤ 20 := by decide +kernel
  have h2 := h (tlBit v 0) (tlBit v 1) (tlBit v 2)
  have e : ([0, 1, 2] : List Nat).filter (fun i => if i = 0 then tlBit v 0 else if i = 1 then tlBit v 1 else tlBit v 2) = ([0, 1, 2] : List Nat).filter (tlBit v) := List.filter_congr (fun i hi => by
    simp at hi
    rcases hi with rfl | rfl | rfl <;> simp)
  rw [e] at h2
  exact h2
theorem below_set2 {B : Nat} {w wr : World} (hb : Below B w wr) (j : Nat) (v : Value) {g : Nat} (hg : B ≤ g) : Below B w (wr.setCell ⟨g, j, none⟩ v) := hb.setCell (p := ⟨g, j, none⟩) hg v
theorem below_set {w wr : World} (hb : Below w.heap.size w wr) (j : Nat) (v : Value) {g : Nat} (hg : w.heap.size ≤ g) : Below w.heap.size w (wr.setCell ⟨g, j, none⟩ v) :=
  hb.trans (((Kept.refl (fun q => q = g) wr).setCell (p := ⟨g, j, none⟩) (Or.inl rfl) v).toBelow (fun i hi => by rw [hi]; exact hg) hb.size)
set_option maxHeartbeats 8000000 in
set_option maxRecDepth 100000 in
theorem tlist_any (m : ByteArray) (v : Nat) (hm : m.size ≤ 1000) (hv : v < 256) (w : World) (ht : TabAt w) : Calls Tryz.prog 73 #[.string m, .int .i64 v] w fun e w' => e = .returned (.string (tlList m v)) ∧ Below w.heap.size w w' := by
  have HT : Hid (∀ W, Below w.heap.size w W → TabAt W) := Lib.hid (fun W hb => ht.keep hb)
  obtain ⟨w1, hw1⟩ : ∃ w1, w.alloc (.cells #[.bool false, .bool false, .bool false] 188) = w1 := ⟨_, rfl⟩
  have HX1 : Hid (Blk w1 w.heap.size 188 (bitsA v 0)) := Lib.hid (by rw [← hw1]; exact Blk.new _ _ _)
  have HB1 : Hid (Below w.heap.size w w1) := Lib.hid (by rw [← hw1]; exact (Below.refl _ _).alloc (Nat.le_refl _) _)
  have hd : Int.tdiv (v : Int) 4 = ((v / 4 : Nat) : Int) := tdiv_nat v 4
  obtain ⟨u, hu⟩ : ∃ u, v / 4 = u := ⟨_, rfl⟩
  rw [hu] at hd
  have hu64 : u < 64 := by omega
  obtain ⟨t0, t1, t2⟩ := tlbit u hu64
  obtain ⟨B0, hB0⟩ : ∃ B, tlBit v 0 = B := ⟨_, rfl⟩
  obtain ⟨B1, hB1⟩ : ∃ B, tlBit v 1 = B := ⟨_, rfl⟩
  obtain ⟨B2, hB2⟩ : ∃ B, tlBit v 2 = B := ⟨_, rfl⟩
  have HBB : Hid (tlBit v 0 = B0 ∧ tlBit v 1 = B1 ∧ tlBit v 2 = B2) := Lib.hid ⟨hB0, hB1, hB2⟩
  unfold tlBit at hB0 hB1 hB2
  rw [hu] at hB0 hB1 hB2
  rw [hB0] at t0
  rw [hB1] at t1
  rw [hB2] at t2
  clear hB0 hB1 hB2
  clear ht
  go_enter Tryz.func73, Tryz.ntmps73
  go_wp2_with fail
  try rw [hw1]
  clear hw1
  go_loopw [10] (fun i wr => ∃ k : Nat, k ≤ 3 ∧ i = .int .i64 k ∧ Hid (Blk wr w.heap.size 188 (bitsA v k)) ∧ Hid (Below w.heap.size w wr)) (fun i _ => 3 - (intOf i).toNat)
  case atStart => exact ⟨0, by omega, rfl, HX1, HB1⟩
  case round =>
    obtain ⟨k, hk, rfl, hs, hb⟩ := hrel
    have g0 := hs.out.frozen 0
    have g1 := hs.out.frozen 1
    have g2 := hs.out.frozen 2
    have c0 := hs.out.cell 0
    have c1 := hs.out.cell 1
    have c2 := hs.out.cell 2
    have h3 : k = 0 ∨ k = 1 ∨ k = 2 ∨ k = 3 := by omega
    rcases h3 with rfl | rfl | rfl | rfl
    · have HN : Hid (Blk (wr.setCell ⟨w.heap.size, 0, none⟩ (.bool B0)) w.heap.size 188 (bitsA v 1)) := Lib.hid (by have h := hs.out.set_ 0 (.bool B0); rw [bitsA_set0 v HBB.out.1] at h; exact h)
      go_wp2_with fail
      go_roundw
      case rel => exact ⟨1, by omega, rfl, HN, Lib.hid (below_set hb.out _ _ (Nat.le_refl _))⟩
      case measure => simp [intOf]
    · have HN : Hid (Blk (wr.setCell ⟨w.heap.size, 1, none⟩ (.bool B1)) w.heap.size 188 (bitsA v 2)) := Lib.hid (by have h := hs.out.set_ 1 (.bool B1); rw [bitsA_set1 v HBB.out.2.1] at h; exact h)
      go_wp2_with fail
      go_roundw
      case rel => exact ⟨2, by omega, rfl, HN, Lib.hid (below_set hb.out _ _ (Nat.le_refl _))⟩
      case measure => simp [intOf]
    · have HN : Hid (Blk (wr.setCell ⟨w.heap.size, 2, none⟩ (.bool B2)) w.heap.size 188 (bitsA v 3)) := Lib.hid (by have h := hs.out.set_ 2 (.bool B2); rw [bitsA_set2 v HBB.out.2.2] at h; exact h)
      go_wp2_with fail
      go_roundw
      case rel => exact ⟨3, by omega, rfl, HN, Lib.hid (below_set hb.out _ _ (Nat.le_refl _))⟩
      case measure => simp [intOf]
    · have d0 : wr.cell? ⟨w.heap.size, 0, none⟩ = some (.bool B0) := by rw [c0, ← HBB.out.1]; rfl
      have d1 : wr.cell? ⟨w.heap.size, 1, none⟩ = some (.bool B1) := by rw [c1, ← HBB.out.2.1]; rfl
      have d2 : wr.cell? ⟨w.heap.size, 2, none⟩ = some (.bool B2) := by rw [c2, ← HBB.out.2.2]; rfl
      clear c0 c1 c2 g0 g1 g2
      rw [show ((3 : Nat) : Int) = 3 from rfl]
      have he := eq_bits B0 B1 B2 wr
      obtain ⟨bb, hbb⟩ : ∃ bb, (!B0 && (!B1 && !B2)) = bb := ⟨_, rfl⟩
      rw [hbb] at he
      have HBL := Lib.hid hbb
      clear hbb
      cases bb with
      | true =>
        go_wp2_with fail
        go_ret
        refine ⟨?_, hb.out⟩
        show Ending.returned (Value.string (m ++ ⟨#[59]⟩)) = _
        rw [list_tags m (v := v) (by rw [HBB.out.1, HBB.out.2.1, HBB.out.2.2]; exact HBL.out)]
      | false =>
        obtain ⟨i0, hi0, hz0, hz1, hz2⟩ := info_parts Zjy
        have HBW := Lib.hid hb.out
        clear hb hs t0 t1 t2 hd



        go_wp2_with fail
        go_loopw [28, 7] (fun i v7 wr => ∃ k : Nat, ∃ A n c, k ≤ 3 ∧ i = .int .i64 k ∧ v7 = .slice A n c ∧ Hid ((tagK v k).length = n) ∧ Hid (wr.ownsRow w.heap.size 9 1 (.slice A n c) n ((tagK v k).map .string)) ∧ Hid (Below w.heap.size w wr)) (fun i _ _ => 3 - (intOf i).toNat)
        case atStart => exact ⟨0, none, 0, 0, by omega, rfl, rfl, Lib.hid rfl, Lib.hid (own_nil _ _ _ _), HBW⟩
        case round =>
          obtain ⟨k, A, n, c, hk, rfl, rfl, hn, ho, hb⟩ := hrel
          have h3 : k = 0 ∨ k = 1 ∨ k = 2 ∨ k = 3 := by omega
          rcases h3 with rfl | rfl | rfl | rfl
          · have hix := idx_bits0 B0 B1 B2 wr
            cases hbt : B0 with
            | true =>
              have HNN := Lib.hid (tagK_on (v := v) (k := 0) (by omega) (by rw [HBB.out.1]; exact hbt))
              subst hbt
              have HNM := Lib.hid (numb_any 116 0 (by omega) wr (HT.out _ hb.out))
              have hn3 : n ≤ 3 := by rw [← hn.out]; exact tagK_len v 0
              go_wp2_with fail
              refine HNM.out.mono ?_
              rintro e w5 ⟨rfl, hb5⟩
              have HB5 : Hid (Below w.heap.size w w5) := Lib.hid (hb.out.trans (hb5.mono hb.out.size))
              have HO5 : Hid (w5.ownsRow w.heap.size 9 1 (.slice A n c) n ((tagK v 0).map .string)) := Lib.hid (owns_kept ho.out (below_kept (S := fun _ => False) hb5 (Nat.le_refl _)) (fun _ _ h => h))
              obtain ⟨z, hz⟩ : ∃ z, tlNm 116 0 = z := ⟨_, rfl⟩
              rw [hz] at HNN ⊢
              have hz5 : w.heap.size ≤ w5.heap.size := HB5.out.size
              clear hb5 HNM hz hix
              go_wp2_with (at_builtin; refine Zaa _ rfl _ _ 36 rfl w.heap.size 9 i0 _ 1 16 Tryz.underlying36 hi0 hz0 hz1 hz2 rfl (by omega) (.slice A n c) n _ rfl (HO5.out.alloc _) (w5.heap.size + 1) (some ⟨w5.heap.size, 0, none⟩) 1 1 [.string z] rfl (Zit w5 z _) (fun h => by cases h) (fun u hu => by simp at hu; subst hu; rfl) (by unfold maxLen; omega) (by omega) (by simp; omega) ?_; intro v10 w10 ho10 hg10 hv10)
              obtain ⟨A7, c7, hv⟩ := own_shape ho10
              subst hv
              have HBA : Hid (Below w.heap.size w w10) := Lib.hid ((HB5.out.alloc hz5 _).grown hg10 (by simp; omega) (fun j hj => (HO5.out.lt _ hj).1))
              go_roundw
              case rel =>
                refine ⟨0 + 1, A7, n + 1, c7, by omega, rfl, rfl, Lib.hid (by rw [HNN.out, List.length_append, hn.out]; rfl), Lib.hid ?_, HBA⟩
                rw [HNN.out, List.map_append]
                exact ho10
              case measure => simp [intOf]
            | false =>
              have HNN := Lib.hid (tagK_off (v := v) (k := 0) (by omega) (by rw [HBB.out.1]; exact hbt))
              subst hbt
              go_wp2_with fail
              go_roundw
              case rel => exact ⟨0 + 1, A, n, c, by omega, rfl, rfl, Lib.hid (by rw [HNN.out]; exact hn.out), Lib.hid (by rw [HNN.out]; exact ho.out), hb⟩
              case measure => simp [intOf]
          · have hix := idx_bits1 B0 B1 B2 wr
            cases hbt : B1 with
            | true =>
              have HNN := Lib.hid (tagK_on (v := v) (k := 1) (by omega) (by rw [HBB.out.2.1]; exact hbt))
              subst hbt
              have HNM := Lib.hid (numb_any 116 1 (by omega) wr (HT.out _ hb.out))
              have hn3 : n ≤ 3 := by rw [← hn.out]; exact tagK_len v 1
              go_wp2_with fail
              refine HNM.out.mono ?_
              rintro e w5 ⟨rfl, hb5⟩
              have HB5 : Hid (Below w.heap.size w w5) := Lib.hid (hb.out.trans (hb5.mono hb.out.size))
              have HO5 : Hid (w5.ownsRow w.heap.size 9 1 (.slice A n c) n ((tagK v 1).map .string)) := Lib.hid (owns_kept ho.out (below_kept (S := fun _ => False) hb5 (Nat.le_refl _)) (fun _ _ h => h))
              obtain ⟨z, hz⟩ : ∃ z, tlNm 116 1 = z := ⟨_, rfl⟩
              rw [hz] at HNN ⊢
              have hz5 : w.heap.size ≤ w5.heap.size := HB5.out.size
              clear hb5 HNM hz hix
              go_wp2_with (at_builtin; refine Zaa _ rfl _ _ 36 rfl w.heap.size 9 i0 _ 1 16 Tryz.underlying36 hi0 hz0 hz1 hz2 rfl (by omega) (.slice A n c) n _ rfl (HO5.out.alloc _) (w5.heap.size + 1) (some ⟨w5.heap.size, 0, none⟩) 1 1 [.string z] rfl (Zit w5 z _) (fun h => by cases h) (fun u hu => by simp at hu; subst hu; rfl) (by unfold maxLen; omega) (by omega) (by simp; omega) ?_; intro v10 w10 ho10 hg10 hv10)
              obtain ⟨A7, c7, hv⟩ := own_shape ho10
              subst hv
              have HBA : Hid (Below w.heap.size w w10) := Lib.hid ((HB5.out.alloc hz5 _).grown hg10 (by simp; omega) (fun j hj => (HO5.out.lt _ hj).1))
              go_roundw
              case rel =>
                refine ⟨1 + 1, A7, n + 1, c7, by omega, rfl, rfl, Lib.hid (by rw [HNN.out, List.length_append, hn.out]; rfl), Lib.hid ?_, HBA⟩
                rw [HNN.out, List.map_append]
                exact ho10
              case measure => simp [intOf]
            | false =>
              have HNN := Lib.hid (tagK_off (v := v) (k := 1) (by omega) (by rw [HBB.out.2.1]; exact hbt))
              subst hbt
              go_wp2_with fail
              go_roundw
              case rel => exact ⟨1 + 1, A, n, c, by omega, rfl, rfl, Lib.hid (by rw [HNN.out]; exact hn.out), Lib.hid (by rw [HNN.out]; exact ho.out), hb⟩
              case measure => simp [intOf]
          · have hix := idx_bits2 B0 B1 B2 wr
            cases hbt : B2 with
            | true =>
              have HNN := Lib.hid (tagK_on (v := v) (k := 2) (by omega) (by rw [HBB.out.2.2]; exact hbt))
              subst hbt
              have HNM := Lib.hid (numb_any 116 2 (by omega) wr (HT.out _ hb.out))
              have hn3 : n ≤ 3 := by rw [← hn.out]; exact tagK_len v 2
              go_wp2_with fail
              refine HNM.out.mono ?_
              rintro e w5 ⟨rfl, hb5⟩
              have HB5 : Hid (Below w.heap.size w w5) := Lib.hid (hb.out.trans (hb5.mono hb.out.size))
              have HO5 : Hid (w5.ownsRow w.heap.size 9 1 (.slice A n c) n ((tagK v 2).map .string)) := Lib.hid (owns_kept ho.out (below_kept (S := fun _ => False) hb5 (Nat.le_refl _)) (fun _ _ h => h))
              obtain ⟨z, hz⟩ : ∃ z, tlNm 116 2 = z := ⟨_, rfl⟩
              rw [hz] at HNN ⊢
              have hz5 : w.heap.size ≤ w5.heap.size := HB5.out.size
              clear hb5 HNM hz hix
              go_wp2_with (at_builtin; refine Zaa _ rfl _ _ 36 rfl w.heap.size 9 i0 _ 1 16 Tryz.underlying36 hi0 hz0 hz1 hz2 rfl (by omega) (.slice A n c) n _ rfl (HO5.out.alloc _) (w5.heap.size + 1) (some ⟨w5.heap.size, 0, none⟩) 1 1 [.string z] rfl (Zit w5 z _) (fun h => by cases h) (fun u hu => by simp at hu; subst hu; rfl) (by unfold maxLen; omega) (by omega) (by simp; omega) ?_; intro v10 w10 ho10 hg10 hv10)
              obtain ⟨A7, c7, hv⟩ := own_shape ho10
              subst hv
              have HBA : Hid (Below w.heap.size w w10) := Lib.hid ((HB5.out.alloc hz5 _).grown hg10 (by simp; omega) (fun j hj => (HO5.out.lt _ hj).1))
              go_roundw
              case rel =>
                refine ⟨2 + 1, A7, n + 1, c7, by omega, rfl, rfl, Lib.hid (by rw [HNN.out, List.length_append, hn.out]; rfl), Lib.hid ?_, HBA⟩
                rw [HNN.out, List.map_append]
                exact ho10
              case measure => simp [intOf]
            | false =>
              have HNN := Lib.hid (tagK_off (v := v) (k := 2) (by omega) (by rw [HBB.out.2.2]; exact hbt))
              subst hbt
              go_wp2_with fail
              go_roundw
              case rel => exact ⟨2 + 1, A, n, c, by omega, rfl, rfl, Lib.hid (by rw [HNN.out]; exact hn.out), Lib.hid (by rw [HNN.out]; exact ho.out), hb⟩
              case measure => simp [intOf]
          · have hpos : 0 < (tagK v 3).length := tags_pos (by rw [HBB.out.1, HBB.out.2.1, HBB.out.2.2]; exact HBL.out)
            have hln := hn.out
            have hcap := own_cap ho.out
            obtain ⟨g, off, rfl, hgB, hcc⟩ := RowIn.at (RowIn.of_own ho.out) (by omega)
            have HJ := Lib.hid (Zpr g off c (tagK v 3) ⟨#[44]⟩ wr (fun j y hy => hcc j _ (by rw [List.getElem?_map, hy]; rfl)) hgB (by have := tagK_len v 3; omega) (by omega) (Nat.le_trans (tlFew v) (by omega)))
            have hjl : (⟨(Lib.join ((tagK v 3).map (·.data.toList)) (⟨#[44]⟩ : ByteArray).data.toList).toArray⟩ : ByteArray) = tlTags v := rfl
            rw [hjl, hln] at HJ
            have hsz : (tlTags v).size ≤ 20 := by
              have := tlFew v
              show (Lib.join ((tagK v 3).map (·.data.toList)) [44]).toArray.size ≤ 20
              simpa using this
            obtain ⟨tg, htg⟩ : ∃ t, tlTags v = t := ⟨_, rfl⟩
            have HTG := Lib.hid htg
            rw [htg] at HJ hsz
            clear htg hjl hcc hln hpos ho hn
            go_wp2_with fail
            refine HJ.out.mono ?_
            rintro e w5 ⟨rfl, hb5⟩
            have HB5 : Hid (Below w.heap.size w w5) := Lib.hid (hb.out.trans (hb5.mono hb.out.size))
            have q1 : ¬ 9223372036854775807 < m.size + 1 := by omega
            have q2 : ¬ 9223372036854775807 < m.size + 1 + tg.size := by omega
            clear hb5 HJ
            go_wp2_with fail
            go_ret
            refine ⟨?_, HB5.out⟩
            unfold tlList
            rw [HTG.out]
            rfl
end Go.Proofs.YtnpfaajhgghpgaaGreatDoor
