/- The law's rows; the document's Same, of the same rows. -/
import Derived.Test.YtikbckpphkpaiaaGreatDoorFdItems
import Derived.Test.YtikbckpphkpaiaaGreatDoorFdRef
namespace Go.Proofs.YtikbckpphkpaiaaGreatDoor
open Go.Shelf Go.RowKit Go.Maps
set_option linter.unusedVariables false

theorem row_info : (Tryz.prog.info? 55).map (fun i => (i.zero, i.size, i.bytes)) = some (some (.agg #[.string ⟨#[]⟩, .string ⟨#[]⟩, .string ⟨#[]⟩, .int .i64 0, .int .i64 0]), 5, 64) := by kernel_rfl
theorem row_one (x : Ro) : ∀ u ∈ roC x, u.oneCell' = true := by
  intro u hu
  simp only [roC, List.mem_cons, List.not_mem_nil, or_false] at hu
  rcases hu with rfl | rfl | rfl | rfl | rfl <;> rfl
theorem ro1_row (w : World) (x : Ro) (t : TypeId) : RowIn (w.alloc (.cells #[.string x.name, .string x.maker, .string x.tags, .int .i64 x.price, .int .i64 x.stock] t)) (w.heap.size + 1) 5 (some ⟨w.heap.size, 0, none⟩) 1 (roC x) := by
  refine ⟨rfl, Or.inr ⟨w.heap.size, 0, rfl, by omega, fun j u hu => ?_⟩⟩
  rw [(Blk.new w t _).cell]
  rw [← hu, Nat.zero_add]
  simp [roC]
theorem eq_ro_self (a b c : ByteArray) (d e : Int) (w : World) :
    (Op.equalIn 10000 55 (.agg #[.string a, .string b, .string c, .int .i64 d, .int .i64 e]) (.agg #[.string a, .string b, .string c, .int .i64 d, .int .i64 e])).run Tryz.prog w = .ok true w := by
  simp [go_sem]
theorem its_take {l : List It} {k : Nat} {x : It} (h : l[k]? = some x) : (l.take (k + 1)).map roOf = (l.take k).map roOf ++ [roOf x] := by
  rw [List.take_add_one, h, List.map_append]; rfl

set_option maxHeartbeats 4000000 in
set_option maxRecDepth 100000 in
theorem rowsl_any (w : World) (B : Nat) (A : Option Addr) (l : List It) (n c : Nat) (hn : l.length = n) (hl : RowIn w B 7 A n (l.flatMap itC)) (hB : B ≤ w.heap.size) (hb : n ≤ 100000) :
    Calls Tryz.prog 9 #[.slice A n c] w fun e w' => ∃ A' c', e = .returned (.slice A' n c') ∧ RowIn w' w'.heap.size 5 A' n ((l.map roOf).flatMap roC) ∧ (A' = none → c' = 0) ∧ Below w.heap.size w w' := by
  have HN := Lib.hid hn
  have HL := Lib.hid hl
  clear hn hl
  obtain ⟨i0, hi0, hz0, hz1, hz2⟩ := info_parts row_info
  go_enter Tryz.func9, Tryz.ntmps9
  go_wp2_with fail
  go_loopw [3, 4] (fun s i wr => ∃ (k : Nat) (A5 : Option Addr) (c5 : Nat), k ≤ n ∧ i = .int .i64 k ∧ s = .slice A5 k c5 ∧ Hid (wr.ownsRow w.heap.size 55 5 (.slice A5 k c5) k (((l.take k).map roOf).flatMap roC)) ∧ Hid (Below w.heap.size w wr)) (fun _ i _ => n - (intOf i).toNat)
  case atStart => exact ⟨0, none, 0, Nat.zero_le _, rfl, rfl, Lib.hid (own_nil _ _ _ _), Lib.hid (Below.refl _ _)⟩
  case round =>
    obtain ⟨k, A5, c5, hk, rfl, rfl, hrow, hbw⟩ := hrel
    have hwz := hbw.out.size
    by_cases hlt : k < n
    · obtain ⟨x, hx⟩ : ∃ x, l[k]? = some x := ⟨l[k]'(by rw [HN.out]; exact hlt), List.getElem?_eq_getElem _⟩
      obtain ⟨g, o, rfl, hgB, hcl⟩ := it_at HL.out (by omega)
      have hgw : g < w.heap.size := Nat.lt_of_lt_of_le hgB hB
      have HSC : Hid (∀ W, Below w.heap.size w W → W.cell? ⟨g, o + k * 7, none⟩ = some (.string x.name) ∧ W.cell? ⟨g, o + k * 7 + 1, none⟩ = some (.string x.maker) ∧ W.cell? ⟨g, o + k * 7 + 2, none⟩ = some (.string x.tags) ∧ W.cell? ⟨g, o + k * 7 + 3, none⟩ = some (.int .i64 x.stock) ∧ W.cell? ⟨g, o + k * 7 + 4, none⟩ = some (.int .i64 x.price)) := Lib.hid (fun W hW => by
        obtain ⟨f0, f1, f2, f3, f4, _⟩ := hcl k x hx
        exact ⟨(hW.cell (p := ⟨g, _, none⟩) hgw).trans f0, (hW.cell (p := ⟨g, _, none⟩) hgw).trans f1, (hW.cell (p := ⟨g, _, none⟩) hgw).trans f2, (hW.cell (p := ⟨g, _, none⟩) hgw).trans f3, (hW.cell (p := ⟨g, _, none⟩) hgw).trans f4⟩)
      have HTK := Lib.hid (its_take hx)
      have hk8 : (k : Int) < (n : Int) := by omega
      have hk9 : (0 : Int) ≤ (k : Int) := by omega
      clear hcl hx
      go_wp2_with fail
      have HS0 : Hid (Below w.heap.size w wr.drew) := Lib.hid (below_drew hbw.out)
      obtain ⟨wd, hwd⟩ : ∃ wd, wr.drew = wd := ⟨_, rfl⟩
      have HRD : Hid (wd.ownsRow w.heap.size 55 5 (.slice A5 k c5) k (((l.take k).map roOf).flatMap roC)) := Lib.hid (by rw [← hwd]; exact hrow.out)
      refine wp_plan (fun W => Below w.heap.size w W) [(0, false), (1, false), (2, false), (3, false), (4, false), (5, false), (6, false), (7, false), (8, false), (9, false), (10, false), (11, false), (12, false), (13, false), (14, false), (15, false), (16, false), (17, false), (18, false), (19, false), (20, false), (21, false), (22, false), (23, false), (24, false), (25, false), (26, false), (27, true), (28, true), (29, false)] (by kernel_rfl) (by kernel_rfl) HS0.out ?_
      rw [hwd] at HS0 ⊢
      simp only [planL, List.getElem?_cons_zero, List.getElem?_cons_succ]
      repeat (first | (refine plan_on _ (by rfl) (fun W hW => by (obtain ⟨x0, x1, x2, x3, x4⟩ := HSC.out W hW; go_simp; try with_reducible rfl)) ?_; simp only [Act.put, List.setIfInBounds_toArray, List.set_cons_zero, List.set_cons_succ]) | (refine plan_off (by rfl) ?_; simp only [Act.put, List.setIfInBounds_toArray, List.set_cons_zero, List.set_cons_succ]))
      refine plan_turn ?_
      go_wp2_with fail
      have HR1 := Lib.hid (ro1_row wd (roOf x) 55)
      have HO1 := Lib.hid (row_one (roOf x))
      obtain ⟨wa, hwa⟩ : ∃ wa, wd.alloc (.cells #[.string x.name, .string x.maker, .string x.tags, .int .i64 x.price, .int .i64 x.stock] 55) = wa := ⟨_, rfl⟩
      have hwz2 : w.heap.size ≤ wd.heap.size := HS0.out.size
      have hza : wd.heap.size + 1 = wa.heap.size := by rw [← hwa]; simp
      have HRA : Hid (wa.ownsRow w.heap.size 55 5 (.slice A5 k c5) k (((l.take k).map roOf).flatMap roC)) := Lib.hid (by rw [← hwa]; exact HRD.out.alloc _)
      have HBA : Hid (Below w.heap.size w wa) := Lib.hid (by rw [← hwa]; exact HS0.out.alloc hwz2 _)
      have HR2 : Hid (RowIn wa (wd.heap.size + 1) 5 (some ⟨wd.heap.size, 0, none⟩) 1 (roC (roOf x))) := Lib.hid (by rw [← hwa]; exact HR1.out)
      rw [hwa]
      refine ⟨HBA.out, ?_⟩
      refine plan_turn ?_
      go_wp2_with (first
        | (at_builtin; refine wpList_append_row _ rfl _ _ 27 rfl w.heap.size 55 i0 _ 5 64 Tryz.underlying27 hi0 hz0 hz1 hz2 rfl (by omega) (.slice A5 k c5) k _ rfl HRA.out (wd.heap.size + 1) (some ⟨wd.heap.size, 0, none⟩) 1 1 _ rfl HR2.out (fun h => by cases h) HO1.out (by unfold maxLen; omega) (by omega) (by omega) ?_; intro v8 w8 ho8 hg8 hv8))
      obtain ⟨A8, c8, hv⟩ := own_shape ho8
      subst hv
      have HB8 : Hid (Below w.heap.size w w8) := Lib.hid (HBA.out.grown hg8 (by omega) (fun j hj => (HRA.out.lt _ hj).1))
      refine ⟨HB8.out, ?_⟩
      repeat (first | (refine plan_on _ (by rfl) (fun W hW => by (go_simp; try with_reducible rfl)) ?_; simp only [Act.put, List.setIfInBounds_toArray, List.set_cons_zero, List.set_cons_succ]) | (refine plan_off (by rfl) ?_; simp only [Act.put, List.setIfInBounds_toArray, List.set_cons_zero, List.set_cons_succ]))
      refine plan_done ?_
      go_wp2_with fail
      go_roundw
      case rel =>
        refine ⟨k + 1, A8, c8, by omega, by go_num, rfl, Lib.hid ?_, HB8⟩
        rw [HTK.out, List.flatMap_append, List.flatMap_cons, List.flatMap_nil, List.append_nil]
        exact ho8
      case measure => simp [intOf]; omega
    · obtain rfl : n = k := by omega
      have htl : l.take n = l := by rw [← HN.out, List.take_length]
      go_wp2_with fail
      go_ret
      rw [htl] at hrow
      exact ⟨A5, c5, rfl, RowIn.of_own hrow.out, fun h => by rw [h] at hrow; exact own_none_cap hrow.out, hbw.out⟩

set_option maxHeartbeats 4000000 in
set_option maxRecDepth 100000 in
theorem rsame_any (w : World) (B1 B2 : Nat) (A1 A2 : Option Addr) (l : List Ro) (n c1 c2 : Nat) (hn : l.length = n) (h1 : RowIn w B1 5 A1 n (l.flatMap roC)) (h2 : RowIn w B2 5 A2 n (l.flatMap roC)) (hb : n ≤ 100000) :
    Calls Tryz.prog 8 #[.slice A1 n c1, .slice A2 n c2] w fun e w' => e = .returned (.bool true) ∧ Below w.heap.size w w' := by
  have HN := Lib.hid hn
  have H1 := Lib.hid h1
  have H2 := Lib.hid h2
  clear hn h1 h2
  have hnn : ((n : Int) != (n : Int)) = false := by simp
  go_enter Tryz.func8, Tryz.ntmps8
  go_wp2_with fail
  go_loopw [5] (fun i wr => ∃ k q : Nat, k ≤ n ∧ i = .int .i64 k ∧ wr = w.drewN q) (fun i _ => n - (intOf i).toNat)
  case atStart => exact ⟨0, 0, Nat.zero_le _, rfl, rfl⟩
  case round =>
    obtain ⟨k, q, hk, rfl, rfl⟩ := hrel
    by_cases hlt : k < n
    · obtain ⟨x, hx⟩ : ∃ x, l[k]? = some x := ⟨l[k]'(by rw [HN.out]; exact hlt), List.getElem?_eq_getElem _⟩
      obtain ⟨g, o, rfl, _, hc⟩ := ro_at H1.out (by omega)
      obtain ⟨g', o', rfl, _, hc'⟩ := ro_at H2.out (by omega)
      obtain ⟨e0, e1, e2, e3, e4⟩ := hc k x hx
      obtain ⟨f0, f1, f2, f3, f4⟩ := hc' k x hx
      have hk8 : (k : Int) < (n : Int) := by omega
      have hk9 : (0 : Int) ≤ (k : Int) := by omega
      have hes := eq_ro_self x.name x.maker x.tags x.price x.stock
      clear hx hc hc'
      go_wp2_with fail
      go_quiet (fail)
      go_wp2_with fail
      go_roundw
      case rel => exact ⟨k + 1, q + nq, by omega, by go_num, by first | rfl | simp⟩
      case measure => simp [intOf]; omega
    · obtain rfl : n = k := by omega
      go_wp2_with fail
      go_ret
      exact ⟨rfl, below_drewN (Below.refl _ _) _⟩

end Go.Proofs.YtikbckpphkpaiaaGreatDoor
