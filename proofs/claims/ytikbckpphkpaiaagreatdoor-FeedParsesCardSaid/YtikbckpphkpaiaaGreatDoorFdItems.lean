/- items: the rows as the program has them; Same of events. -/
import Derived.Test.YtikbckpphkpaiaaGreatDoorFdL
import Derived.Test.YtikbckpphkpaiaaGreatDoorPlan
namespace Go.Proofs.YtikbckpphkpaiaaGreatDoor
open Go.Shelf Go.RowKit Go.Maps
set_option linter.unusedVariables false

def itOf (i : Nat) (r : Ro) : It := ⟨r.name, r.maker, r.tags, r.stock, r.price, i, decide (i % 2 = 0)⟩
def itsOf (l : List Ro) : List It := l.mapIdx itOf
theorem its_len (l : List Ro) : (itsOf l).length = l.length := by unfold itsOf; simp
theorem its_rows (l : List Ro) : (itsOf l).map roOf = l := by
  unfold itsOf
  apply List.ext_getElem?
  intro i
  rw [List.getElem?_map, List.getElem?_mapIdx]
  cases l[i]? <;> rfl
theorem its_snoc {l : List Ro} {k : Nat} {r : Ro} (h : l[k]? = some r) : itsOf (l.take (k + 1)) = itsOf (l.take k) ++ [itOf k r] := by
  unfold itsOf
  rw [take_snoc h, List.mapIdx_append]
  have : (l.take k).length = k := by
    have := (List.getElem?_eq_some_iff.1 h).1
    rw [List.length_take]; omega
  rw [this]
  simp
theorem it_info : (Tryz.prog.info? 31).map (fun i => (i.zero, i.size, i.bytes)) = some (some (itA it0), 7, 80) := by kernel_rfl
theorem it_one (x : It) : ∀ u ∈ itC x, u.oneCell' = true := by
  intro u hu
  simp only [itC, List.mem_cons, List.not_mem_nil, or_false] at hu
  rcases hu with rfl | rfl | rfl | rfl | rfl | rfl | rfl <;> rfl
theorem it1_row (w : World) (x : It) (t : TypeId) : RowIn (w.alloc (.cells #[.string x.name, .string x.maker, .string x.tags, .int .i64 x.stock, .int .i64 x.price, .int .i64 x.born, .bool x.listed] t)) (w.heap.size + 1) 7 (some ⟨w.heap.size, 0, none⟩) 1 (itC x) := by
  refine ⟨rfl, Or.inr ⟨w.heap.size, 0, rfl, by omega, fun j u hu => ?_⟩⟩
  rw [(Blk.new w t _).cell]
  rw [← hu, Nat.zero_add]
  simp [itC]

theorem own_none_cap {w : World} {base e size n c : Nat} {xs : List Value} (h : w.ownsRow base e size (.slice none n c) n xs) : c = 0 := by
  rcases h.2 with ⟨h1, _⟩ | ⟨g, cap, cur, h1, _⟩
  · injection h1
  · injection h1 with h1
    cases h1

set_option maxHeartbeats 4000000 in
set_option maxRecDepth 100000 in
theorem items_any (w : World) (B : Nat) (A : Option Addr) (l : List Ro) (n c : Nat) (hn : l.length = n) (hl : RowIn w B 5 A n (l.flatMap roC)) (hB : B ≤ w.heap.size) (hb : n ≤ 1000) :
    Calls Tryz.prog 12 #[.slice A n c] w fun e w' => ∃ A' c', e = .returned (.slice A' n c') ∧ RowIn w' w'.heap.size 7 A' n ((itsOf l).flatMap itC) ∧ (A' = none → c' = 0) ∧ Below w.heap.size w w' := by
  have HN := Lib.hid hn
  have HL := Lib.hid hl
  clear hn hl
  obtain ⟨i0, hi0, hz0, hz1, hz2⟩ := info_parts it_info
  go_enter Tryz.func12, Tryz.ntmps12
  go_wp2_with fail
  go_loopw [3, 4] (fun s i wr => ∃ (k : Nat) (A5 : Option Addr) (c5 : Nat), k ≤ n ∧ i = .int .i64 k ∧ s = .slice A5 k c5 ∧ Hid (wr.ownsRow w.heap.size 31 7 (.slice A5 k c5) k ((itsOf (l.take k)).flatMap itC)) ∧ Hid (Below w.heap.size w wr)) (fun _ i _ => n - (intOf i).toNat)
  case atStart => exact ⟨0, none, 0, Nat.zero_le _, rfl, rfl, Lib.hid (own_nil _ _ _ _), Lib.hid (Below.refl _ _)⟩
  case round =>
    obtain ⟨k, A5, c5, hk, rfl, rfl, hrow, hbw⟩ := hrel
    have hwz := hbw.out.size
    by_cases hlt : k < n
    · obtain ⟨x, hx⟩ : ∃ x, l[k]? = some x := ⟨l[k]'(by rw [HN.out]; exact hlt), List.getElem?_eq_getElem _⟩
      obtain ⟨g, o, rfl, hgB, hcl⟩ := ro_at HL.out (by omega)
      have hgw : g < w.heap.size := Nat.lt_of_lt_of_le hgB hB
      have HSC : Hid (∀ W, Below w.heap.size w W → W.cell? ⟨g, o + k * 5, none⟩ = some (.string x.name) ∧ W.cell? ⟨g, o + k * 5 + 1, none⟩ = some (.string x.maker) ∧ W.cell? ⟨g, o + k * 5 + 2, none⟩ = some (.string x.tags) ∧ W.cell? ⟨g, o + k * 5 + 3, none⟩ = some (.int .i64 x.price) ∧ W.cell? ⟨g, o + k * 5 + 4, none⟩ = some (.int .i64 x.stock)) := Lib.hid (fun W hW => by
        obtain ⟨f0, f1, f2, f3, f4⟩ := hcl k x hx
        exact ⟨(hW.cell (p := ⟨g, _, none⟩) hgw).trans f0, (hW.cell (p := ⟨g, _, none⟩) hgw).trans f1, (hW.cell (p := ⟨g, _, none⟩) hgw).trans f2, (hW.cell (p := ⟨g, _, none⟩) hgw).trans f3, (hW.cell (p := ⟨g, _, none⟩) hgw).trans f4⟩)
      have HTK := Lib.hid (its_snoc hx)
      have hk8 : (k : Int) < (n : Int) := by omega
      have hk9 : (0 : Int) ≤ (k : Int) := by omega
      have hmod : (Int.tmod (k : Int) 2 == 0) = decide (k % 2 = 0) := by
        rw [show Int.tmod (k : Int) 2 = ((k % 2 : Nat) : Int) from by rw [Int.natCast_emod]; exact Int.tmod_eq_emod_of_nonneg (by omega)]
        rcases Nat.mod_two_eq_zero_or_one k with h | h <;> rw [h] <;> rfl
      clear hcl hx
      go_wp2_with fail
      have HS0 : Hid (Below w.heap.size w wr.drew) := Lib.hid (below_drew hbw.out)
      obtain ⟨wd, hwd⟩ : ∃ wd, wr.drew = wd := ⟨_, rfl⟩
      have HRD : Hid (wd.ownsRow w.heap.size 31 7 (.slice A5 k c5) k ((itsOf (l.take k)).flatMap itC)) := Lib.hid (by rw [← hwd]; exact hrow.out)
      refine wp_plan (fun W => Below w.heap.size w W) [(0, false), (1, false), (2, false), (3, false), (4, false), (5, false), (6, false), (7, false), (8, false), (9, false), (10, false), (11, false), (12, false), (13, false), (14, false), (15, false), (16, false), (17, false), (18, false), (19, false), (20, false), (21, false), (22, false), (23, false), (24, false), (25, false), (26, false), (27, false), (28, false), (29, false), (30, false), (31, true), (32, true), (33, false)] (by kernel_rfl) (by kernel_rfl) HS0.out ?_
      rw [hwd] at HS0 ⊢
      simp only [planL, List.getElem?_cons_zero, List.getElem?_cons_succ]
      repeat (first | (refine plan_on _ (by rfl) (fun W hW => by (obtain ⟨x0, x1, x2, x3, x4⟩ := HSC.out W hW; go_simp; try with_reducible rfl)) ?_; simp only [Act.put, List.setIfInBounds_toArray, List.set_cons_zero, List.set_cons_succ]) | (refine plan_off (by rfl) ?_; simp only [Act.put, List.setIfInBounds_toArray, List.set_cons_zero, List.set_cons_succ]))
      refine plan_turn ?_
      go_wp2_with fail
      have HIT : Hid (itC (itOf k x) = [.string x.name, .string x.maker, .string x.tags, .int .i64 x.stock, .int .i64 x.price, .int .i64 k, .bool (decide (k % 2 = 0))]) := Lib.hid rfl
      have HR1 := Lib.hid (it1_row wd (itOf k x) 31)
      have HO1 := Lib.hid (it_one (itOf k x))
      unfold itOf at HR1
      obtain ⟨wa, hwa⟩ : ∃ wa, wd.alloc (.cells #[.string x.name, .string x.maker, .string x.tags, .int .i64 x.stock, .int .i64 x.price, .int .i64 k, .bool (decide (k % 2 = 0))] 31) = wa := ⟨_, rfl⟩
      have hwz2 : w.heap.size ≤ wd.heap.size := HS0.out.size
      have hza : wd.heap.size + 1 = wa.heap.size := by rw [← hwa]; simp
      have HRA : Hid (wa.ownsRow w.heap.size 31 7 (.slice A5 k c5) k ((itsOf (l.take k)).flatMap itC)) := Lib.hid (by rw [← hwa]; exact HRD.out.alloc _)
      have HBA : Hid (Below w.heap.size w wa) := Lib.hid (by rw [← hwa]; exact HS0.out.alloc hwz2 _)
      have HR2 : Hid (RowIn wa (wd.heap.size + 1) 7 (some ⟨wd.heap.size, 0, none⟩) 1 (itC (itOf k x))) := Lib.hid (by rw [← hwa]; exact HR1.out)
      rw [hwa]
      refine ⟨HBA.out, ?_⟩
      refine plan_turn ?_
      go_wp2_with (first
        | (at_builtin; refine wpList_append_row _ rfl _ _ 23 rfl w.heap.size 31 i0 _ 7 80 Tryz.underlying23 hi0 hz0 hz1 hz2 rfl (by omega) (.slice A5 k c5) k _ rfl HRA.out (wd.heap.size + 1) (some ⟨wd.heap.size, 0, none⟩) 1 1 _ rfl HR2.out (fun h => by cases h) HO1.out (by unfold maxLen; omega) (by omega) (by omega) ?_; intro v8 w8 ho8 hg8 hv8))
      obtain ⟨A8, c8, hv⟩ := own_shape ho8
      subst hv
      have HB8 : Hid (Below w.heap.size w w8) := Lib.hid (HBA.out.grown hg8 (by omega) (fun j hj => (HRA.out.lt _ hj).1))
      refine ⟨HB8.out, ?_⟩
      repeat (first | (refine plan_on _ (by rfl) (fun W hW => by (go_simp; try with_reducible rfl)) ?_; simp only [Act.put, List.setIfInBounds_toArray, List.set_cons_zero, List.set_cons_succ]) | (refine plan_off (by rfl) ?_; simp only [Act.put, List.setIfInBounds_toArray, List.set_cons_zero, List.set_cons_succ]))
      refine plan_done ?_
      go_wp2_with fail
      go_roundw
      case rel =>
        refine ⟨k + 1, A8, c8, by omega, by go_num, rfl, Lib.hid ?_, HB8⟩
        rw [HTK.out, List.flatMap_append, List.flatMap_cons, List.flatMap_nil, List.append_nil]
        exact ho8
      case measure => simp [intOf]; omega
    · obtain rfl : n = k := by omega
      have htl : l.take n = l := by rw [← HN.out, List.take_length]
      go_wp2_with fail
      go_ret
      rw [htl] at hrow
      exact ⟨A5, c5, rfl, RowIn.of_own hrow.out, fun h => by rw [h] at hrow; exact own_none_cap hrow.out, hbw.out⟩

/-- The same event. -/
theorem eq_ev_self (a : ByteArray) (b c d : Int) (e f : ByteArray) (g : Int) (h : ByteArray) (w : World) :
    (Op.equalIn 10000 45 (.agg #[.string a, .int .i64 b, .int .i64 c, .int .i64 d, .string e, .string f, .int .i64 g, .string h]) (.agg #[.string a, .int .i64 b, .int .i64 c, .int .i64 d, .string e, .string f, .int .i64 g, .string h])).run Tryz.prog w = .ok true w := by
  simp [go_sem]


end Go.Proofs.YtikbckpphkpaiaaGreatDoor
