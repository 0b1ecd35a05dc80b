/- slices.SortStableFunc of events: ranges exchanged, turned. -/
import Derived.Test.YtdcinodbgbkobaaGreatDoorStb
import Derived.Test.YtdcinodbgbkobaaGreatDoorWdO
import Derived.Test.YtdcinodbgbkobaaGreatDoorGa
import Derived.Test.YtdcinodbgbkobaaGreatDoorCatApply
import Derived.Shelf.SlSortCmp.KitK
namespace Go.Proofs.YtdcinodbgbkobaaGreatDoor
open Go.Shelf Go.RowKit Go.Lib Go.Sort
set_option linter.unusedVariables false

abbrev EVT : TypeId := 41
theorem evC_1 : ∀ x : Ev, ∀ v ∈ evC x, v.oneCell' = true := fun x v hv => evC_one [x] v (by simpa using hv)
/-- The row of n events that is sorted. -/
structure SbRow (w0 : World) (blk off n : Nat) (d0 : Array Ev) : Prop where
  hH : HoldsK evC 8 w0 blk off d0
  hblk : blk < w0.heap.size
  size : d0.size = n
  few : n ≤ 1000000
/-- In W it holds d. -/
structure SbIn (w0 : World) (blk off n : Nat) (d : Array Ev) (W : World) : Prop where
  sw : SWK evC 8 w0 blk off d W
  size : d.size = n
section
variable {w0 W W' : World} {blk off n i j : Nat} {d0 d : Array Ev}
theorem SbRow.row (R : SbRow w0 blk off n d0) : RowK evC 8 w0 blk off d0 := ⟨evC_len, evC_1, R.hH, R.hblk⟩
theorem SbIn.holds (h : SbIn w0 blk off n d W) (R : SbRow w0 blk off n d0) : HoldsK evC 8 W blk off d := h.sw.holds R.hblk R.hH (by rw [h.size, R.size])
theorem SbIn.drew (h : SbIn w0 blk off n d W) : SbIn w0 blk off n d W.drew := ⟨h.sw.drew, h.size⟩
theorem SbIn.grown (h : SbIn w0 blk off n d W) (q : Nat) (os : Array Obj) : SbIn w0 blk off n d (grow (W.drewN q) os) := ⟨h.sw.grown q os, h.size⟩
theorem SbIn.ev (h : SbIn w0 blk off n d W) (R : SbRow w0 blk off n d0) (hi : i < n) : EvAt W blk (off + i * 8) d[i]! := by
  have c := fun (q : Nat) (hq : q < 8) => ((h.holds R).cell (i := i) (c := q) (by rw [h.size]; exact hi) hq).1
  generalize d[i]! = x at c
  exact ⟨c 0 (by omega), c 1 (by omega), c 2 (by omega), c 3 (by omega), c 4 (by omega), c 5 (by omega), c 6 (by omega), c 7 (by omega)⟩
theorem SbIn.there (h : SbIn w0 blk off n d W) (R : SbRow w0 blk off n d0) (hi : i < n) : W.there blk (off + i * 8) 8 := fun q hq => by
  have c := (h.holds R).cell (i := i) (c := q) (by rw [h.size]; exact hi) hq
  exact ⟨by rw [c.1]; rfl, c.2⟩
theorem SbIn.swap (h : SbIn w0 blk off n d W) (R : SbRow w0 blk off n d0) (hi : i < n) (hj : j < n) : SbIn w0 blk off n (swp d i j) ((W.setCells blk (off + i * 8) (evC d[j]!)).setCells blk (off + j * 8) (evC d[i]!)) :=
  ⟨h.sw.swap evC_len R.hblk i j (by rw [h.size]; exact hi) (by rw [h.size]; exact hj), by rw [swp_size, h.size]⟩
end
/-- A struct that is stored where cells are. -/
theorem wpList_store_th {P : Program} {ops : Array Oper} {rest : List Oper} {o : Oper} {a : Act} {Q : Exit → Act → World → Prop} (w : World) (hgd : o.guard = none) (ty : TypeId) (x y : Operand) (ho : o.op = .store ty x y) (g off : Nat) (cells : Array Value) (hx : a.eval x = .pointer (some ⟨g, off, none⟩)) (hy : a.eval y = .agg cells)
    (ht : w.there g off cells.size) (hi : (P.info? ty).map (·.size) = some cells.size) (h1 : cells.all (·.oneCell') = true)
    (h : wpList P ops Q rest (a.put o.dst undef) (w.setCells g off cells.toList)) : wpList P ops Q (o :: rest) a w :=
  wpList_plain hgd fun _ hK => wp_store_mid ty x y ho g off cells hx hy ht hi h1 (hK _ _ h)

set_option maxHeartbeats 2000000 in
set_option maxRecDepth 100000 in
theorem swapRange_any (w0 : World) (blk off n : Nat) (d0 : Array Ev) (R : SbRow w0 blk off n d0) (cap : Nat) (cmp : Value) (a b m : Nat) (d : Array Ev) (W : World) (h : SbIn w0 blk off n d W) (hab : a + m ≤ b) (hb : b + m ≤ n) :
    Calls Tryz.prog 108 #[.slice (some ⟨blk, off, none⟩) n cap, .int .i64 a, .int .i64 b, .int .i64 m, cmp] W fun e w' => e = .returned (.tuple #[]) ∧ ∃ d', SwpIn a b m d d' ∧ SbIn w0 blk off n d' w' := by
  have HR := Lib.hid R
  have HH := Lib.hid h
  have hn := R.few
  clear R h
  go_enter Tryz.func108, Tryz.ntmps108
  go_wp2_with fail
  go_loopw [10] (fun i wr => ∃ (k : Nat) (dk : Array Ev), k ≤ m ∧ i = .int .i64 k ∧ Hid (SwpIn a b k d dk) ∧ Hid (SbIn w0 blk off n dk wr)) (fun i _ => m - (intOf i).toNat)
  case atStart => exact ⟨0, d, Nat.zero_le _, rfl, Lib.hid (SwpIn.start a b d), HH⟩
  case round =>
    obtain ⟨k, dk, hk, rfl, hs, hw⟩ := hrel
    by_cases hlt : k < m
    · have hlt8 : (k : Int) < (m : Int) := by omega
      have HDZ : Hid (d.size = n) := Lib.hid HH.out.size
      have HNX : Hid (SwpIn a b (k + 1) d (swp dk (a + k) (b + k))) := Lib.hid (hs.out.next hab hlt (by rw [HDZ.out]; exact hb))
      have HSW : Hid (∀ V, SbIn w0 blk off n dk V → SbIn w0 blk off n (swp dk (a + k) (b + k)) ((V.setCells blk (off + (a + k) * 8) (evC dk[b + k]!)).setCells blk (off + (b + k) * 8) (evC dk[a + k]!))) := Lib.hid (fun V hV => hV.swap HR.out (by omega) (by omega))
      have HEV : Hid (∀ V, SbIn w0 blk off n dk V → EvAt V blk (off + (a + k) * 8) dk[a + k]! ∧ EvAt V blk (off + (b + k) * 8) dk[b + k]!) := Lib.hid (fun V hV => ⟨hV.ev HR.out (by omega), hV.ev HR.out (by omega)⟩)
      have HTH : Hid (∀ V, SbIn w0 blk off n dk V → V.there blk (off + (a + k) * 8) 8 ∧ V.there blk (off + (b + k) * 8) 8) := Lib.hid (fun V hV => ⟨hV.there HR.out (by omega), hV.there HR.out (by omega)⟩)
      obtain ⟨⟨s1, n1, t1, k1, p1, i1, v1, x1⟩, hx⟩ : ∃ x, dk[a + k]! = x := ⟨_, rfl⟩
      obtain ⟨⟨s2, n2, t2, k2, p2, i2, v2, x2⟩, hy⟩ : ∃ x, dk[b + k]! = x := ⟨_, rfl⟩
      rw [hx, hy] at HSW HEV
      have ea : (a : Int) + (k : Int) = ((a + k : Nat) : Int) := by omega
      have eb : (b : Int) + (k : Int) = ((b + k : Nat) : Int) := by omega
      have ca : ((a + k : Nat) : Int) < (n : Int) := by omega
      have cb : ((b + k : Nat) : Int) < (n : Int) := by omega
      have da : (0 : Int) ≤ ((a + k : Nat) : Int) := by omega
      have db : (0 : Int) ≤ ((b + k : Nat) : Int) := by omega
      have HS0 : Hid (SbIn w0 blk off n dk wr.drew) := Lib.hid hw.out.drew
      have HT0 := Lib.hid (HTH.out _ HS0.out)
      obtain ⟨qa, hqa⟩ : ∃ q, a + k = q := ⟨_, rfl⟩
      obtain ⟨qb, hqb⟩ : ∃ q, b + k = q := ⟨_, rfl⟩
      rw [hqa] at ea ca da HT0
      rw [hqb] at eb cb db HT0
      rw [hqa, hqb] at HSW HEV HNX
      have wa : IntKind.i64.wrap (qa : Int) = (qa : Int) := by rw [IntKind.wrap_i64]; omega
      have wb : IntKind.i64.wrap (qb : Int) = (qb : Int) := by rw [IntKind.wrap_i64]; omega
      clear hx hy HTH hs hqa hqb
      go_upto_region 3 with fail
      refine wp_planM (fun V => SbIn w0 blk off n dk V) [(4, 0), (5, 0), (6, 0), (7, 0), (0, 1), (1, 1), (2, 1), (3, 1), (8, 1), (9, 1), (10, 1), (11, 1), (12, 1), (13, 1), (14, 1), (15, 1), (16, 1), (17, 1), (18, 1), (19, 1), (20, 1), (21, 3), (22, 0), (23, 3)] (by kernel_rfl) (by kernel_rfl) HS0.out ?_
      simp only [planML, List.getElem?_cons_zero, List.getElem?_cons_succ]
      repeat (first | (refine planM_on0 _ (by rfl) (fun W _ => by (go_simp; try (first | with_reducible rfl | rw [if_neg (by omega)]))) ?_; simp only [Act.put, List.setIfInBounds_toArray, List.set_cons_zero, List.set_cons_succ]) | (refine planM_off (by rfl) ?_; simp only [Act.put, List.setIfInBounds_toArray, List.set_cons_zero, List.set_cons_succ]))
      repeat (first | (refine planM_on _ (by rfl) (fun W hW => by (obtain ⟨⟨c0, c1, c2, c3, c4, c5, c6, c7⟩, f0, f1, f2, f3, f4, f5, f6, f7⟩ := HEV.out W hW; go_simp; try (first | with_reducible rfl | rw [if_neg (by omega)]))) ?_; simp only [Act.put, List.setIfInBounds_toArray, List.set_cons_zero, List.set_cons_succ]) | (refine planM_off (by rfl) ?_; simp only [Act.put, List.setIfInBounds_toArray, List.set_cons_zero, List.set_cons_succ]))
      refine planM_last ?_
      refine wpList_store_th _ rfl EVT _ _ rfl blk (off + qa * 8) #[.string s2, .int .i64 n2, .int .i64 t2, .int .i64 k2, .string p2, .string i2, .int .i64 v2, .string x2] rfl rfl HT0.out.1 (by kernel_rfl) (by simp [Value.oneCell']) ?_
      refine wpList_nil ?_
      simp only [Exit.then]
      repeat (first | (refine planM_on0 _ (by rfl) (fun W _ => by (go_simp; try (first | with_reducible rfl | rw [if_neg (by omega)]))) ?_; simp only [Act.put, List.setIfInBounds_toArray, List.set_cons_zero, List.set_cons_succ]) | (refine planM_off (by rfl) ?_; simp only [Act.put, List.setIfInBounds_toArray, List.set_cons_zero, List.set_cons_succ]))
      refine planM_last ?_
      refine wpList_store_th _ rfl EVT _ _ rfl blk (off + qb * 8) #[.string s1, .int .i64 n1, .int .i64 t1, .int .i64 k1, .string p1, .string i1, .int .i64 v1, .string x1] rfl rfl (World.there_setCells HT0.out.2 _ _ _) (by kernel_rfl) (by simp [Value.oneCell']) ?_
      refine wpList_nil ?_
      simp only [Exit.then]
      refine planM_done ?_
      have HEND := Lib.hid (HSW.out _ HS0.out)
      unfold evC at HEND
      clear HSW HT0 HEV
      go_wp2_with fail
      go_roundw
      case rel => exact ⟨k + 1, _, by omega, by go_num, HNX, HEND⟩
      case measure => simp [intOf]; omega
    · have hlt8 : ¬ (k : Int) < (m : Int) := by omega
      obtain rfl : m = k := by omega
      go_wp2_with fail
      go_end0
      exact ⟨rfl, dk, hs.out, hw.out⟩

set_option maxHeartbeats 2000000 in
set_option maxRecDepth 100000 in
theorem rotate_any (w0 : World) (blk off n : Nat) (d0 : Array Ev) (R : SbRow w0 blk off n d0) (cap : Nat) (cmp : Value) (a m b : Nat) (d : Array Ev) (W : World) (h : SbIn w0 blk off n d W) (ham : a < m) (hmb : m < b) (hb : b ≤ n) :
    Calls Tryz.prog 86 #[.slice (some ⟨blk, off, none⟩) n cap, .int .i64 a, .int .i64 m, .int .i64 b, cmp] W fun e w' => e = .returned (.tuple #[]) ∧ ∃ d', RotIn a m b d d' ∧ SbIn w0 blk off n d' w' := by
  have HR := Lib.hid R
  have HH := Lib.hid h
  have hn := R.few
  have e1 : (m : Int) - (a : Int) = ((m - a : Nat) : Int) := by omega
  have e2 : (b : Int) - (m : Int) = ((b - m : Nat) : Int) := by omega
  clear R h
  go_enter Tryz.func86, Tryz.ntmps86
  go_wp2_with fail
  go_loopw [10, 11] (fun vi vj wr => ∃ (i j : Nat) (dk : Array Ev), 0 < i ∧ 0 < j ∧ i ≤ m - a ∧ j ≤ b - m ∧ vi = .int .i64 i ∧ vj = .int .i64 j ∧ Hid (∀ d', RotIn (m - i) m (m + j) dk d' → RotIn a m b d d') ∧ Hid (SbIn w0 blk off n dk wr)) (fun vi vj _ => (intOf vi).toNat + (intOf vj).toNat)
  case atStart => exact ⟨m - a, b - m, d, by omega, by omega, Nat.le_refl _, Nat.le_refl _, rfl, rfl, Lib.hid (fun d' h => by rwa [show m - (m - a) = a by omega, show m + (b - m) = b by omega] at h), HH⟩
  case round =>
    clear e1 e2
    obtain ⟨i, j, dk, hi0, hj0, him, hjb, rfl, rfl, hgo, hw⟩ := hrel
    have ei : (m : Int) - (i : Int) = ((m - i : Nat) : Int) := by omega
    by_cases hij : i = j
    · have hq : ((i : Int) != (j : Int)) = false := by simp [hij]
      have HC := Lib.hid (swapRange_any w0 blk off n d0 HR.out cap cmp (m - i) m i dk wr hw.out (by omega) (by omega))
      have HGE : Hid (∀ d', RotIn (m - i) m (m + i) dk d' → RotIn a m b d d') := Lib.hid (by rw [← hij] at hgo; exact hgo.out)
      clear hij hgo
      go_wp2_with fail
      refine HC.out.mono ?_
      rintro e w1 ⟨rfl, d', hsp, hw1⟩
      have HX := Lib.hid (HGE.out d' (RotIn.same hsp (by omega)))
      have HW1 := Lib.hid hw1
      clear HC HGE hsp hw1
      go_wp2_with fail
      go_end0
      exact ⟨rfl, d', HX.out, HW1.out⟩
    · have hq : ((i : Int) != (j : Int)) = true := by simp; omega
      by_cases hgt : j < i
      · have hgt8 : (j : Int) < (i : Int) := by omega
        have eij : (i : Int) - (j : Int) = ((i - j : Nat) : Int) := by omega
        have HC := Lib.hid (swapRange_any w0 blk off n d0 HR.out cap cmp (m - i) m j dk wr hw.out (by omega) (by omega))
        clear hij
        go_wp2_with fail
        refine HC.out.mono ?_
        rintro e w1 ⟨rfl, d', hsp, hw1⟩
        have HX : Hid (∀ d'', RotIn (m - (i - j)) m (m + j) d' d'' → RotIn a m b d d'') := Lib.hid (fun d'' h => hgo.out d'' (RotIn.more hgt (by omega) hsp h))
        have HW1 := Lib.hid hw1
        clear HC hsp hw1
        go_wp2_with fail
        go_roundw
        case rel => exact ⟨i - j, j, d', by omega, hj0, by omega, hjb, rfl, rfl, HX, HW1⟩
        case measure => simp [intOf]; omega
      · have hgt8 : ¬ (j : Int) < (i : Int) := by omega
        have hlt : i < j := by omega
        have eji : (j : Int) - (i : Int) = ((j - i : Nat) : Int) := by omega
        have emj : (m : Int) + (j : Int) - (i : Int) = ((m + j - i : Nat) : Int) := by omega
        have HC := Lib.hid (swapRange_any w0 blk off n d0 HR.out cap cmp (m - i) (m + j - i) i dk wr hw.out (by omega) (by omega))
        clear hij
        go_wp2_with fail
        refine HC.out.mono ?_
        rintro e w1 ⟨rfl, d', hsp, hw1⟩
        have HX : Hid (∀ d'', RotIn (m - i) m (m + (j - i)) d' d'' → RotIn a m b d d'') := Lib.hid (fun d'' h => hgo.out d'' (RotIn.less hlt (by omega) hsp h))
        have HW1 := Lib.hid hw1
        clear HC hsp hw1
        go_wp2_with fail
        go_roundw
        case rel => exact ⟨i, j - i, d', hi0, by omega, him, by omega, rfl, rfl, HX, HW1⟩
        case measure => simp [intOf]; omega
end Go.Proofs.YtdcinodbgbkobaaGreatDoor
