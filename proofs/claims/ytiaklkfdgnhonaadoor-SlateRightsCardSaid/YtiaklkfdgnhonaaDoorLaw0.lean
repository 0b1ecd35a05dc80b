/- slices.Equal, Right; long and awake of the laws. -/
import Derived.Test.YtiaklkfdgnhonaaDoorRefMake
namespace Go.Proofs.YtiaklkfdgnhonaaDoor
open Go.Shelf Go.RowKit Go.Lib Go.Sort Go.Maps
set_option linter.unusedVariables false

set_option maxHeartbeats 1000000 in
theorem equal_any (w : World) (B : Nat) (A A' : Option Addr) (l m : List Ch) (n k c c' : Nat) (hn : l.length = n) (hk : m.length = k) (hl : ChsAt w B A l) (hm : ChsAt w B A' m) (hnb : n ≤ 1000000) (hkb : k ≤ 1000000) :
    Calls Tryd.prog 31 #[.slice A n c, .slice A' k c'] w fun e w' => ∃ r, e = .returned (.bool r) ∧ (r = true ↔ l = m) ∧ ∃ q, w' = w.drewN q := by
  by_cases hnk : n = k
  · subst hnk
    have b0 : ((n : Int) != (n : Int)) = false := by simp
    have HL := Lib.hid hn
    have HM := Lib.hid hk
    clear hn hk
    go_enter Tryd.func31, Tryd.ntmps31
    go_wp2_with fail
    go_loopw [13] (fun i wr => ∃ j q : Nat, j ≤ n ∧ i = .int .i64 j ∧ Hid (l.take j = m.take j) ∧ wr = w.drewN q) (fun i _ => n - (intOf i).toNat)
    case atStart => exact ⟨0, 0, Nat.zero_le _, rfl, Lib.hid (by simp), rfl⟩
    case round =>
      obtain ⟨j, q, hj, rfl, hjt, rfl⟩ := hrel
      by_cases hlt : j < n
      · obtain ⟨x, hx⟩ : ∃ x, l[j]? = some x := ⟨l[j]'(by rw [HL.out]; exact hlt), List.getElem?_eq_getElem _⟩
        obtain ⟨y, hy⟩ : ∃ y, m[j]? = some y := ⟨m[j]'(by rw [HM.out]; exact hlt), List.getElem?_eq_getElem _⟩
        obtain ⟨g, o, rfl, _, hc⟩ := hl.at (by rw [HL.out]; omega)
        obtain ⟨g', o', rfl, _, hc'⟩ := hm.at (by rw [HM.out]; omega)
        obtain ⟨e0, e1, e2, e3⟩ := hc j x hx
        obtain ⟨f0, f1, f2, f3⟩ := hc' j y hy
        have t1 : l.take (j + 1) = l.take j ++ [x] := by rw [List.take_add_one, hx]; rfl
        have t2 : m.take (j + 1) = m.take j ++ [y] := by rw [List.take_add_one, hy]; rfl
        have T1 := Lib.hid t1
        have T2 := Lib.hid t2
        have HX := Lib.hid hx
        have HY := Lib.hid hy
        have hk8 : (j : Int) < (n : Int) := by omega
        have hk9 : (0 : Int) ≤ (j : Int) := by omega
        have EQ := Lib.hid (eqB_iff x y)
        obtain ⟨i1, m1, u1, s1⟩ := x
        obtain ⟨i2, m2, u2, s2⟩ := y
        clear t1 t2 hx hy hc hc' hl hm
        cases he : eqB ⟨i1, m1, u1, s1⟩ ⟨i2, m2, u2, s2⟩
        · have HE := Lib.hid he
          have hne : (!eqB ⟨i1, m1, u1, s1⟩ ⟨i2, m2, u2, s2⟩) = true := by rw [he]; rfl
          go_wp2_with fail
          go_quiet (fail)
          go_wp2_with fail
          go_ret
          refine ⟨false, rfl, ⟨fun h => (by cases h), fun h => ?_⟩, q + nq, (by first | rfl | simp)⟩
          subst h
          have h1 := HX.out
          rw [HY.out] at h1
          have h2 := Option.some.inj h1
          have := EQ.out.2 h2.symm
          rw [HE.out] at this
          exact this
        · have HE := Lib.hid he
          have hne : (!eqB ⟨i1, m1, u1, s1⟩ ⟨i2, m2, u2, s2⟩) = false := by rw [he]; rfl
          go_wp2_with fail
          go_quiet (fail)
          go_wp2_with fail
          go_roundw
          case rel => exact ⟨j + 1, q + nq, by omega, by go_num, Lib.hid (by rw [T1.out, T2.out, hjt.out, EQ.out.1 HE.out]), rfl⟩
          case measure => simp [intOf]; omega
      · go_wp2_with fail
        go_ret
        refine ⟨true, rfl, ⟨fun _ => ?_, fun _ => rfl⟩, q, rfl⟩
        have := hjt.out
        rw [List.take_of_length_le (by rw [HL.out]; omega), List.take_of_length_le (by rw [HM.out]; omega)] at this
        exact this
  · have b0 : ((n : Int) != (k : Int)) = true := by simp; omega
    have HNK := Lib.hid hnk
    have HL := Lib.hid hn
    have HM := Lib.hid hk
    clear hn hk hl hm hnk
    go_enter Tryd.func31, Tryd.ntmps31
    go_wp2_with fail
    go_ret
    refine ⟨false, rfl, ⟨fun h => (by cases h), fun h => ?_⟩, 0, rfl⟩
    exact absurd (by rw [← HL.out, ← HM.out, h]) HNK.out


set_option maxHeartbeats 1000000 in
set_option maxRecDepth 100000 in
theorem right_any (w : World) (B : Nat) (A A' : Option Addr) (s l : List Ch) (n k c c' : Nat) (cp : Cp) (hn : s.length = n) (hk : l.length = k) (hs : ChsAt w B A s) (hl : ChsAt w B A' l) (hB : B ≤ w.heap.size) (hnil : A' = none → c' = 0) (hb : n ≤ 1000) (hkb : k ≤ 1000) (hok : Okc l) (hg : GlobAt w) :
    Calls Tryd.prog 22 #[.slice A n c, .slice A' k c', .agg #[.int .i64 cp.size, .int .i64 cp.maker, .int .i64 cp.tag]] w fun e w' => ∃ r, e = .returned (.bool r) ∧ (r = true ↔ s = makeP cp l) ∧ Below w.heap.size w w' := by
  have hb1 : Below w.heap.size w (w.alloc (.cells #[.int .i64 cp.size, .int .i64 cp.maker, .int .i64 cp.tag] 28)) := (Below.refl _ _).alloc (Nat.le_refl _) _
  obtain ⟨w1, hw1⟩ : ∃ w1, w.alloc (.cells #[.int .i64 cp.size, .int .i64 cp.maker, .int .i64 cp.tag] 28) = w1 := ⟨_, rfl⟩
  have bc : Blk w1 w.heap.size 28 #[.int .i64 cp.size, .int .i64 cp.maker, .int .i64 cp.tag] := by rw [← hw1]; exact Blk.new _ _ _
  rw [hw1] at hb1
  have q0 : w1.cell? ⟨w.heap.size, 0, none⟩ = some (.int .i64 cp.size) := bc.cell 0
  have q1 : w1.cell? ⟨w.heap.size, 1, none⟩ = some (.int .i64 cp.maker) := bc.cell 1
  have q2 : w1.cell? ⟨w.heap.size, 2, none⟩ = some (.int .i64 cp.tag) := bc.cell 2
  have HM := Lib.hid (make_any w1 B A' l k c' cp hk (hl.below (hb1.mono hB)) (Nat.le_trans hB hb1.size) hnil hkb hok (hg.keep hb1 (Nat.le_refl _)))
  have hs1 := hs.below (hb1.mono hB)
  have HN := Lib.hid hn
  have hml : (makeP cp l).length ≤ k := by rw [← hk]; exact makeP_len cp l
  clear hs hl hg bc hn hnil hk
  go_enter Tryd.func22, Tryd.ntmps22
  go_wp2_with fail
  clear hw1
  refine HM.out.mono ?_
  rintro e w2 ⟨v, rfl, hown, hb2⟩
  obtain ⟨A2, c2, rfl⟩ := own_shape hown
  have hs2 : ChsAt w2 w2.heap.size A s := RowIn.more (hs1.below (hb2.mono (Nat.le_trans hB hb1.size))) (Nat.le_trans (Nat.le_trans hB hb1.size) hb2.size)
  have HE := Lib.hid (equal_any w2 w2.heap.size A A2 s (makeP cp l) n (makeP cp l).length c c2 HN.out rfl hs2 (RowIn.of_own hown) (by omega) (by omega))
  clear HM hown q0 q1 q2 hs1 hs2
  go_wp2_with fail
  refine HE.out.mono ?_
  rintro e w3 ⟨r, rfl, hr, q, rfl⟩
  have HR := Lib.hid hr
  clear HE hr
  go_wp2_with fail
  go_ret
  exact ⟨r, rfl, HR.out, below_drewN (hb1.trans (hb2.mono hb1.size)) _⟩

/-- Short enough to be asked about. -/
def Short (l : List Ch) : Prop := l.length ≤ 40 ∧ ∀ x ∈ l, x.item.size + x.maker.size + x.tags.size ≤ 300
theorem Short.okc {l : List Ch} (h : Short l) : Okc l := fun x hx => by have := h.2 x hx; omega

set_option maxHeartbeats 1000000 in
set_option maxRecDepth 100000 in
theorem long_any (w : World) (B : Nat) (A : Option Addr) (l : List Ch) (n c : Nat) (hn : l.length = n) (hl : ChsAt w B A l) (hB : B ≤ w.heap.size) (hb : n ≤ 140737488355328) (hsz : ∀ x ∈ l, x.item.size ≤ 140737488355328 ∧ x.maker.size ≤ 140737488355328 ∧ x.tags.size ≤ 140737488355328) :
    Calls Tryd.prog 11 #[.slice A n c] w fun e w' => ∃ r, e = .returned (.bool r) ∧ (r = false → Short l) ∧ Below w.heap.size w w' := by
  have HN := Lib.hid hn
  have HL := Lib.hid hl
  have HSZ := Lib.hid hsz
  clear hn hl hsz
  go_enter Tryd.func11, Tryd.ntmps11
  go_wp2_with fail
  go_loopw [7] (fun i wr => ∃ k : Nat, k ≤ n ∧ i = .int .i64 k ∧ Hid (∀ j y, j < k → l[j]? = some y → y.item.size + y.maker.size + y.tags.size ≤ 300) ∧ Hid (Below w.heap.size w wr)) (fun i _ => n - (intOf i).toNat)
  case atStart => exact ⟨0, Nat.zero_le _, rfl, Lib.hid (fun j y hj => by omega), Lib.hid (Below.refl _ _)⟩
  case round =>
    obtain ⟨k, hk, rfl, hno, hbw⟩ := hrel
    by_cases hlt : k < n
    · obtain ⟨y, hy⟩ : ∃ y, l[k]? = some y := ⟨l[k]'(by rw [HN.out]; exact hlt), List.getElem?_eq_getElem _⟩
      have hl2 : ChsAt wr B A l := HL.out.below (hbw.out.mono hB)
      obtain ⟨g, o, rfl, _, hc⟩ := hl2.at (by rw [HN.out]; omega)
      obtain ⟨e0, e1, e2, e3⟩ := hc k y hy
      have HY := Lib.hid hy
      obtain ⟨s0, s1, s2⟩ := HSZ.out y (List.mem_of_getElem? hy)
      have hk8 : (k : Int) < (n : Int) := by omega
      have hk9 : (0 : Int) ≤ (k : Int) := by omega
      have HB2 : Hid (Below w.heap.size w (wr.alloc (.cells #[.string y.item, .string y.maker, .string y.tags, .int .i64 y.score] 32))) := Lib.hid (hbw.out.alloc hbw.out.size _)
      clear hy hc hl2
      by_cases he : y.item.size + y.maker.size + y.tags.size ≤ 300
      · have h1 : ¬ (300 : Int) < (y.item.size : Int) + (y.maker.size : Int) + (y.tags.size : Int) := by omega
        go_wp2_with fail
        go_roundw
        case rel =>
          refine ⟨k + 1, by omega, by go_num, Lib.hid (fun j z hj hz => ?_), HB2⟩
          by_cases e : j = k
          · subst e
            rw [HY.out] at hz
            cases hz
            exact he
          · exact hno.out j z (by omega) hz
        case measure => simp [intOf]; omega
      · have h1 : (300 : Int) < (y.item.size : Int) + (y.maker.size : Int) + (y.tags.size : Int) := by omega
        go_wp2_with fail
        go_ret
        exact ⟨true, rfl, fun h => (by cases h), HB2.out⟩
    · by_cases h40 : n ≤ 40
      · have h1 : decide ((40 : Int) < (n : Int)) = false := by simp; omega
        go_wp2_with fail
        go_ret
        refine ⟨false, ret_bool ?_, fun _ => ⟨by rw [HN.out]; exact h40, fun x hx => ?_⟩, hbw.out⟩
        · first | rfl | (simp; omega)
        · obtain ⟨j, hj⟩ := List.mem_iff_getElem?.1 hx
          exact hno.out j x (by have := (List.getElem?_eq_some_iff.1 hj).1; rw [HN.out] at this; omega) hj
      · have h1 : decide ((40 : Int) < (n : Int)) = true := by simp; omega
        go_wp2_with fail
        go_ret
        exact ⟨true, ret_bool (by first | rfl | (simp; omega)), fun h => (by cases h), hbw.out⟩

end Go.Proofs.YtiaklkfdgnhonaaDoor
