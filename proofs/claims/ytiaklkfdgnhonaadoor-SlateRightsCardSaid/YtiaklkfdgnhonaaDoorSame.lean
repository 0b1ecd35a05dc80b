/- Same of the document; slices.Clone; long. -/
import Derived.Test.YtiaklkfdgnhonaaDoorLess
import Derived.Deep.RegionLaw
import Derived.WalkSpells
namespace Go.Proofs.YtiaklkfdgnhonaaDoor
open Go.RowKit Go.Maps Go.Sort
set_option linter.unusedVariables false

theorem ChsAt.below {w w' : World} {B : Nat} {A : Option Addr} {l : List Ch} (h : ChsAt w B A l) (hb : Below B w w') : ChsAt w' B A l := RowIn.below h hb

set_option maxHeartbeats 1000000 in
theorem same_any (w : World) (B : Nat) (A A' : Option Addr) (l m : List Ch) (n k c c' : Nat) (hn : l.length = n) (hk : m.length = k) (hl : ChsAt w B A l) (hm : ChsAt w B A' m) (hnb : n ≤ 1000000) (hkb : k ≤ 1000000) :
    Calls Tryd.prog 13 #[.slice A n c, .slice A' k c'] w fun e w' => ∃ r, e = .returned (.bool r) ∧ (r = true ↔ l = m) ∧ ∃ q, w' = w.drewN q := by
  by_cases hnk : n = k
  · subst hnk
    have b0 : ((n : Int) != (n : Int)) = false := by simp
    have HL := Lib.hid hn
    have HM := Lib.hid hk
    clear hn hk
    go_enter Tryd.func13, Tryd.ntmps13
    go_wp2_with fail
    go_loopw [5] (fun i wr => ∃ j q : Nat, j ≤ n ∧ i = .int .i64 j ∧ Hid (l.take j = m.take j) ∧ wr = w.drewN q) (fun i _ => n - (intOf i).toNat)
    case atStart => exact ⟨0, 0, Nat.zero_le _, rfl, Lib.hid (by simp), rfl⟩
    case round =>
      obtain ⟨j, q, hj, rfl, hjt, rfl⟩ := hrel
      by_cases hlt : j < n
      · obtain ⟨x, hx⟩ : ∃ x, l[j]? = some x := ⟨l[j]'(by rw [HL.out]; exact hlt), List.getElem?_eq_getElem _⟩
        obtain ⟨y, hy⟩ : ∃ y, m[j]? = some y := ⟨m[j]'(by rw [HM.out]; exact hlt), List.getElem?_eq_getElem _⟩
        obtain ⟨g, o, rfl, _, hc⟩ := hl.at (by rw [HL.out]; omega)
        obtain ⟨g', o', rfl, _, hc'⟩ := hm.at (by rw [HM.out]; omega)
        obtain ⟨e0, e1, e2, e3⟩ := hc j x hx
        obtain ⟨f0, f1, f2, f3⟩ := hc' j y hy
        have t1 : l.take (j + 1) = l.take j ++ [x] := by rw [List.take_add_one, hx]; rfl
        have t2 : m.take (j + 1) = m.take j ++ [y] := by rw [List.take_add_one, hy]; rfl
        have T1 := Lib.hid t1
        have T2 := Lib.hid t2
        have HX := Lib.hid hx
        have HY := Lib.hid hy
        have hk8 : (j : Int) < (n : Int) := by omega
        have hk9 : (0 : Int) ≤ (j : Int) := by omega
        have EQ := Lib.hid (eqB_iff x y)
        obtain ⟨i1, m1, u1, s1⟩ := x
        obtain ⟨i2, m2, u2, s2⟩ := y
        clear t1 t2 hx hy hc hc' hl hm
        cases he : eqB ⟨i1, m1, u1, s1⟩ ⟨i2, m2, u2, s2⟩
        · have HE := Lib.hid he
          have hne : (!eqB ⟨i1, m1, u1, s1⟩ ⟨i2, m2, u2, s2⟩) = true := by rw [he]; rfl
          go_wp2_with fail
          go_quiet (fail)
          go_wp2_with fail
          go_ret
          refine ⟨false, rfl, ⟨fun h => (by cases h), fun h => ?_⟩, q + nq, (by first | rfl | simp)⟩
          subst h
          have h1 := HX.out
          rw [HY.out] at h1
          have h2 := Option.some.inj h1
          have := EQ.out.2 h2.symm
          rw [HE.out] at this
          exact this
        · have HE := Lib.hid he
          have hne : (!eqB ⟨i1, m1, u1, s1⟩ ⟨i2, m2, u2, s2⟩) = false := by rw [he]; rfl
          go_wp2_with fail
          go_quiet (fail)
          go_wp2_with fail
          go_roundw
          case rel => exact ⟨j + 1, q + nq, by omega, by go_num, Lib.hid (by rw [T1.out, T2.out, hjt.out, EQ.out.1 HE.out]), rfl⟩
          case measure => simp [intOf]; omega
      · go_wp2_with fail
        go_ret
        refine ⟨true, rfl, ⟨fun _ => ?_, fun _ => rfl⟩, q, rfl⟩
        have := hjt.out
        rw [List.take_of_length_le (by rw [HL.out]; omega), List.take_of_length_le (by rw [HM.out]; omega)] at this
        exact this
  · have b0 : ((n : Int) != (k : Int)) = true := by simp; omega
    have HNK := Lib.hid hnk
    have HL := Lib.hid hn
    have HM := Lib.hid hk
    clear hn hk hl hm hnk
    go_enter Tryd.func13, Tryd.ntmps13
    go_wp2_with fail
    go_ret
    refine ⟨false, rfl, ⟨fun h => (by cases h), fun h => ?_⟩, 0, rfl⟩
    exact absurd (by rw [← HL.out, ← HM.out, h]) HNK.out

theorem ch_info : (Tryd.prog.info? 32).map (fun i => (i.zero, i.size, i.bytes)) = some (some (.agg #[.string ⟨#[]⟩, .string ⟨#[]⟩, .string ⟨#[]⟩, .int .i64 0]), 4, 56) := by kernel_rfl

theorem own_empty (w : World) (e : TypeId) (size : Nat) : (w.alloc (.cells #[] e)).ownsRow w.heap.size e size (.slice (some ⟨w.heap.size, 0, none⟩) 0 0) 0 [] :=
  ⟨by simp, Or.inr ⟨w.heap.size, 0, #[], rfl, Nat.le_refl _, heap_alloc_new w _, Nat.le_refl _, Nat.zero_le _, by simp, by simp⟩⟩
theorem own_nil (w : World) (base : Nat) (e : TypeId) (size : Nat) : w.ownsRow base e size (.slice none 0 0) 0 [] := ⟨by simp, Or.inl ⟨rfl, rfl⟩⟩
theorem own_shape {w : World} {base n : Nat} {e : TypeId} {size : Nat} {v : Value} {xs : List Value} (h : w.ownsRow base e size v n xs) : ∃ A c, v = .slice A n c := by
  rcases h.2 with ⟨rfl, rfl⟩ | ⟨g, cap, cur, rfl, _⟩
  · exact ⟨_, _, rfl⟩
  · exact ⟨_, _, rfl⟩

set_option maxHeartbeats 1000000 in
set_option maxRecDepth 100000 in
/-- slices.Clone: a row of the call's own. -/
theorem clone_any (w : World) (B : Nat) (A : Option Addr) (l : List Ch) (n c : Nat) (hn : l.length = n) (hl : ChsAt w B A l) (hB : B ≤ w.heap.size) (hnil : A = none → c = 0) (hb : n ≤ 1000000) :
    Calls Tryd.prog 23 #[.slice A n c] w fun e w' => ∃ v, e = .returned v ∧ w'.ownsRow w.heap.size 32 4 v n (l.flatMap chC) ∧ Below w.heap.size w w' := by
  obtain ⟨i0, hi0, hz0, hz1, hz2⟩ := info_parts ch_info
  have hen : ∀ (a : Option Addr) (l c : Nat) (W : World), (binOp .eql 22 (.slice a l c) (.slice none 0 0)).run Tryd.prog W = .ok (.bool a.isNone) W := fun a l c W => Lib.run_eql_slice_nil _ _ _ _ _ _ _ _ Tryd.underlying22
  cases A with
  | none =>
    have hc := hnil rfl
    subst hc
    have h0 : n = 0 := by
      rcases hl.2 with h | ⟨b, off, h, _⟩
      · omega
      · cases h
    subst h0
    obtain rfl : l = [] := List.eq_nil_of_length_eq_zero hn
    clear hl hnil hn
    go_enter Tryd.func23, Tryd.ntmps23
    go_wp2_with fail
    go_ret
    exact ⟨_, rfl, own_nil _ _ _ _, Below.refl _ _⟩
  | some ad =>
    have r0 : RowIn (w.alloc (.cells #[] 32)) B 4 (some ad) n (l.flatMap chC) := by
      have := RowIn.alloc hl hB (.cells #[] 32)
      rwa [hn] at this
    have HR := Lib.hid r0
    have HO := Lib.hid (own_empty w 32 4)
    have HONE := Lib.hid (chC_one l)
    clear hl r0 hnil hn
    go_enter Tryd.func23, Tryd.ntmps23
    go_wp2_with (at_builtin; refine wpList_append_row _ rfl (.tmp 5) (.tmp 6) 22 rfl w.heap.size 32 i0 _ 4 56 Tryd.underlying22 hi0 hz0 hz1 hz2 rfl (by omega) _ 0 [] rfl HO.out B (some ad) n c _ rfl HR.out (fun h => by cases h) HONE.out (by unfold maxLen; omega) (by omega) (by simp) ?_; intro v w1 ho hg hv)
    go_ret
    refine ⟨v, rfl, ?_, ?_⟩
    · rw [Nat.zero_add, List.nil_append] at ho
      exact ho
    · have h4 : Kept (fun i => w.heap.size ≤ i) w w1 := ((Kept.refl _ w).alloc _).grown hg (fun j hj => Or.inr (by cases hj; exact Nat.le_refl _))
      exact h4.toBelow (fun i hi => hi) (Nat.le_refl _)

end Go.Proofs.YtiaklkfdgnhonaaDoor
