/- The document's Parts, at a blank. -/
import Derived.Test.YtikbckpphkpaiaaGreatDoorFdParS
namespace Go.Proofs.YtikbckpphkpaiaaGreatDoor
open Go.Shelf Go.RowKit Go.Maps
set_option linter.unusedVariables false

theorem partsS_at {s : ByteArray} {f k : Nat} (hf : f ≤ k) (h : s.data.toList[k]? = some 32) (hn : ∀ j b, f ≤ j → j < k → s.data.toList[j]? = some b → b ≠ 32) : partsS (s.extract f s.size) = s.extract f k :: partsS (s.extract (k + 1) s.size) := by
  have hk := (List.getElem?_eq_some_iff.1 h).1
  have hk' : k < s.size := by simpa using hk
  rw [partsS_hit (k := k - f) (by rw [ext_at]; rw [show f + (k - f) = k by omega]; exact h) (fun j b hj hb => by rw [ext_at] at hb; exact hn (f + j) b (by omega) (by omega) hb)]
  congr 1
  · apply ba_eq
    simp
    omega
  · congr 1
    apply ba_eq
    simp
    rw [show f + (k - f + 1) = k + 1 by omega]
    rw [List.take_of_length_le (by simp; show s.size ≤ _; omega), List.take_of_length_le (by first | simp | (simp; show s.size ≤ _; omega))]
theorem partsS_end {s : ByteArray} {f : Nat} (hn : ∀ j b, f ≤ j → s.data.toList[j]? = some b → b ≠ 32) : partsS (s.extract f s.size) = [s.extract f s.size] :=
  partsS_one (fun j b hb => by rw [ext_at] at hb; exact hn (f + j) b (by omega) hb)

/-- How far the parts are, at k. -/
def PartsSTo (s : ByteArray) (k f : Nat) (out : List ByteArray) : Prop := (k ≤ s.size → out ++ partsS (s.extract f s.size) = partsS s ∧ ∀ j b, f ≤ j → j < k → s.data.toList[j]? = some b → b ≠ 32) ∧ (k = s.size + 1 → out = partsS s)
theorem PartsSTo.start (s : ByteArray) : PartsSTo s 0 0 [] := ⟨fun _ => ⟨by rw [List.nil_append]; congr 1; apply ba_eq; simp, fun j b _ h => by omega⟩, fun h => by omega⟩
theorem PartsSTo.no {s : ByteArray} {k f : Nat} {out : List ByteArray} (h : PartsSTo s k f out) (hk : k < s.size) (hb : (s[k]'hk) ≠ 32) : PartsSTo s (k + 1) f out := by
  refine ⟨fun _ => ⟨(h.1 (by omega)).1, fun j b h1 h2 h3 => ?_⟩, fun e => by omega⟩
  by_cases e : j = k
  · subst e
    rw [List.getElem?_eq_getElem (by simpa using hk)] at h3
    cases h3
    exact hb
  · exact (h.1 (by omega)).2 j b h1 (by omega) h3
theorem PartsSTo.yes {s : ByteArray} {k f : Nat} {out : List ByteArray} (h : PartsSTo s k f out) (hf : f ≤ k) (hk : k < s.size) (hb : (s[k]'hk) = 32) : PartsSTo s (k + 1) (k + 1) (out ++ [s.extract f k]) := by
  refine ⟨fun _ => ⟨?_, fun j b h1 h2 => by omega⟩, fun e => by omega⟩
  have h2 := partsS_at (s := s) hf (by rw [List.getElem?_eq_getElem (by simpa using hk)]; exact congrArg some hb) (h.1 (by omega)).2
  rw [← (h.1 (by omega)).1, h2]
  simp
theorem PartsSTo.fin {s : ByteArray} {f : Nat} {out : List ByteArray} (h : PartsSTo s s.size f out) : PartsSTo s (s.size + 1) (s.size + 1) (out ++ [s.extract f s.size]) := by
  refine ⟨fun h => by omega, fun _ => ?_⟩
  have h2 := h.1 (Nat.le_refl _)
  rw [← h2.1, partsS_end (fun j b h1 h3 => h2.2 j b h1 (by simpa using (List.getElem?_eq_some_iff.1 h3).1) h3)]

set_option maxHeartbeats 2000000 in
set_option maxRecDepth 100000 in
theorem rpartsS_any (s : ByteArray) (w : World) (hs : s.size ≤ 1000000) :
    Calls Tryz.prog 17 #[.string s, .int .u8 32] w fun e w' => ∃ A c, e = .returned (.slice A (partsS s).length c) ∧ w'.ownsRow w.heap.size 9 1 (.slice A (partsS s).length c) (partsS s).length ((partsS s).map .string) ∧ Below w.heap.size w w' := by
  obtain ⟨i0, hi0, hz0, hz1, hz2⟩ := info_parts str_info
  obtain ⟨w1, hw1⟩ : ∃ w1, w.alloc (.cells #[] 9) = w1 := ⟨_, rfl⟩
  have HO1 : Hid (w1.ownsRow w.heap.size 9 1 (.slice (some ⟨w.heap.size, 0, none⟩) 0 0) 0 []) := Lib.hid (by rw [← hw1]; exact own_empty _ _ _)
  have HB1 : Hid (Below w.heap.size w w1) := Lib.hid (by rw [← hw1]; exact (Below.refl _ _).alloc (Nat.le_refl _) _)
  go_enter Tryz.func17, Tryz.ntmps17
  go_wp2_with fail
  go_loopw [5, 6, 7] (fun v fr i wr => ∃ (k f m c5 : Nat) (A5 : Option Addr) (out : List ByteArray), k ≤ s.size + 1 ∧ f ≤ k ∧ i = .int .i64 k ∧ fr = .int .i64 f ∧ v = .slice A5 m c5 ∧ Hid (out.length = m) ∧ m ≤ k ∧ Hid (wr.ownsRow w.heap.size 9 1 (.slice A5 m c5) m (out.map .string)) ∧ Hid (PartsSTo s k f out) ∧ Hid (Below w.heap.size w wr)) (fun _ _ i _ => s.size + 1 - (intOf i).toNat)
  case atStart => exact ⟨0, 0, 0, 0, _, [], Nat.zero_le _, Nat.le_refl _, rfl, rfl, rfl, Lib.hid rfl, Nat.le_refl _, HO1, Lib.hid (PartsSTo.start s), HB1⟩
  case round =>
    clear hw1 HO1 HB1
    obtain ⟨k, f, m, c5, A5, out, hk, hfk, rfl, rfl, rfl, hm, hmk, hrow, hpt, hbw⟩ := hrel
    have hwz := hbw.out.size
    have hf8 : (0 : Int) ≤ (f : Int) := by omega
    have hf9 : (f : Int) ≤ (k : Int) := by omega
    have hk8 : (0 : Int) ≤ (k : Int) := by omega
    by_cases hlt : k < s.size
    · have hk9 : (k : Int) < (s.size : Int) := by omega
      have hk7 : (k : Int) ≤ (s.size : Int) := by omega
      have hk6 : ((k : Int) == (s.size : Int)) = false := by rw [Bool.eq_false_iff]; intro e; have := beq_iff_eq.1 e; omega
      by_cases hq : (s[k]'hlt) = 32
      · have HPN := Lib.hid (hpt.out.yes hfk hlt hq)
        have q1 : ((s[k]'hlt).toNat : Int) = 32 := by rw [hq]; rfl
        clear hq
        go_wp2_with (first
          | (at_builtin; refine wpList_append_row _ rfl _ _ 51 rfl w.heap.size 9 i0 _ 1 16 Tryz.underlying51 hi0 hz0 hz1 hz2 rfl (by omega) (.slice A5 m c5) m _ rfl (hrow.out.alloc _) (wr.heap.size + 1) (some ⟨wr.heap.size, 0, none⟩) 1 1 [.string (s.extract f k)] rfl (one_str wr (s.extract f k) _) (fun h => by cases h) (fun u hu => by simp at hu; subst hu; rfl) (by unfold maxLen; omega) (by omega) (by simp; omega) ?_; intro v7 w7 ho7 hg7 hv7))
        obtain ⟨A7, c7, hr7⟩ := own_shape ho7
        subst hr7
        go_wp2_with fail
        go_roundw
        case rel =>
          refine ⟨k + 1, k + 1, m + 1, c7, A7, out ++ [s.extract f k], by omega, by omega, by go_num, by go_num, rfl, Lib.hid (by rw [List.length_append, hm.out]; rfl), by omega, Lib.hid (by rw [List.map_append]; exact ho7), HPN, Lib.hid ((hbw.out.alloc hwz _).grown hg7 (by simp; omega) (fun j hj => (hrow.out.lt _ hj).1))⟩
        case measure => simp [intOf]; omega
      · have HPN := Lib.hid (hpt.out.no hlt hq)
        have q1 : (((s[k]'hlt).toNat : Int) == 32) = false := by
          rw [Bool.eq_false_iff]
          intro e
          have := beq_iff_eq.1 e
          exact hq (by apply UInt8.toNat_inj.1; show (s[k]'hlt).toNat = 32; omega)
        clear hq
        go_wp2_with fail
        go_roundw
        case rel => exact ⟨k + 1, f, m, c5, A5, out, by omega, by omega, by go_num, rfl, rfl, hm, by omega, hrow, HPN, hbw⟩
        case measure => simp [intOf]; omega
    · by_cases hke : k = s.size
      · have hk6 : ((k : Int) == (s.size : Int)) = true := beq_iff_eq.2 (by omega)
        have hk7 : (k : Int) ≤ (s.size : Int) := by omega
        have HPN : Hid (PartsSTo s (k + 1) (k + 1) (out ++ [s.extract f k])) := Lib.hid (by rw [hke] at hpt ⊢; exact hpt.out.fin)
        clear hke
        go_wp2_with (first
          | (at_builtin; refine wpList_append_row _ rfl _ _ 51 rfl w.heap.size 9 i0 _ 1 16 Tryz.underlying51 hi0 hz0 hz1 hz2 rfl (by omega) (.slice A5 m c5) m _ rfl (hrow.out.alloc _) (wr.heap.size + 1) (some ⟨wr.heap.size, 0, none⟩) 1 1 [.string (s.extract f k)] rfl (one_str wr (s.extract f k) _) (fun h => by cases h) (fun u hu => by simp at hu; subst hu; rfl) (by unfold maxLen; omega) (by omega) (by simp; omega) ?_; intro v7 w7 ho7 hg7 hv7))
        obtain ⟨A7, c7, hr7⟩ := own_shape ho7
        subst hr7
        go_wp2_with fail
        go_roundw
        case rel =>
          refine ⟨k + 1, k + 1, m + 1, c7, A7, out ++ [s.extract f k], by omega, by omega, by go_num, by go_num, rfl, Lib.hid (by rw [List.length_append, hm.out]; rfl), by omega, Lib.hid (by rw [List.map_append]; exact ho7), HPN, Lib.hid ((hbw.out.alloc hwz _).grown hg7 (by simp; omega) (fun j hj => (hrow.out.lt _ hj).1))⟩
        case measure => simp [intOf]; omega
      · have HPE : Hid (out = partsS s) := Lib.hid (hpt.out.2 (by omega))
        have hk7 : ¬ (k : Int) ≤ (s.size : Int) := by omega
        go_wp2_with fail
        go_ret
        rw [← HPE.out, hm.out]
        exact ⟨A5, c5, rfl, hrow.out, hbw.out⟩

end Go.Proofs.YtikbckpphkpaiaaGreatDoor
