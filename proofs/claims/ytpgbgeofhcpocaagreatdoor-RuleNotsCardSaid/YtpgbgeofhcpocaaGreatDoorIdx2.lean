/- strings.IndexAny at any text, of a few ASCII signs. -/
import Derived.Test.YtpgbgeofhcpocaaGreatDoorIdx1
import Derived.Test.YtpgbgeofhcpocaaGreatDoorLay3
import Derived.Lib.OthersKept
namespace Go.Proofs.YtpgbgeofhcpocaaGreatDoor
open Go.RowKit Go.Maps Go.Shelf
set_option linter.unusedVariables false

theorem idxb_some (b : UInt8) : ∀ l : List UInt8, b ∈ l → 0 ≤ Lib.indexByte l b
  | [], h => by simp at h
  | x :: l, h => by
    by_cases e : x = b
    · simp [Lib.indexByte, e]
    · have ih := idxb_some b l (by
        rcases List.mem_cons.1 h with h | h
        · exact absurd h.symm e
        · exact h)
      have hx : (x == b) = false := beq_eq_false_iff_ne.2 e
      unfold Lib.indexByte
      simp only [hx, Bool.false_eq_true, if_false]
      split
      · rename_i h2
        have := beq_iff_eq.1 h2
        omega
      · omega
theorem auset_any (n : Nat) (w : World) (h : n ≤ 8) : Calls Tryz.prog 31 #[.int .i64 n] w fun e w' => e = .returned (.bool false) ∧ w = w' := by
  have q0 : decide ((8 : Int) < (n : Int)) = false := decide_eq_false (by omega)
  go_enter Tryz.func31, Tryz.ntmps31
  go_wp2_with fail
  go_ret
  exact ⟨rfl, rfl⟩
theorem idxRune_low (s : ByteArray) (r : Int) (w : World) (h0 : 0 ≤ r) (h1 : r < 128) :
    Calls Tryz.prog 30 #[.string s, .int .i32 r] w fun e w' => e = .returned (.int .i64 (Lib.indexByte s.data.toList r.toNat.toUInt8)) ∧ w' = w := Any.strings_IndexRune_ascii { Tryz.laysAny with } s r w h0 h1
theorem iterPos_of {wr : World} {g : Nat} {s : ByteArray} {pos : Nat} (h : wr.heap[g]? = some (.stringIter s pos)) : wr.iterPos g = pos := by
  simp [World.iterPos, h]

set_option maxHeartbeats 4000000 in
set_option maxRecDepth 1000000 in
theorem idxAny_any (s chars : ByteArray) (w : World) (h2 : 2 ≤ chars.size) (hcs : chars.size ≤ 1000) (hs : s.size ≤ 1000000) (hc : ∀ (j : Nat) b, chars.data.toList[j]? = some b → b.toNat < 128) :
    Calls Tryz.prog 18 #[.string s, .string chars] w fun e w' => e = .returned (.int .i64 (Lib.indexAny s.data.toList chars.data.toList)) ∧ Below w.heap.size w w' := by
  by_cases h8 : 8 < s.size
  · exact (Any.strings_IndexAny_long Tryz.laysAny (fun w => by kernel_rfl) (by kernel_rfl) s chars w h2 h8 (by omega) (by omega) hc).mono fun e w' ⟨e1, e2⟩ => ⟨e1, by rw [e2]; exact ((Below.refl _ _).alloc (Nat.le_refl _) _).alloc (by simp) _⟩
  have HC := Lib.hid hc
  have HAS := Lib.hid (auset_any s.size w (by omega))
  have hne : chars.toList.isEmpty = false := by
    rw [Lib.toList_data]
    cases h : chars.data.toList with
    | nil => have : chars.data.toList.length = 0 := by rw [h]; rfl
             have h3 : chars.data.toList.length = chars.size := by simp
             omega
    | cons a l => rfl
  have hn1 : ((chars.size : Int) == 1) = false := by rw [beq_eq_false_iff_ne]; omega
  have hn2 : ¬ (chars.size : Int) = 1 := by omega
  clear hc
  go_enter Tryz.func18, Tryz.ntmps18
  go_wp2_with fail
  refine HAS.out.mono ?_
  rintro e _ ⟨rfl, rfl⟩
  go_wp2_with fail
  go_loopw [9, 10] (fun _ _ wr => ∃ pos : Nat, Hid (wr.heap[w.heap.size]? = some (.stringIter s pos)) ∧ Hid (Lib.NoAny s.data.toList chars.data.toList pos) ∧ Hid (Below w.heap.size w wr)) (fun _ _ wr => s.size - wr.iterPos w.heap.size)
  case atStart => exact ⟨0, Lib.hid (World.iter_heap w s 0), Lib.hid (Lib.NoAny.zero _ _), Lib.hid ((Below.refl _ _).alloc (Nat.le_refl _) _)⟩
  case round =>
    obtain ⟨pos, hit, hno, hbw⟩ := hrel
    have hgl : w.heap.size < wr.heap.size := (Array.getElem?_eq_some_iff.1 hit.out).1
    by_cases hlt : pos < s.size
    · obtain ⟨R, hR⟩ : ∃ R, (Utf8.decode s pos).1 = R := ⟨_, rfl⟩
      obtain ⟨K, hK⟩ : ∃ K, (Utf8.decode s pos).2 = K := ⟨_, rfl⟩
      have hnx : ∀ ty, (Instr.next (.pointer (some ⟨w.heap.size, 0, none⟩)) true ty).run Tryz.prog wr = .ok (.tuple #[.bool true, .int .i64 pos, .int .i32 R]) (wr.iterAt w.heap.size s (pos + K)) := fun ty => by
        rw [← hR, ← hK]
        exact Lib.run_next_any_at wr w.heap.size s pos ty hit.out hlt
      have HIT2 := Lib.hid (Lib.iterAt_heap wr w.heap.size s pos (pos + K) hit.out)
      have HBW2 := Lib.hid (Lib.below_iterAt hbw.out (k := w.heap.size) (Nat.le_refl _) s (pos + K))
      have hsz2 : (wr.iterAt w.heap.size s (pos + K)).heap.size = wr.heap.size := Lib.iterAt_size wr _ _ _
      have HZ2 := Lib.hid hsz2
      clear hsz2
      obtain ⟨W, hWd⟩ : ∃ W, wr.iterAt w.heap.size s (pos + K) = W := ⟨_, rfl⟩
      rw [hWd] at hnx HIT2 HBW2 HZ2
      have HIP : Hid (wr.iterPos w.heap.size = pos) := Lib.hid (iterPos_of hit.out)
      clear hWd
      by_cases ha : (s[pos]'hlt).toNat < 128
      · have hd := decode_ascii s pos hlt ha
        have hR2 : R = (s[pos]'hlt).toNat := by rw [← hR, hd]
        have hK1 : K = 1 := by rw [← hK, hd]
        have HIR := Lib.hid (idxRune_low chars (R : Int) W (by omega) (by rw [hR2]; omega))
        have hb : ((R : Int).toNat).toUInt8 = s[pos]'hlt := by rw [Int.toNat_natCast, hR2]; simp
        rw [hb] at HIR
        have HK1 := Lib.hid hK1
        clear hR2 hK1 hR hK
        have hx : s.data.toList[pos]? = some (s[pos]'hlt) := Lib.data_getElem? s pos hlt
        by_cases hm : s[pos]'hlt ∈ chars.data.toList
        · have h0 := idxb_some _ _ hm
          have HEQ : Hid (Lib.indexAny s.data.toList chars.data.toList = (pos : Int)) := Lib.hid (Lib.indexAny_hit hno.out hx (by simpa using hm))
          obtain ⟨q, hq⟩ : ∃ q, Lib.indexByte chars.data.toList (s[pos]'hlt) = q := ⟨_, rfl⟩
          rw [hq] at HIR h0
          have h0' : decide (0 ≤ q) = true := decide_eq_true h0
          clear hq hb hd hx hm
          go_wp2_with fail
          refine HIR.out.mono ?_
          rintro e _ ⟨rfl, rfl⟩
          go_wp2_with fail
          go_ret
          rw [HEQ.out]
          exact ⟨rfl, HBW2.out⟩
        · have h0 := idxb_none (s[pos]'hlt) chars.data.toList (fun x hx2 e => hm (by rw [← e]; exact hx2))
          rw [h0] at HIR
          have HNO2 := Lib.hid (hno.out.succ hx (by simpa using hm))
          clear hb hd hx hm h0
          go_wp2_with fail
          refine HIR.out.mono ?_
          rintro e _ ⟨rfl, rfl⟩
          go_wp2_with fail
          go_roundw
          case rel => exact ⟨pos + 1, Lib.hid (by have := HIT2.out; rw [HK1.out] at this; exact this), HNO2, HBW2⟩
          case measure => rw [HIP.out, iterPos_of HIT2.out, HK1.out]; omega
      · have hr := decode_run s pos hlt (by omega)
        rw [hR, hK] at hr
        obtain ⟨hr1, hr2, hr3, hr4⟩ := hr
        have HIR := Lib.hid (idxRune_high chars R W hr2 hr4 HC.out (by omega))
        have HNO2 : Hid (Lib.NoAny s.data.toList chars.data.toList (pos + K)) := Lib.hid (fun j b hj hb => by
          by_cases e : j < pos
          · exact hno.out j b e hb
          · have hjl : j < s.size := by simpa using (List.getElem?_eq_some_iff.1 hb).1
            have h3 := hr1 j hjl (by omega) hj
            have hb2 : s[j]'hjl = b := by
              have := Lib.data_getElem? s j hjl
              rw [this] at hb
              injection hb
            rw [hb2] at h3
            rw [Bool.eq_false_iff]
            intro h4
            have h5 : b ∈ chars.data.toList := by simpa using h4
            obtain ⟨q, hq⟩ := List.mem_iff_getElem?.1 h5
            have := HC.out q b hq
            omega)
        have HR3 := Lib.hid hr3
        clear hr1 hr4 hr3 hR hK
        go_wp2_with fail
        refine HIR.out.mono ?_
        rintro e W2 ⟨rfl, hb2⟩
        have HB3 := Lib.hid hb2
        have HIT3 : Hid (W2.heap[w.heap.size]? = some (.stringIter s (pos + K))) := Lib.hid ((hb2.block _ (by rw [HZ2.out]; exact hgl)).trans HIT2.out)
        clear hb2
        go_wp2_with fail
        go_roundw
        case rel => exact ⟨pos + K, HIT3, HNO2, Lib.hid (HBW2.out.trans (HB3.out.mono HBW2.out.size))⟩
        case measure => rw [HIP.out, iterPos_of HIT3.out]; have := HR3.out; omega
    · have hnx : ∀ ty, (Instr.next (.pointer (some ⟨w.heap.size, 0, none⟩)) true ty).run Tryz.prog wr = .ok (.tuple #[.bool false]) wr := fun ty => Lib.run_next_end_at wr w.heap.size s pos ty hit.out hlt
      have HEQ : Hid (Lib.indexAny s.data.toList chars.data.toList = -1) := Lib.hid (Lib.indexAny_none (fun j b hj hb => by
        have h3 : s.data.toList.length = s.size := by simp
        exact hno.out j b (by omega) hb))
      go_wp2_with fail
      go_ret
      rw [HEQ.out]
      exact ⟨rfl, hbw.out⟩
end Go.Proofs.YtpgbgeofhcpocaaGreatDoor
