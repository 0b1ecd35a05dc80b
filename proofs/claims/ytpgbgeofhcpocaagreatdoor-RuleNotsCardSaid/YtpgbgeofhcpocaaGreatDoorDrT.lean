/- The document of rules: tokens. -/
import Derived.Test.YtpgbgeofhcpocaaGreatDoorDrA
namespace Go.Proofs.YtpgbgeofhcpocaaGreatDoor
open Go.RowKit Go.Maps Go.Shelf
set_option linter.unusedVariables false

theorem own_empty (w : World) (e : TypeId) (size : Nat) : (w.alloc (.cells #[] e)).ownsRow w.heap.size e size (.slice (some ⟨w.heap.size, 0, none⟩) 0 0) 0 [] :=
  ⟨by simp, Or.inr ⟨w.heap.size, 0, #[], rfl, Nat.le_refl _, heap_alloc_new w _, Nat.le_refl _, by decide, by simp, by simp⟩⟩
theorem dtk_info : (Tryz.prog.info? 60).map (fun i => (i.zero, i.size, i.bytes)) = some (some (.agg #[.string ⟨#[]⟩, .int .i64 0]), 2, 24) := by kernel_rfl
theorem tk_one (t : Tk) : ∀ u ∈ tkC t, u.oneCell' = true := fun u hu => by simp [tkC] at hu; rcases hu with rfl | rfl <;> rfl
/-- Where the gathering of tokens stands. -/
structure TkTo (s : ByteArray) (k fr : Nat) (ts : List Tk) : Prop where
  few : ts.length ≤ fr
  le : fr ≤ k
  go : k ≤ s.size → toks s = ts ++ tokR s k fr
  done : s.size < k → toks s = ts
theorem TkTo.start (s : ByteArray) : TkTo s 0 0 [] := ⟨Nat.le_refl _, Nat.le_refl _, fun _ => rfl, fun h => by omega⟩
theorem TkTo.more {s : ByteArray} {k fr : Nat} {ts : List Tk} (h : TkTo s k fr ts) (hk : k < s.size) (hd : isD (byteAt s k) = false) : TkTo s (k + 1) fr ts :=
  ⟨h.few, by have := h.le; omega, fun _ => by rw [h.go (by omega), tokR_w hk hd], fun h2 => by omega⟩
theorem TkTo.cut {s : ByteArray} {k fr : Nat} {ts : List Tk} (h : TkTo s k fr ts) (hk : k < s.size) (hd : isD (byteAt s k) = true) {W S : List Tk} (hW : wordT s k fr = W) (hS : signT s k = S) : TkTo s (k + 1) (k + 1) (ts ++ W ++ S) := by
  have h1 := h.few
  have h2 := h.le
  subst hW hS
  refine ⟨?_, Nat.le_refl _, fun _ => by rw [h.go (by omega), tokR_d hk hd]; simp only [List.append_assoc], fun h2 => by omega⟩
  rw [List.length_append, List.length_append, wordT_len]
  have h4 : (signT s k).length ≤ 1 := by unfold signT; split <;> simp
  split <;> omega
theorem TkTo.last {s : ByteArray} {fr : Nat} {ts : List Tk} (h : TkTo s s.size fr ts) {W : List Tk} (hW : wordT s s.size fr = W) : TkTo s (s.size + 1) (s.size + 1) (ts ++ W) := by
  have h1 := h.few
  have h2 := h.le
  subst hW
  refine ⟨?_, Nat.le_refl _, fun h => by omega, fun _ => by rw [h.go (Nat.le_refl _), tokR_end (Nat.le_refl _)]⟩
  rw [List.length_append, wordT_len]
  split <;> omega
def allT (s : ByteArray) : List Tk := toks s ++ [(⟨#[]⟩, s.size)]

set_option maxHeartbeats 8000000 in
set_option maxRecDepth 100000 in
theorem dtokens_any (s : ByteArray) (w : World) (hs : s.size ≤ 100000) :
    Calls Tryz.prog 14 #[.string s] w fun e w' => ∃ A c, e = .returned (.slice A ((toks s).length + 1) c) ∧ w'.ownsRow w.heap.size 60 2 (.slice A ((toks s).length + 1) c) ((toks s).length + 1) ((allT s).flatMap tkC) ∧ Below w.heap.size w w' := by
  obtain ⟨i0, hi0, hz0, hz1, hz2⟩ := info_parts dtk_info
  obtain ⟨w1, hw1⟩ : ∃ w1, w.alloc (.cells #[] 60) = w1 := ⟨_, rfl⟩
  have HO1 : Hid (w1.ownsRow w.heap.size 60 2 (.slice (some ⟨w.heap.size, 0, none⟩) 0 0) 0 ([].flatMap tkC)) := Lib.hid (by rw [← hw1]; exact own_empty _ _ _)
  have HB1 : Hid (Below w.heap.size w w1) := Lib.hid (by rw [← hw1]; exact (Below.refl _ _).alloc (Nat.le_refl _) _)
  go_enter Tryz.func14, Tryz.ntmps14
  go_wp2_with fail
  clear hw1
  go_loopw [3, 4, 5] (fun v f i wr => ∃ (k fr m c5 : Nat) (A5 : Option Addr) (ts : List Tk), k ≤ s.size + 1 ∧ fr ≤ k ∧ m ≤ fr ∧ i = .int .i64 k ∧ f = .int .i64 fr ∧ v = .slice A5 m c5 ∧ Hid (ts.length = m) ∧ Hid (TkTo s k fr ts) ∧ Hid (wr.ownsRow w.heap.size 60 2 (.slice A5 m c5) m (ts.flatMap tkC)) ∧ Hid (Below w.heap.size w wr)) (fun _ _ i _ => s.size + 1 - (intOf i).toNat)
  case atStart => exact ⟨0, 0, 0, 0, _, [], Nat.zero_le _, Nat.le_refl _, Nat.le_refl _, rfl, rfl, rfl, Lib.hid rfl, Lib.hid (TkTo.start s), HO1, HB1⟩
  case round =>
    clear HO1 HB1
    obtain ⟨k, fr, m, c5, A5, ts, hk, hfk, hmf, rfl, rfl, rfl, hlen, hto, hrow, hbw⟩ := hrel
    have hwz := hbw.out.size
    have hk8 : (0 : Int) ≤ (k : Int) := by omega
    have hf8 : (0 : Int) ≤ (fr : Int) := by omega
    have hkw : IntKind.i64.wrap ((k : Int) + 1) = (k : Int) + 1 := by rw [IntKind.wrap_i64]; omega
    have hkt : ((k : Int) + 1).toNat = k + 1 := by omega
    by_cases hend : s.size < k
    · have hk9 : ¬ (k : Int) ≤ (s.size : Int) := by omega
      have HT := Lib.hid (hto.out.done hend)
      have HSN : Hid ((toks s).length = m) := Lib.hid (by rw [HT.out]; exact hlen.out)
      clear hend
      go_wp2_with (first
        | (at_builtin; refine wpList_append_row _ rfl _ _ 53 rfl w.heap.size 60 i0 _ 2 24 Tryz.underlying53 hi0 hz0 hz1 hz2 rfl (by omega) (.slice A5 m c5) m _ rfl (hrow.out.alloc _) (wr.heap.size + 1) (some ⟨wr.heap.size, 0, none⟩) 1 1 (tkC ((⟨#[]⟩ : ByteArray), s.size)) rfl (one_tk wr ((⟨#[]⟩ : ByteArray), s.size) _) (fun h => by cases h) (tk_one ((⟨#[]⟩ : ByteArray), s.size)) (by unfold maxLen; omega) (by omega) (by simp; omega) ?_; intro v7 w7 ho7 hg7 hv7))
      obtain ⟨A7, c7, hr7⟩ := own_shape ho7
      subst hr7
      have HB7 : Hid (Below w.heap.size w w7) := Lib.hid ((hbw.out.alloc hbw.out.size _).grown hg7 (by simp; have := hbw.out.size; omega) (fun j hj => (hrow.out.lt _ hj).1))
      have HO7 := Lib.hid ho7
      clear ho7 hg7 hv7
      go_wp2_with fail
      go_ret
      refine ⟨A7, c7, by rw [HSN.out]; rfl, ?_, HB7.out⟩
      rw [HSN.out]
      unfold allT
      rw [HT.out, List.flatMap_append, List.flatMap_singleton]
      exact HO7.out
    have hk9 : (k : Int) ≤ (s.size : Int) := by omega
    have hfk2 : (fr : Int) ≤ (k : Int) := by omega
    by_cases hlt : k < s.size
    · have hk7 : (k : Int) < (s.size : Int) := by omega
      have hk6 : (k : Int) + 1 ≤ (s.size : Int) := by omega
      have hk5 : (k : Int) ≤ (k : Int) + 1 := by omega
      have HB := Lib.hid (byteAt_get hlt)
      by_cases hd : isD (s[k]'hlt) = true
      · have HDD : Hid (isD (byteAt s k) = true) := Lib.hid (by rw [HB.out]; exact hd)
        have h3 : (s[k]'hlt) = 32 ∨ (s[k]'hlt) = 40 ∨ (s[k]'hlt) = 41 := by
          unfold isD at hd
          simp only [Bool.or_eq_true, beq_iff_eq] at hd
          rcases hd with (h | h) | h
          · exact Or.inl h
          · exact Or.inr (Or.inl h)
          · exact Or.inr (Or.inr h)
        clear hd
        by_cases hfr : fr < k
        · have hf7 : (fr : Int) < (k : Int) := by omega
          have HW : Hid (wordT s k fr = [(s.extract fr k, fr)]) := Lib.hid (if_pos hfr)
          rcases h3 with h | h
          · have q1 : (s[k]'hlt).toNat = 32 := by rw [h]; rfl
            have HTO := Lib.hid (hto.out.cut hlt HDD.out HW.out (S := []) (by unfold signT; rw [if_pos (by rw [HB.out, h])]))
            clear h
            go_upto_region 9 with (first
              | (at_builtin; refine wpList_append_row _ rfl _ _ 53 rfl w.heap.size 60 i0 _ 2 24 Tryz.underlying53 hi0 hz0 hz1 hz2 rfl (by omega) (.slice A5 m c5) m _ rfl (hrow.out.alloc _) (wr.heap.size + 1) (some ⟨wr.heap.size, 0, none⟩) 1 1 (tkC (s.extract fr k, fr)) rfl (one_tk wr (s.extract fr k, fr) _) (fun h => by cases h) (tk_one (s.extract fr k, fr)) (by unfold maxLen; omega) (by omega) (by simp; omega) ?_; intro v7 w7 ho7 hg7 hv7))
            obtain ⟨A7, c7, hr7⟩ := own_shape ho7
            subst hr7
            have HB7 : Hid (Below w.heap.size w w7) := Lib.hid ((hbw.out.alloc hbw.out.size _).grown hg7 (by simp; have := hbw.out.size; omega) (fun j hj => (hrow.out.lt _ hj).1))
            have HO7 := Lib.hid ho7
            clear ho7 hg7 hv7
            go_wp2_with fail
            go_roundw
            case rel => exact ⟨k + 1, k + 1, m + 1, c7, A7, _, by omega, by omega, by omega, by go_num, by go_num, rfl, Lib.hid (by have := hlen.out; simp [this]), HTO, Lib.hid (by rw [List.append_nil, List.flatMap_append, List.flatMap_singleton]; exact HO7.out), HB7⟩
            case measure => simp [intOf]; omega
          · have q1 : ¬ (s[k]'hlt).toNat = 32 := by rcases h with h | h <;> (rw [h]; decide)
            have HTO := Lib.hid (hto.out.cut hlt HDD.out HW.out (S := [(s.extract k (k + 1), k)]) (by unfold signT; rw [if_neg (by rw [HB.out]; intro e; rcases h with h | h <;> rw [h] at e <;> exact absurd e (by decide))]))
            have h4 : (s[k]'hlt).toNat = 40 ∨ (¬ (s[k]'hlt).toNat = 40 ∧ (s[k]'hlt).toNat = 41) := by
              rcases h with h | h
              · left; rw [h]; rfl
              · right; rw [h]; exact ⟨by decide, rfl⟩
            clear h
            rcases h4 with q2 | ⟨q2, q3⟩
            · go_upto_region 9 with (first
                | (at_builtin; refine wpList_append_row _ rfl _ _ 53 rfl w.heap.size 60 i0 _ 2 24 Tryz.underlying53 hi0 hz0 hz1 hz2 rfl (by omega) (.slice A5 m c5) m _ rfl (hrow.out.alloc _) (wr.heap.size + 1) (some ⟨wr.heap.size, 0, none⟩) 1 1 (tkC (s.extract fr k, fr)) rfl (one_tk wr (s.extract fr k, fr) _) (fun h => by cases h) (tk_one (s.extract fr k, fr)) (by unfold maxLen; omega) (by omega) (by simp; omega) ?_; intro v7 w7 ho7 hg7 hv7))
              obtain ⟨A7, c7, hr7⟩ := own_shape ho7
              subst hr7
              have HB7 : Hid (Below w.heap.size w w7) := Lib.hid ((hbw.out.alloc hbw.out.size _).grown hg7 (by simp; have := hbw.out.size; omega) (fun j hj => (hrow.out.lt _ hj).1))
              have HO7 := Lib.hid ho7
              clear ho7 hg7 hv7
              have hz7 := HB7.out.size
              go_wp2_with (first
                | (at_builtin; refine wpList_append_row _ rfl _ _ 53 rfl w.heap.size 60 i0 _ 2 24 Tryz.underlying53 hi0 hz0 hz1 hz2 rfl (by omega) (.slice A7 (m + 1) c7) (m + 1) _ rfl (HO7.out.alloc _) (w7.heap.size + 1) (some ⟨w7.heap.size, 0, none⟩) 1 1 (tkC (s.extract k (k + 1), k)) rfl (one_tk w7 (s.extract k (k + 1), k) _) (fun h => by cases h) (tk_one (s.extract k (k + 1), k)) (by unfold maxLen; omega) (by omega) (by simp; omega) ?_; intro v9 w9 ho9 hg9 hv9))
              obtain ⟨A9, c9, hr9⟩ := own_shape ho9
              subst hr9
              have HB9 : Hid (Below w.heap.size w w9) := Lib.hid ((HB7.out.alloc HB7.out.size _).grown hg9 (by simp; have := HB7.out.size; omega) (fun j hj => (HO7.out.lt _ hj).1))
              have HO9 := Lib.hid ho9
              clear ho9 hg9 hv9
              go_wp2_with fail
              go_roundw
              case rel => exact ⟨k + 1, k + 1, m + 1 + 1, c9, A9, _, by omega, by omega, by omega, by go_num, by go_num, rfl, Lib.hid (by have := hlen.out; simp [this]), HTO, Lib.hid (by rw [List.flatMap_append, List.flatMap_append, List.flatMap_singleton, List.flatMap_singleton]; exact HO9.out), HB9⟩
              case measure => simp [intOf]; omega
            · go_upto_region 9 with (first
                | (at_builtin; refine wpList_append_row _ rfl _ _ 53 rfl w.heap.size 60 i0 _ 2 24 Tryz.underlying53 hi0 hz0 hz1 hz2 rfl (by omega) (.slice A5 m c5) m _ rfl (hrow.out.alloc _) (wr.heap.size + 1) (some ⟨wr.heap.size, 0, none⟩) 1 1 (tkC (s.extract fr k, fr)) rfl (one_tk wr (s.extract fr k, fr) _) (fun h => by cases h) (tk_one (s.extract fr k, fr)) (by unfold maxLen; omega) (by omega) (by simp; omega) ?_; intro v7 w7 ho7 hg7 hv7))
              obtain ⟨A7, c7, hr7⟩ := own_shape ho7
              subst hr7
              have HB7 : Hid (Below w.heap.size w w7) := Lib.hid ((hbw.out.alloc hbw.out.size _).grown hg7 (by simp; have := hbw.out.size; omega) (fun j hj => (hrow.out.lt _ hj).1))
              have HO7 := Lib.hid ho7
              clear ho7 hg7 hv7
              have hz7 := HB7.out.size
              go_wp2_with (first
                | (at_builtin; refine wpList_append_row _ rfl _ _ 53 rfl w.heap.size 60 i0 _ 2 24 Tryz.underlying53 hi0 hz0 hz1 hz2 rfl (by omega) (.slice A7 (m + 1) c7) (m + 1) _ rfl (HO7.out.alloc _) (w7.heap.size + 1) (some ⟨w7.heap.size, 0, none⟩) 1 1 (tkC (s.extract k (k + 1), k)) rfl (one_tk w7 (s.extract k (k + 1), k) _) (fun h => by cases h) (tk_one (s.extract k (k + 1), k)) (by unfold maxLen; omega) (by omega) (by simp; omega) ?_; intro v9 w9 ho9 hg9 hv9))
              obtain ⟨A9, c9, hr9⟩ := own_shape ho9
              subst hr9
              have HB9 : Hid (Below w.heap.size w w9) := Lib.hid ((HB7.out.alloc HB7.out.size _).grown hg9 (by simp; have := HB7.out.size; omega) (fun j hj => (HO7.out.lt _ hj).1))
              have HO9 := Lib.hid ho9
              clear ho9 hg9 hv9
              go_wp2_with fail
              go_roundw
              case rel => exact ⟨k + 1, k + 1, m + 1 + 1, c9, A9, _, by omega, by omega, by omega, by go_num, by go_num, rfl, Lib.hid (by have := hlen.out; simp [this]), HTO, Lib.hid (by rw [List.flatMap_append, List.flatMap_append, List.flatMap_singleton, List.flatMap_singleton]; exact HO9.out), HB9⟩
              case measure => simp [intOf]; omega
        · have hf7 : ¬ (fr : Int) < (k : Int) := by omega
          have HW : Hid (wordT s k fr = []) := Lib.hid (if_neg hfr)
          rcases h3 with h | h
          · have q1 : (s[k]'hlt).toNat = 32 := by rw [h]; rfl
            have HTO := Lib.hid (hto.out.cut hlt HDD.out HW.out (S := []) (by unfold signT; rw [if_pos (by rw [HB.out, h])]))
            clear h
            go_wp2_with fail
            go_roundw
            case rel => exact ⟨k + 1, k + 1, m, c5, A5, _, by omega, by omega, by omega, by go_num, by go_num, rfl, Lib.hid (by have := hlen.out; simp [this]), HTO, Lib.hid (by rw [List.append_nil, List.append_nil]; exact hrow.out), hbw⟩
            case measure => simp [intOf]; omega
          · have q1 : ¬ (s[k]'hlt).toNat = 32 := by rcases h with h | h <;> (rw [h]; decide)
            have HTO := Lib.hid (hto.out.cut hlt HDD.out HW.out (S := [(s.extract k (k + 1), k)]) (by unfold signT; rw [if_neg (by rw [HB.out]; intro e; rcases h with h | h <;> rw [h] at e <;> exact absurd e (by decide))]))
            have h4 : (s[k]'hlt).toNat = 40 ∨ (¬ (s[k]'hlt).toNat = 40 ∧ (s[k]'hlt).toNat = 41) := by
              rcases h with h | h
              · left; rw [h]; rfl
              · right; rw [h]; exact ⟨by decide, rfl⟩
            clear h
            rcases h4 with q2 | ⟨q2, q3⟩
            · go_wp2_with (first
                | (at_builtin; refine wpList_append_row _ rfl _ _ 53 rfl w.heap.size 60 i0 _ 2 24 Tryz.underlying53 hi0 hz0 hz1 hz2 rfl (by omega) (.slice A5 m c5) m _ rfl (hrow.out.alloc _) (wr.heap.size + 1) (some ⟨wr.heap.size, 0, none⟩) 1 1 (tkC (s.extract k (k + 1), k)) rfl (one_tk wr (s.extract k (k + 1), k) _) (fun h => by cases h) (tk_one (s.extract k (k + 1), k)) (by unfold maxLen; omega) (by omega) (by simp; omega) ?_; intro v9 w9 ho9 hg9 hv9))
              obtain ⟨A9, c9, hr9⟩ := own_shape ho9
              subst hr9
              have HB9 : Hid (Below w.heap.size w w9) := Lib.hid ((hbw.out.alloc hbw.out.size _).grown hg9 (by simp; have := hbw.out.size; omega) (fun j hj => (hrow.out.lt _ hj).1))
              have HO9 := Lib.hid ho9
              clear ho9 hg9 hv9
              go_wp2_with fail
              go_roundw
              case rel => exact ⟨k + 1, k + 1, m + 1, c9, A9, _, by omega, by omega, by omega, by go_num, by go_num, rfl, Lib.hid (by have := hlen.out; simp [this]), HTO, Lib.hid (by rw [List.append_nil, List.flatMap_append, List.flatMap_singleton]; exact HO9.out), HB9⟩
              case measure => simp [intOf]; omega
            · go_wp2_with (first
                | (at_builtin; refine wpList_append_row _ rfl _ _ 53 rfl w.heap.size 60 i0 _ 2 24 Tryz.underlying53 hi0 hz0 hz1 hz2 rfl (by omega) (.slice A5 m c5) m _ rfl (hrow.out.alloc _) (wr.heap.size + 1) (some ⟨wr.heap.size, 0, none⟩) 1 1 (tkC (s.extract k (k + 1), k)) rfl (one_tk wr (s.extract k (k + 1), k) _) (fun h => by cases h) (tk_one (s.extract k (k + 1), k)) (by unfold maxLen; omega) (by omega) (by simp; omega) ?_; intro v9 w9 ho9 hg9 hv9))
              obtain ⟨A9, c9, hr9⟩ := own_shape ho9
              subst hr9
              have HB9 : Hid (Below w.heap.size w w9) := Lib.hid ((hbw.out.alloc hbw.out.size _).grown hg9 (by simp; have := hbw.out.size; omega) (fun j hj => (hrow.out.lt _ hj).1))
              have HO9 := Lib.hid ho9
              clear ho9 hg9 hv9
              go_wp2_with fail
              go_roundw
              case rel => exact ⟨k + 1, k + 1, m + 1, c9, A9, _, by omega, by omega, by omega, by go_num, by go_num, rfl, Lib.hid (by have := hlen.out; simp [this]), HTO, Lib.hid (by rw [List.append_nil, List.flatMap_append, List.flatMap_singleton]; exact HO9.out), HB9⟩
              case measure => simp [intOf]; omega
      · have HTO := Lib.hid (hto.out.more hlt (by rw [HB.out]; simpa using hd))
        have h3 : ¬ (s[k]'hlt).toNat = 32 ∧ ¬ (s[k]'hlt).toNat = 40 ∧ ¬ (s[k]'hlt).toNat = 41 := by
          unfold isD at hd
          simp only [Bool.or_eq_true, beq_iff_eq, not_or] at hd
          refine ⟨fun e => hd.1.1 ?_, fun e => hd.1.2 ?_, fun e => hd.2 ?_⟩ <;> (apply UInt8.toNat_inj.1; rw [e]; rfl)
        obtain ⟨q1, q2, q3⟩ := h3
        have r1 : (((s[k]'hlt).toNat : Int) != 32) = true := bne_iff_ne.2 (by omega)
        have r2 : (((s[k]'hlt).toNat : Int) != 40) = true := bne_iff_ne.2 (by omega)
        have r3 : (((s[k]'hlt).toNat : Int) != 41) = true := bne_iff_ne.2 (by omega)
        clear hd
        go_wp2_with fail
        go_roundw
        case rel => exact ⟨k + 1, fr, m, c5, A5, ts, by omega, by omega, hmf, by go_num, rfl, rfl, hlen, HTO, hrow, hbw⟩
        case measure => simp [intOf]; omega
    · obtain rfl : k = s.size := by omega
      have hk7 : ¬ (s.size : Int) < (s.size : Int) := by omega
      by_cases hfr : fr < s.size
      · have hf7 : (fr : Int) < (s.size : Int) := by omega
        have HTO := Lib.hid (hto.out.last (W := [(s.extract fr s.size, fr)]) (if_pos hfr))
        go_upto_region 9 with (first
          | (at_builtin; refine wpList_append_row _ rfl _ _ 53 rfl w.heap.size 60 i0 _ 2 24 Tryz.underlying53 hi0 hz0 hz1 hz2 rfl (by omega) (.slice A5 m c5) m _ rfl (hrow.out.alloc _) (wr.heap.size + 1) (some ⟨wr.heap.size, 0, none⟩) 1 1 (tkC (s.extract fr s.size, fr)) rfl (one_tk wr (s.extract fr s.size, fr) _) (fun h => by cases h) (tk_one (s.extract fr s.size, fr)) (by unfold maxLen; omega) (by omega) (by simp; omega) ?_; intro v7 w7 ho7 hg7 hv7))
        obtain ⟨A7, c7, hr7⟩ := own_shape ho7
        subst hr7
        have HB7 : Hid (Below w.heap.size w w7) := Lib.hid ((hbw.out.alloc hbw.out.size _).grown hg7 (by simp; have := hbw.out.size; omega) (fun j hj => (hrow.out.lt _ hj).1))
        have HO7 := Lib.hid ho7
        clear ho7 hg7 hv7
        go_wp2_with fail
        go_roundw
        case rel => exact ⟨s.size + 1, s.size + 1, m + 1, c7, A7, _, by omega, by omega, by omega, by go_num, by go_num, rfl, Lib.hid (by have := hlen.out; simp [this]), HTO, Lib.hid (by rw [List.flatMap_append, List.flatMap_singleton]; exact HO7.out), HB7⟩
        case measure => first | (simp [intOf]; done) | (simp [intOf]; omega)
      · have hf7 : ¬ (fr : Int) < (s.size : Int) := by omega
        have HTO := Lib.hid (hto.out.last (W := []) (if_neg hfr))
        go_wp2_with fail
        go_roundw
        case rel => exact ⟨s.size + 1, s.size + 1, m, c5, A5, _, by omega, by omega, by omega, by go_num, by go_num, rfl, Lib.hid (by have := hlen.out; simp [this]), HTO, Lib.hid (by rw [List.append_nil]; exact hrow.out), hbw⟩
        case measure => first | (simp [intOf]; done) | (simp [intOf]; omega)
end Go.Proofs.YtpgbgeofhcpocaaGreatDoor
