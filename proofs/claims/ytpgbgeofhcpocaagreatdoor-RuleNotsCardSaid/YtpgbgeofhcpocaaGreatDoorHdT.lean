/- The document of rules: a thing's tags. -/
import Derived.Test.YtpgbgeofhcpocaaGreatDoorRuHn
namespace Go.Proofs.YtpgbgeofhcpocaaGreatDoor
open Go.RowKit Go.Maps Go.Shelf
set_option linter.unusedVariables false

theorem idxc_hit (c : UInt8) : ∀ (s : List UInt8) (k : Nat), s[k]? = some c → (∀ j b, j < k → s[j]? = some b → b ≠ c) → Lib.index s [c] = k
  | [], k, h, _ => by simp at h
  | b :: s, 0, h, _ => by
    simp at h
    subst h
    simp [Lib.index]
  | b :: s, k + 1, h, hn => by
    have hb : b ≠ c := hn 0 b (by omega) rfl
    have ih := idxc_hit c s k (by simpa using h) (fun j d hj hc => hn (j + 1) d (by omega) (by simpa using hc))
    unfold Lib.index
    rw [ih]
    simp [List.isPrefixOf, Ne.symm hb]
theorem idxc_miss (c : UInt8) : ∀ (s : List UInt8), (∀ (j : Nat) b, s[j]? = some b → b ≠ c) → Lib.index s [c] = -1
  | [], _ => by simp [Lib.index]
  | b :: s, hn => by
    have hb : b ≠ c := hn 0 b rfl
    have ih := idxc_miss c s (fun j d hc => hn (j + 1) d (by simpa using hc))
    unfold Lib.index
    rw [ih]
    simp [List.isPrefixOf, Ne.symm hb]
theorem parts_hit {u : ByteArray} {k : Nat} (h : u.data.toList[k]? = some 44) (hn : ∀ j b, j < k → u.data.toList[j]? = some b → b ≠ 44) : parts u = u.extract 0 k :: parts (u.extract (k + 1) u.size) := by
  have hi : Lib.indexB u ⟨#[44]⟩ = (k : Int) := idxc_hit 44 u.data.toList k h hn
  unfold parts
  rw [Lib.countB_hit u ⟨#[44]⟩ k (by decide) hi, Nat.add_comm 1, Lib.splitB_hit ⟨#[44]⟩ 0 _ u k hi]
  rfl
theorem parts_miss {u : ByteArray} (hn : ∀ (j : Nat) b, u.data.toList[j]? = some b → b ≠ 44) : parts u = [u] :=
  Lib.splitB_miss ⟨#[44]⟩ 0 _ u (idxc_miss 44 u.data.toList hn)
theorem ext_at {s : ByteArray} {f : Nat} (j : Nat) : (s.extract f s.size).data.toList[j]? = s.data.toList[f + j]? := by
  simp [List.getElem?_take]
  intro h
  omega
theorem parts_at {s : ByteArray} {f k : Nat} (hf : f ≤ k) (h : s.data.toList[k]? = some 44) (hn : ∀ j b, f ≤ j → j < k → s.data.toList[j]? = some b → b ≠ 44) : parts (s.extract f s.size) = s.extract f k :: parts (s.extract (k + 1) s.size) := by
  have hk := (List.getElem?_eq_some_iff.1 h).1
  have hk' : k < s.size := by simpa using hk
  rw [parts_hit (k := k - f) (by rw [ext_at]; rw [show f + (k - f) = k by omega]; exact h) (fun j b hj hb => by rw [ext_at] at hb; exact hn (f + j) b (by omega) (by omega) hb)]
  congr 1
  · refine ba_ext ?_
    simp
    omega
  · congr 1
    refine ba_ext ?_
    simp
    rw [show f + (k - f + 1) = k + 1 by omega]
    rw [List.take_of_length_le (by simp; show s.size ≤ _; omega), List.take_of_length_le (by first | simp | (simp; show s.size ≤ _; omega))]
theorem parts_end {s : ByteArray} {f : Nat} (hn : ∀ j b, f ≤ j → s.data.toList[j]? = some b → b ≠ 44) : parts (s.extract f s.size) = [s.extract f s.size] :=
  parts_miss (fun j b hb => by rw [ext_at] at hb; exact hn (f + j) b (by omega) hb)

/-- How far the parts are, at k. -/
def PartsTo (s : ByteArray) (k f : Nat) (out : List ByteArray) : Prop := (k ≤ s.size → out ++ parts (s.extract f s.size) = parts s ∧ ∀ j b, f ≤ j → j < k → s.data.toList[j]? = some b → b ≠ 44) ∧ (k = s.size + 1 → out = parts s)
theorem PartsTo.start (s : ByteArray) : PartsTo s 0 0 [] := ⟨fun _ => ⟨by rw [List.nil_append]; congr 1; refine ba_ext ?_; simp, fun j b _ h => by omega⟩, fun h => by omega⟩
theorem PartsTo.no {s : ByteArray} {k f : Nat} {out : List ByteArray} (h : PartsTo s k f out) (hk : k < s.size) (hb : (s[k]'hk) ≠ 44) : PartsTo s (k + 1) f out := by
  refine ⟨fun _ => ⟨(h.1 (by omega)).1, fun j b h1 h2 h3 => ?_⟩, fun e => by omega⟩
  by_cases e : j = k
  · subst e
    rw [List.getElem?_eq_getElem (by simpa using hk)] at h3
    cases h3
    exact hb
  · exact (h.1 (by omega)).2 j b h1 (by omega) h3
theorem PartsTo.yes {s : ByteArray} {k f : Nat} {out : List ByteArray} (h : PartsTo s k f out) (hf : f ≤ k) (hk : k < s.size) (hb : (s[k]'hk) = 44) : PartsTo s (k + 1) (k + 1) (out ++ [s.extract f k]) := by
  refine ⟨fun _ => ⟨?_, fun j b h1 h2 => by omega⟩, fun e => by omega⟩
  have h2 := parts_at (s := s) hf (by rw [List.getElem?_eq_getElem (by simpa using hk)]; exact congrArg some hb) (h.1 (by omega)).2
  rw [← (h.1 (by omega)).1, h2]
  simp
theorem PartsTo.fin {s : ByteArray} {f : Nat} {out : List ByteArray} (h : PartsTo s s.size f out) : PartsTo s (s.size + 1) (s.size + 1) (out ++ [s.extract f s.size]) := by
  refine ⟨fun h => by omega, fun _ => ?_⟩
  have h2 := h.1 (Nat.le_refl _)
  rw [← h2.1, parts_end (fun j b h1 h3 => h2.2 j b h1 (by simpa using (List.getElem?_eq_some_iff.1 h3).1) h3)]
theorem str_info : (Tryz.prog.info? 9).map (fun i => (i.zero, i.size, i.bytes)) = some (some (.string ⟨#[]⟩), 1, 16) := by kernel_rfl
theorem one_str (w : World) (z : ByteArray) (t : TypeId) : RowIn (w.alloc (.cells #[.string z] t)) (w.heap.size + 1) 1 (some ⟨w.heap.size, 0, none⟩) 1 [.string z] := by
  refine ⟨rfl, Or.inr ⟨w.heap.size, 0, rfl, by omega, fun j u hu => ?_⟩⟩
  rw [(Blk.new w t _).cell]
  rw [← hu, Nat.zero_add]
  simp

theorem ahead_semi (t : ByteArray) : restP ((⟨#[59]⟩ : ByteArray) ++ t) = t := by
  refine ba_ext ?_
  unfold restP
  rw [ba_app]
  have hi : Lib.index ([59] ++ t.data.toList) [59] = 0 := idxc_hit 59 _ 0 rfl (fun j b hj => by omega)
  show (Lib.cut ([59] ++ t.data.toList) [59]).2.1.toArray.toList = _
  unfold Lib.cut
  rw [hi, if_pos (by omega)]
  simp
theorem parts_empty : parts ⟨#[]⟩ = [⟨#[]⟩] := parts_miss (fun j b h => by simp at h)
/-- Of a name the two ways to see a thing's tags say the same. -/
theorem tags_same {x : ByteArray} (hx : x ≠ ⟨#[]⟩) (z : Fz) : memB x (fzT z) = memB x (parts z.tags) := by
  unfold fzT evTags
  rw [ahead_semi]
  by_cases h : z.tags = ⟨#[]⟩
  · rw [if_pos h, h, parts_empty]
    unfold memB
    simp [Ne.symm hx]
  · rw [if_neg h]

set_option maxHeartbeats 4000000 in
set_option maxRecDepth 100000 in
theorem dtags_any (s x : ByteArray) (w : World) (hs : s.size ≤ 900000) :
    Calls Tryz.prog 24 #[.string s, .string x] w (ROf (memB x (parts s)) w) := by
  obtain ⟨i0, hi0, hz0, hz1, hz2⟩ := info_parts str_info
  obtain ⟨w1, hw1⟩ : ∃ w1, w.alloc (.cells #[] 9) = w1 := ⟨_, rfl⟩
  have HO1 : Hid (w1.ownsRow w.heap.size 9 1 (.slice (some ⟨w.heap.size, 0, none⟩) 0 0) 0 []) := Lib.hid (by rw [← hw1]; exact own_empty _ _ _)
  have HB1 : Hid (Below w.heap.size w w1) := Lib.hid (by rw [← hw1]; exact (Below.refl _ _).alloc (Nat.le_refl _) _)
  go_enter Tryz.func24, Tryz.ntmps24
  go_wp2_with fail
  go_loopw [5, 6, 7] (fun v fr i wr => ∃ (k f m c5 : Nat) (A5 : Option Addr) (out : List ByteArray), k ≤ s.size + 1 ∧ f ≤ k ∧ i = .int .i64 k ∧ fr = .int .i64 f ∧ v = .slice A5 m c5 ∧ Hid (out.length = m) ∧ m ≤ k ∧ Hid (wr.ownsRow w.heap.size 9 1 (.slice A5 m c5) m (out.map .string)) ∧ Hid (PartsTo s k f out) ∧ Hid (Below w.heap.size w wr)) (fun _ _ i _ => s.size + 1 - (intOf i).toNat)
  case atStart => exact ⟨0, 0, 0, 0, _, [], Nat.zero_le _, Nat.le_refl _, rfl, rfl, rfl, Lib.hid rfl, Nat.le_refl _, HO1, Lib.hid (PartsTo.start s), HB1⟩
  case round =>
    clear hw1 HO1 HB1
    obtain ⟨k, f, m, c5, A5, out, hk, hfk, rfl, rfl, rfl, hm, hmk, hrow, hpt, hbw⟩ := hrel
    have hwz := hbw.out.size
    have hf8 : (0 : Int) ≤ (f : Int) := by omega
    have hf9 : (f : Int) ≤ (k : Int) := by omega
    have hk8 : (0 : Int) ≤ (k : Int) := by omega
    by_cases hlt : k < s.size
    · have hk9 : (k : Int) < (s.size : Int) := by omega
      have hk7 : (k : Int) ≤ (s.size : Int) := by omega
      have hk6 : ((k : Int) == (s.size : Int)) = false := by rw [Bool.eq_false_iff]; intro e; have := beq_iff_eq.1 e; omega
      by_cases hq : (s[k]'hlt) = 44
      · have HPN := Lib.hid (hpt.out.yes hfk hlt hq)
        have q1 : ((s[k]'hlt).toNat : Int) = 44 := by rw [hq]; rfl
        clear hq
        go_wp2_with (first
          | (at_builtin; refine wpList_append_row _ rfl _ _ 39 rfl w.heap.size 9 i0 _ 1 16 Tryz.underlying39 hi0 hz0 hz1 hz2 rfl (by omega) (.slice A5 m c5) m _ rfl (hrow.out.alloc _) (wr.heap.size + 1) (some ⟨wr.heap.size, 0, none⟩) 1 1 [.string (s.extract f k)] rfl (one_str wr (s.extract f k) _) (fun h => by cases h) (fun u hu => by simp at hu; subst hu; rfl) (by unfold maxLen; omega) (by omega) (by first | omega | (simp; omega)) ?_; intro v7 w7 ho7 hg7 hv7))
        obtain ⟨A7, c7, hr7⟩ := own_shape ho7
        subst hr7
        go_wp2_with fail
        go_roundw
        case rel =>
          refine ⟨k + 1, k + 1, m + 1, c7, A7, out ++ [s.extract f k], by omega, by omega, by go_num, by go_num, rfl, Lib.hid (by rw [List.length_append, hm.out]; rfl), by omega, Lib.hid (by rw [List.map_append]; exact ho7), HPN, Lib.hid ((hbw.out.alloc hwz _).grown hg7 (by first | omega | (simp; omega)) (fun j hj => (hrow.out.lt _ hj).1))⟩
        case measure => simp [intOf]; omega
      · have HPN := Lib.hid (hpt.out.no hlt hq)
        have q1 : (((s[k]'hlt).toNat : Int) == 44) = false := by
          rw [Bool.eq_false_iff]
          intro e
          have := beq_iff_eq.1 e
          exact hq (by apply UInt8.toNat_inj.1; show (s[k]'hlt).toNat = 44; omega)
        clear hq
        go_wp2_with fail
        go_roundw
        case rel => exact ⟨k + 1, f, m, c5, A5, out, by omega, by omega, by go_num, rfl, rfl, hm, by omega, hrow, HPN, hbw⟩
        case measure => simp [intOf]; omega
    · by_cases hke : k = s.size
      · have hk6 : ((k : Int) == (s.size : Int)) = true := beq_iff_eq.2 (by omega)
        have hk7 : (k : Int) ≤ (s.size : Int) := by omega
        have HPN : Hid (PartsTo s (k + 1) (k + 1) (out ++ [s.extract f k])) := Lib.hid (by rw [hke] at hpt ⊢; exact hpt.out.fin)
        clear hke
        go_wp2_with (first
          | (at_builtin; refine wpList_append_row _ rfl _ _ 39 rfl w.heap.size 9 i0 _ 1 16 Tryz.underlying39 hi0 hz0 hz1 hz2 rfl (by omega) (.slice A5 m c5) m _ rfl (hrow.out.alloc _) (wr.heap.size + 1) (some ⟨wr.heap.size, 0, none⟩) 1 1 [.string (s.extract f k)] rfl (one_str wr (s.extract f k) _) (fun h => by cases h) (fun u hu => by simp at hu; subst hu; rfl) (by unfold maxLen; omega) (by omega) (by first | omega | (simp; omega)) ?_; intro v7 w7 ho7 hg7 hv7))
        obtain ⟨A7, c7, hr7⟩ := own_shape ho7
        subst hr7
        go_wp2_with fail
        go_roundw
        case rel =>
          refine ⟨k + 1, k + 1, m + 1, c7, A7, out ++ [s.extract f k], by omega, by omega, by go_num, by go_num, rfl, Lib.hid (by rw [List.length_append, hm.out]; rfl), by omega, Lib.hid (by rw [List.map_append]; exact ho7), HPN, Lib.hid ((hbw.out.alloc hwz _).grown hg7 (by first | omega | (simp; omega)) (fun j hj => (hrow.out.lt _ hj).1))⟩
        case measure => simp [intOf]; omega
      · have HPE : Hid (out = parts s) := Lib.hid (hpt.out.2 (by omega))
        have HRI := Lib.hid (RowIn.of_own hrow.out)
        have hk7 : ¬ (k : Int) ≤ (s.size : Int) := by omega
        obtain ⟨wo, hwo⟩ : ∃ wo, wo = wr := ⟨_, rfl⟩
        subst hwo
        go_wp2_with fail
        go_loopw [8] (fun i w2 => ∃ q : Nat, q ≤ m ∧ i = .int .i64 q ∧ Hid (∀ j t, j < q → out[j]? = some t → t ≠ x) ∧ w2 = wo) (fun i _ => m - (intOf i).toNat)
        case atStart => exact ⟨0, Nat.zero_le _, rfl, Lib.hid (fun j t hj => by omega), rfl⟩
        case round =>
          obtain ⟨q, hq, rfl, hok, rfl⟩ := hrel
          by_cases hlt : q < m
          · obtain ⟨t, ht⟩ : ∃ t, out[q]? = some t := ⟨out[q]'(by rw [hm.out]; exact hlt), List.getElem?_eq_getElem _⟩
            obtain ⟨g, o, hA, _, hc⟩ := HRI.out.at (by omega)
            have e0 : wr.cell? ⟨g, o + q, none⟩ = some (.string t) := hc q _ (by simp [ht])
            subst hA
            have HTK := Lib.hid ht
            have hq8 : (q : Int) < (m : Int) := by omega
            have hq9 : (0 : Int) ≤ (q : Int) := by omega
            clear ht hc
            by_cases he : t = x
            · have HE : Hid (memB x (parts s) = true) := Lib.hid ((memB_iff _ _).2 (by rw [← he, ← HPE.out]; exact List.mem_of_getElem? HTK.out))
              have q1 : (t.toList == x.toList) = true := (beq_list t x).2 he
              clear he
              go_wp2_with fail
              go_ret
              exact ⟨ret_bool HE.out.symm, hbw.out⟩
            · have HE := Lib.hid he
              have q1 : (t.toList == x.toList) = false := Bool.eq_false_iff.2 (fun e => he ((beq_list t x).1 e))
              clear he
              go_wp2_with fail
              go_roundw
              case rel =>
                refine ⟨q + 1, by omega, by go_num, Lib.hid (fun j u hj hu => ?_), by trivial⟩
                by_cases e : j = q
                · subst e; rw [HTK.out] at hu; cases hu; exact HE.out
                · exact hok.out j u (by omega) hu
              case measure => simp [intOf]; omega
          · have HF : Hid (memB x (parts s) = false) := Lib.hid (by
              cases hmm : memB x (parts s)
              · rfl
              · obtain ⟨j, hj⟩ := List.mem_iff_getElem?.1 ((memB_iff _ _).1 hmm)
                rw [← HPE.out] at hj
                have := (List.getElem?_eq_some_iff.1 hj).1
                rw [hm.out] at this
                exact absurd rfl (hok.out j x (by omega) hj))
            have hq8 : ¬ (q : Int) < (m : Int) := by omega
            go_wp2_with fail
            go_ret
            exact ⟨ret_bool HF.out.symm, hbw.out⟩
end Go.Proofs.YtpgbgeofhcpocaaGreatDoor
