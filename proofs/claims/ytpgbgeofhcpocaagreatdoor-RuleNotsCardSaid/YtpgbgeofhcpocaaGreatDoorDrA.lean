/- The document of rules: Atom. -/
import Derived.Test.YtpgbgeofhcpocaaGreatDoorDrN
namespace Go.Proofs.YtpgbgeofhcpocaaGreatDoor
open Go.RowKit Go.Maps Go.Shelf
set_option linter.unusedVariables false

def AtomIs (s : ByteArray) (b : Bool) : Prop := b = true ↔ ∃ a, IsLeaf s a
theorem atom_tag {s y : ByteArray} (h : s.data.toList = [116, 97, 103, 58] ++ y.data.toList) : AtomIs s (nameB y) := by
  have hs : s = leafT (.tag y) := ba_ext (by rw [h]; simp [leafT, tagW, colonW])
  refine ⟨fun hn => ⟨.tag y, hn, hs⟩, fun ⟨a, ha⟩ => ?_⟩
  have hc : CutAt s tagW y 58 := ⟨by rw [h]; rfl, by decide, by decide⟩
  rcases hc.leaf ha with ⟨z, rfl, _, _, e⟩ | ⟨z, rfl, e, _⟩ | ⟨k, less, n, rfl, e, e2, _⟩
  · rw [e]; exact ha.1
  · exact absurd e (by decide)
  · cases less <;> exact absurd e2 (by decide)
theorem atom_maker {s y : ByteArray} (h : s.data.toList = [109, 97, 107, 101, 114, 58] ++ y.data.toList) : AtomIs s (nameB y) := by
  have hs : s = leafT (.maker y) := ba_ext (by rw [h]; simp [leafT, makerW, colonW])
  refine ⟨fun hn => ⟨.maker y, hn, hs⟩, fun ⟨a, ha⟩ => ?_⟩
  have hc : CutAt s makerW y 58 := ⟨by rw [h]; rfl, by decide, by decide⟩
  rcases hc.leaf ha with ⟨z, rfl, e, _⟩ | ⟨z, rfl, _, _, e⟩ | ⟨k, less, n, rfl, e, e2, _⟩
  · exact absurd e (by decide)
  · rw [e]; exact ha.1
  · cases less <;> exact absurd e2 (by decide)
theorem name_pos {x : ByteArray} (h : nameB x = true) : 1 ≤ x.size := by
  rcases Nat.lt_or_ge x.size 1 with h1 | h1
  · rw [name_len (s := x) (by omega)] at h; cases h
  · exact h1
/-- What is neither of the first words: a number's. -/
structure Rest (s : ByteArray) : Prop where
  f : s ≠ followsW
  d : s ≠ doneW
  t : ¬ (4 < s.size ∧ s.extract 0 4 = ⟨#[116, 97, 103, 58]⟩)
  m : ¬ (6 < s.size ∧ s.extract 0 6 = ⟨#[109, 97, 107, 101, 114, 58]⟩)
theorem Rest.num {s : ByteArray} (h : Rest s) {a : Leaf} (ha : IsLeaf s a) : ∃ k less n, a = .num k less n := by
  cases a with
  | follows => exact absurd ha.2 h.f
  | done => exact absurd ha.2 h.d
  | tag x =>
    have h1 := name_pos ha.1
    have e := ha.2
    refine absurd ⟨?_, ?_⟩ h.t
    · rw [e]; simp only [leafT, ByteArray.size_append]; show 4 < 3 + 1 + x.size; omega
    · refine ba_ext ?_
      rw [e]
      simp [leafT, tagW, colonW]
  | maker x =>
    have h1 := name_pos ha.1
    have e := ha.2
    refine absurd ⟨?_, ?_⟩ h.m
    · rw [e]; simp only [leafT, ByteArray.size_append]; show 6 < 5 + 1 + x.size; omega
    · refine ba_ext ?_
      rw [e]
      simp [leafT, makerW, colonW]
  | num k less n => exact ⟨k, less, n, rfl⟩
theorem what_free (k : Nat) : ∀ x ∈ (whatW k).data.toList, x ≠ 60 ∧ x ≠ 62 := by
  rcases what_cases k with ⟨e, _⟩ | ⟨e, _⟩ | ⟨e, _⟩ | ⟨e, _⟩ <;> rw [e] <;> decide
theorem split_one {L p r l t : List UInt8} {c g : UInt8} (h : L = p ++ c :: r) (hp : ∀ b ∈ p, b ≠ 60 ∧ b ≠ 62) (hc : c = 60 ∨ c = 62) (h2 : L = l ++ g :: t) (hl : ∀ b ∈ l, b ≠ 60 ∧ b ≠ 62) (hg : g = 60 ∨ g = 62) : l = p ∧ g = c ∧ t = r := by
  rw [h] at h2
  rcases Nat.lt_trichotomy p.length l.length with h1 | h1 | h1
  · exfalso
    have e : l[p.length]? = some c := by
      have := congrArg (fun z => z[p.length]?) h2
      simp only [List.getElem?_append_right (Nat.le_refl _), Nat.sub_self, List.getElem?_cons_zero] at this
      rw [List.getElem?_append_left h1] at this
      exact this.symm
    have := hl c (List.mem_of_getElem? e)
    rcases hc with h | h
    · exact this.1 h
    · exact this.2 h
  · obtain ⟨e1, e2⟩ := List.append_inj h2 h1
    injection e2 with e3 e4
    exact ⟨e1.symm, e3.symm, e4.symm⟩
  · exfalso
    have e : p[l.length]? = some g := by
      have := congrArg (fun z => z[l.length]?) h2
      simp only [List.getElem?_append_right (Nat.le_refl _), Nat.sub_self, List.getElem?_cons_zero] at this
      rw [List.getElem?_append_left h1] at this
      exact this
    have := hp g (List.mem_of_getElem? e)
    rcases hg with h | h
    · exact this.1 h
    · exact this.2 h
theorem num_parts {s : ByteArray} {k n : Nat} {less : Bool} (ha : IsLeaf s (.num k less n)) : s.data.toList = (whatW k).data.toList ++ (if less then 60 else 62) :: Lib.decDigits n := by
  rw [ha.2]
  cases less <;> simp [leafT, signW, digW]
theorem Rest.none {s r : ByteArray} (h : Rest s) (hs : SplitIs s s r 0) (hr : r = ⟨#[]⟩) : AtomIs s false := by
  refine ⟨fun e => by (cases e), fun ⟨a, ha⟩ => ?_⟩
  obtain ⟨k, less, n, rfl⟩ := h.num ha
  have e := num_parts ha
  rcases hs with ⟨_, _, _, hf⟩ | ⟨_, _, hg⟩
  · have := hf (if less then 60 else 62) (by rw [e]; simp)
    cases less
    · exact absurd rfl this.2
    · exact absurd rfl this.1
  · rcases hg with hg | hg <;> exact absurd hg (by decide)
theorem Rest.cut {s l r : ByteArray} {g : UInt8} (h : Rest s) (h1 : s.data.toList = l.data.toList ++ g :: r.data.toList) (h2 : ∀ x ∈ l.data.toList, x ≠ 60 ∧ x ≠ 62) (h3 : g = 60 ∨ g = 62) {a : Leaf} (ha : IsLeaf s a) : ∃ k n, k < 4 ∧ l = whatW k ∧ n ≤ 1099511627776 ∧ r.data.toList = Lib.decDigits n := by
  obtain ⟨k, less, n, rfl⟩ := h.num ha
  have e := num_parts ha
  obtain ⟨e1, e2, e3⟩ := split_one e (what_free k) (by cases less; exact Or.inr rfl; exact Or.inl rfl) h1 h2 h3
  exact ⟨k, n, ha.1.1, ba_ext e1, ha.1.2, e3⟩
theorem Rest.no {s l r : ByteArray} {g : UInt8} (h : Rest s) (h1 : s.data.toList = l.data.toList ++ g :: r.data.toList) (h2 : ∀ x ∈ l.data.toList, x ≠ 60 ∧ x ≠ 62) (h3 : g = 60 ∨ g = 62) (hn : ∀ k, k < 4 → l ≠ whatW k) : AtomIs s false := by
  refine ⟨fun e => by (cases e), fun ⟨a, ha⟩ => ?_⟩
  obtain ⟨k, n, hk, e, _⟩ := h.cut h1 h2 h3 ha
  exact absurd e (hn k hk)
theorem Rest.yes {s l r : ByteArray} {g : UInt8} (h : Rest s) (h1 : s.data.toList = l.data.toList ++ g :: r.data.toList) (h2 : ∀ x ∈ l.data.toList, x ≠ 60 ∧ x ≠ 62) (h3 : g = 60 ∨ g = 62) {k : Nat} (hk : k < 4) (hl : l = whatW k) {i : Int} (hi : NumIs r i) : AtomIs s (decide (0 ≤ i)) := by
  refine ⟨fun e => ?_, fun ⟨a, ha⟩ => ?_⟩
  · have hi0 := of_decide_eq_true e
    rcases hi with ⟨rfl, _⟩ | ⟨n, rfl, hn, e2⟩
    · exact absurd hi0 (by decide)
    · refine ⟨.num k (decide (g = 60)) n, ⟨hk, hn⟩, ba_ext ?_⟩
      rw [h1, hl, e2]
      rcases h3 with rfl | rfl <;> simp [leafT, signW, digW]
  · obtain ⟨k, n, hk, e, hn, e2⟩ := h.cut h1 h2 h3 ha
    rcases hi with ⟨rfl, hf⟩ | ⟨m, rfl, _, _⟩
    · exact absurd e2 (hf n hn)
    · exact decide_eq_true (by omega)
theorem ext_head {s : ByteArray} {n : Nat} {p : ByteArray} (h : s.extract 0 n = p) : s.data.toList = p.data.toList ++ (s.extract n s.size).data.toList := by
  have e1 : (s.extract 0 n).data.toList = s.data.toList.take n := by simp
  have e2 : (s.extract n s.size).data.toList = s.data.toList.drop n := by simp [List.take_of_length_le]
  rw [← h, e1, e2, List.take_append_drop]

set_option maxHeartbeats 4000000 in
set_option maxRecDepth 100000 in
theorem atom_rest (s : ByteArray) (w : World) (hs : s.size ≤ 100000) (h : Rest s) : Calls Tryz.prog 44 #[.string s] w fun e w' => ∃ b, e = .returned (.bool b) ∧ AtomIs s b ∧ Below w.heap.size w w' := by
  have q1 : (s.toList == [102, 111, 108, 108, 111, 119, 115]) = false := lit_no h.f
  have q2 : (s.toList == [100, 111, 110, 101]) = false := lit_no h.d
  have HSP := Lib.hid (split_any s w (by omega))
  have HR := Lib.hid h
  have b1 : ((4 : Int) < (s.size : Int) ∧ ((s.extract 0 4).toList == [116, 97, 103, 58]) = false) ∨ ¬ (4 : Int) < (s.size : Int) := by
    by_cases hz : 4 < s.size
    · exact Or.inl ⟨by omega, lit_no (fun e => h.t ⟨hz, e⟩)⟩
    · exact Or.inr (by omega)
  have b2 : ((6 : Int) < (s.size : Int) ∧ ((s.extract 0 6).toList == [109, 97, 107, 101, 114, 58]) = false) ∨ ¬ (6 : Int) < (s.size : Int) := by
    by_cases hz : 6 < s.size
    · exact Or.inl ⟨by omega, lit_no (fun e => h.m ⟨hz, e⟩)⟩
    · exact Or.inr (by omega)
  clear h
  go_enter Tryz.func44, Tryz.ntmps44
  rcases b1 with ⟨z4, l4⟩ | z4
  all_goals rcases b2 with ⟨z6, l6⟩ | z6
  all_goals try (exfalso; omega)
  all_goals
    go_upto_region 7 with fail
    go_wp2_with fail
    refine HSP.out.mono ?_
    rintro e w3 ⟨⟨l, r, g, rfl, hsp, hlz, hrz⟩, hb3⟩
    have HB3 := Lib.hid hb3
    have HSI := Lib.hid hsp
    clear hsp hb3 HSP
    by_cases hg : g = 0
    · have g0 : g.toNat = 0 := by rw [hg]; rfl
      have HNO : Hid (AtomIs s false) := Lib.hid (by
        rcases HSI.out with ⟨_, rfl, h2, h3⟩ | ⟨_, _, h3⟩
        · exact HR.out.none (Or.inl ⟨rfl, rfl, h2, h3⟩) h2
        · rcases h3 with h3 | h3 <;> (rw [hg] at h3; exact absurd h3 (by decide)))
      clear hg
      go_wp2_with fail
      go_ret
      exact ⟨false, rfl, HNO.out, HB3.out⟩
    have g0 : ¬ g.toNat = 0 := fun e => hg (by apply UInt8.toNat_inj.1; show g.toNat = 0; omega)
    have HCUT : Hid (s.data.toList = l.data.toList ++ g :: r.data.toList ∧ (∀ x ∈ l.data.toList, x ≠ 60 ∧ x ≠ 62) ∧ (g = 60 ∨ g = 62)) := Lib.hid (HSI.out.resolve_left (fun h => hg h.1))
    have HNUM := Lib.hid (rnum_any r w3 (by omega))
    have GB : Hid (((g.toNat : Int) != 0) = true) := Lib.hid (bne_iff_ne.2 (fun e => g0 (by omega)))
    clear hg
    by_cases hw0 : l = whatW 0
    · have r0 : (l.toList == [112, 114, 105, 99, 101]) = true := lit_yes hw0
      have HYES : Hid (∀ i, NumIs r i → AtomIs s (decide (0 ≤ i))) := Lib.hid (fun i hi => HR.out.yes HCUT.out.1 HCUT.out.2.1 HCUT.out.2.2 (k := 0) (by omega) hw0 hi)
      clear hw0
      go_wp2_with fail
      refine HNUM.out.mono ?_
      rintro e w4 ⟨i, rfl, hi, rfl⟩
      have HX := Lib.hid (HYES.out i hi)
      clear hi
      by_cases hi0 : 0 ≤ i
      · have i0 : decide (0 ≤ i) = true := decide_eq_true hi0
        rw [i0] at HX
        go_wp2_with fail
        go_ret
        exact ⟨true, ret_bool GB.out, HX.out, HB3.out⟩
      · have i0 : decide (0 ≤ i) = false := decide_eq_false hi0
        rw [i0] at HX
        go_wp2_with fail
        go_ret
        exact ⟨false, rfl, HX.out, HB3.out⟩
    have r0 : (l.toList == [112, 114, 105, 99, 101]) = false := lit_no hw0
    by_cases hw1 : l = whatW 1
    · have r1 : (l.toList == [115, 116, 111, 99, 107]) = true := lit_yes hw1
      have HYES : Hid (∀ i, NumIs r i → AtomIs s (decide (0 ≤ i))) := Lib.hid (fun i hi => HR.out.yes HCUT.out.1 HCUT.out.2.1 HCUT.out.2.2 (k := 1) (by omega) hw1 hi)
      clear hw0 hw1
      go_wp2_with fail
      refine HNUM.out.mono ?_
      rintro e w4 ⟨i, rfl, hi, rfl⟩
      have HX := Lib.hid (HYES.out i hi)
      clear hi
      by_cases hi0 : 0 ≤ i
      · have i0 : decide (0 ≤ i) = true := decide_eq_true hi0
        rw [i0] at HX
        go_wp2_with fail
        go_ret
        exact ⟨true, ret_bool GB.out, HX.out, HB3.out⟩
      · have i0 : decide (0 ≤ i) = false := decide_eq_false hi0
        rw [i0] at HX
        go_wp2_with fail
        go_ret
        exact ⟨false, rfl, HX.out, HB3.out⟩
    have r1 : (l.toList == [115, 116, 111, 99, 107]) = false := lit_no hw1
    by_cases hw2 : l = whatW 2
    · have r2 : (l.toList == [97, 103, 101]) = true := lit_yes hw2
      have HYES : Hid (∀ i, NumIs r i → AtomIs s (decide (0 ≤ i))) := Lib.hid (fun i hi => HR.out.yes HCUT.out.1 HCUT.out.2.1 HCUT.out.2.2 (k := 2) (by omega) hw2 hi)
      clear hw0 hw1 hw2
      go_wp2_with fail
      refine HNUM.out.mono ?_
      rintro e w4 ⟨i, rfl, hi, rfl⟩
      have HX := Lib.hid (HYES.out i hi)
      clear hi
      by_cases hi0 : 0 ≤ i
      · have i0 : decide (0 ≤ i) = true := decide_eq_true hi0
        rw [i0] at HX
        go_wp2_with fail
        go_ret
        exact ⟨true, ret_bool GB.out, HX.out, HB3.out⟩
      · have i0 : decide (0 ≤ i) = false := decide_eq_false hi0
        rw [i0] at HX
        go_wp2_with fail
        go_ret
        exact ⟨false, rfl, HX.out, HB3.out⟩
    have r2 : (l.toList == [97, 103, 101]) = false := lit_no hw2
    by_cases hw3 : l = whatW 3
    · have r3 : (l.toList == [102, 97, 110, 115]) = true := lit_yes hw3
      have HYES : Hid (∀ i, NumIs r i → AtomIs s (decide (0 ≤ i))) := Lib.hid (fun i hi => HR.out.yes HCUT.out.1 HCUT.out.2.1 HCUT.out.2.2 (k := 3) (by omega) hw3 hi)
      clear hw0 hw1 hw2 hw3
      go_wp2_with fail
      refine HNUM.out.mono ?_
      rintro e w4 ⟨i, rfl, hi, rfl⟩
      have HX := Lib.hid (HYES.out i hi)
      clear hi
      by_cases hi0 : 0 ≤ i
      · have i0 : decide (0 ≤ i) = true := decide_eq_true hi0
        rw [i0] at HX
        go_wp2_with fail
        go_ret
        exact ⟨true, ret_bool GB.out, HX.out, HB3.out⟩
      · have i0 : decide (0 ≤ i) = false := decide_eq_false hi0
        rw [i0] at HX
        go_wp2_with fail
        go_ret
        exact ⟨false, rfl, HX.out, HB3.out⟩
    have r3 : (l.toList == [102, 97, 110, 115]) = false := lit_no hw3
    have HNO : Hid (AtomIs s false) := Lib.hid (HR.out.no HCUT.out.1 HCUT.out.2.1 HCUT.out.2.2 (fun k hk => by
      rcases (show k = 0 ∨ k = 1 ∨ k = 2 ∨ k = 3 by omega) with rfl | rfl | rfl | rfl
      · exact hw0
      · exact hw1
      · exact hw2
      · exact hw3))
    clear hw0 hw1 hw2 hw3
    go_wp2_with fail
    go_ret
    exact ⟨false, rfl, HNO.out, HB3.out⟩
set_option maxHeartbeats 4000000 in
set_option maxRecDepth 100000 in
theorem atom_any (s : ByteArray) (w : World) (hs : s.size ≤ 100000) : Calls Tryz.prog 44 #[.string s] w fun e w' => ∃ b, e = .returned (.bool b) ∧ AtomIs s b ∧ Below w.heap.size w w' := by
  by_cases hf : s = followsW
  · have q1 : (s.toList == [102, 111, 108, 108, 111, 119, 115]) = true := lit_yes hf
    have HX : Hid (AtomIs s true) := Lib.hid ⟨fun _ => ⟨.follows, trivial, hf⟩, fun _ => rfl⟩
    clear hf
    go_enter Tryz.func44, Tryz.ntmps44
    go_wp2_with fail
    go_ret
    exact ⟨true, rfl, HX.out, Below.refl _ _⟩
  by_cases hd : s = doneW
  · have q1 : (s.toList == [102, 111, 108, 108, 111, 119, 115]) = false := lit_no hf
    have q2 : (s.toList == [100, 111, 110, 101]) = true := lit_yes hd
    have HX : Hid (AtomIs s true) := Lib.hid ⟨fun _ => ⟨.done, trivial, hd⟩, fun _ => rfl⟩
    clear hf hd
    go_enter Tryz.func44, Tryz.ntmps44
    go_wp2_with fail
    go_ret
    exact ⟨true, rfl, HX.out, Below.refl _ _⟩
  by_cases ht : 4 < s.size ∧ s.extract 0 4 = ⟨#[116, 97, 103, 58]⟩
  · have q1 : (s.toList == [102, 111, 108, 108, 111, 119, 115]) = false := lit_no hf
    have q2 : (s.toList == [100, 111, 110, 101]) = false := lit_no hd
    have z4 : (4 : Int) < (s.size : Int) := by omega
    have z5 : (4 : Int) ≤ (s.size : Int) := by omega
    have q3 : ((s.extract 0 4).toList == [116, 97, 103, 58]) = true := lit_yes ht.2
    have HX : Hid (AtomIs s (nameB (s.extract 4 s.size))) := Lib.hid (atom_tag (ext_head ht.2))
    have HN := Lib.hid (dname_any (s.extract 4 s.size) w (by rw [ByteArray.size_extract]; omega))
    clear hf hd ht
    go_enter Tryz.func44, Tryz.ntmps44
    go_wp2_with fail
    refine HN.out.mono ?_
    rintro e w3 ⟨rfl, rfl⟩
    go_wp2_with fail
    go_ret
    exact ⟨_, rfl, HX.out, Below.refl _ _⟩
  by_cases hm : 6 < s.size ∧ s.extract 0 6 = ⟨#[109, 97, 107, 101, 114, 58]⟩
  · have q1 : (s.toList == [102, 111, 108, 108, 111, 119, 115]) = false := lit_no hf
    have q2 : (s.toList == [100, 111, 110, 101]) = false := lit_no hd
    have z4 : (4 : Int) < (s.size : Int) := by omega
    have z5 : (4 : Int) ≤ (s.size : Int) := by omega
    have z6 : (6 : Int) < (s.size : Int) := by omega
    have z7 : (6 : Int) ≤ (s.size : Int) := by omega
    have q3 : ((s.extract 0 4).toList == [116, 97, 103, 58]) = false := lit_no (fun e => ht ⟨by omega, e⟩)
    have q4 : ((s.extract 0 6).toList == [109, 97, 107, 101, 114, 58]) = true := lit_yes hm.2
    have HX : Hid (AtomIs s (nameB (s.extract 6 s.size))) := Lib.hid (atom_maker (ext_head hm.2))
    have HN := Lib.hid (dname_any (s.extract 6 s.size) w (by rw [ByteArray.size_extract]; omega))
    clear hf hd ht hm
    go_enter Tryz.func44, Tryz.ntmps44
    go_wp2_with fail
    refine HN.out.mono ?_
    rintro e w3 ⟨rfl, rfl⟩
    go_wp2_with fail
    go_ret
    exact ⟨_, rfl, HX.out, Below.refl _ _⟩
  exact atom_rest s w hs ⟨hf, hd, ht, hm⟩
end Go.Proofs.YtpgbgeofhcpocaaGreatDoor
