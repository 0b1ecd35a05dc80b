/- A part of the joined base. -/
import Derived.Test.YthdmpcnnbminlaaGreatDoorR01
import Derived.Test.YthdmpcnnbminlaaGreatDoorR20
set_option linter.unusedVariables false
set_option maxHeartbeats 8000000
set_option maxRecDepth 100000
namespace Go.Proofs.YthdmpcnnbminlaaGreatDoor.Ru
open Go.RowKit Go.Maps Go.Shelf
theorem dig_byte (n : Nat) : ∀ b ∈ Lib.decDigits n, 48 ≤ b.toNat ∧ b.toNat ≤ 57 := by
 induction n using Nat.strongRecOn with
 | _ n ih =>
  intro b hb
  rw [Lib.decDigits] at hb
  split at hb
  ·rw [List.mem_singleton] at hb
   subst hb
   rw [UInt8.toNat_ofNat_of_lt' (by show _ < 256; omega)]
   omega
  ·rw [List.mem_append, List.mem_singleton] at hb
   rcases hb with hb | hb
   ·exact ih (n / 10) (by omega) b hb
   ·subst hb
    rw [UInt8.toNat_ofNat_of_lt' (by show _ < 256; omega)]
    omega
theorem dig_ne (n : Nat) : Lib.decDigits n ≠ [] := by
 intro h
 have h1 : (Lib.decDigits n).length = 0 := by rw [h]; rfl
 have := Lib.nDigits_pos n
 rw [Lib.decDigits_length] at h1
 omega
theorem nd_le : ∀ (k n : Nat), n < 10 ^ (k + 1) → Lib.nDigits n ≤ k + 1
 | 0, n, h => by rw [Lib.nDigits_small (by omega)]; omega
 | k + 1, n, h => by
  by_cases h1 : n < 10
  ·rw [Lib.nDigits_small h1]; omega
  ·rw [Lib.nDigits_big h1]
   have := nd_le k (n / 10) (by rw [Nat.pow_succ] at h; omega)
   omega
theorem atoi_dig {n : Nat} (h : n ≤ 1099511627776) : Lib.atoiAll (Lib.decDigits n) = .ok (n : Int) := by
 have hl : (Lib.decDigits n).length ≤ 13 := by
  rw [Lib.decDigits_length]
  exact nd_le 12 n (by omega)
 cases hd : Lib.decDigits n with
 | nil => exact absurd hd (dig_ne n)
 | cons c r =>
  have hc := dig_byte n c (by rw [hd]; simp)
  rw [Lib.atoiAll_plain c r (by omega) (by omega)]
  have hm : Lib.parseMag (c :: r) = .ok n := by
   rw [Lib.parseMag_short _ (by rw [← hd]; omega)]
   have : Lib.decNat (c :: r) = some n := by
    unfold Lib.decNat
    rw [← hd, if_neg (by simp [dig_ne n]), dec_dig']
   rw [this]
   rfl
  rw [hm]
  unfold Lib.signless
  simp only
  rw [if_neg (by omega)]
theorem digW_list (n : Nat) : (digW n).data.toList = Lib.decDigits n := by simp [digW]
theorem leaf_any (s : ByteArray) (w : World) (hs : s.size ≤ 3000) (he : ErrAt w) (ht : TabAt w) :
  Calls Tryz.prog 220 #[.string s] w fun e w' => LeafPost s e ∧ Below w.heap.size w w' := by
 by_cases hf : s = followsW
 ·have q1 : (s.toList == [102, 111, 108, 108, 111, 119, 115]) = true := lit_yes hf
  have HYES : Hid (LeafPost s (.returned (.tuple #[.iface 306 (.agg #[.string s]), .bool true]))) := zh (Or.inl ⟨.follows, ⟨trivial, hf⟩, by rw [hf]; rfl⟩)
  clear hf
  go_enter Tryz.func220, Tryz.ntmps220
  go_wp2_with fail
  go_ret2
  exact ⟨HYES.out, Below.refl _ _⟩
 by_cases hd : s = doneW
 ·have q1 : (s.toList == [102, 111, 108, 108, 111, 119, 115]) = false := lit_no hf
  have q2 : (s.toList == [100, 111, 110, 101]) = true := lit_yes hd
  have HYES : Hid (LeafPost s (.returned (.tuple #[.iface 306 (.agg #[.string s]), .bool true]))) := zh (Or.inl ⟨.done, ⟨trivial, hd⟩, by rw [hd]; rfl⟩)
  clear hf hd
  go_enter Tryz.func220, Tryz.ntmps220
  go_wp2_with fail
  go_ret2
  exact ⟨HYES.out, Below.refl _ _⟩
 have q1 : (s.toList == [102, 111, 108, 108, 111, 119, 115]) = false := lit_no hf
 have q2 : (s.toList == [100, 111, 110, 101]) = false := lit_no hd
 have HIA := zh (idxAny_any s ⟨#[58, 60, 62]⟩ w (by decide) (by decide) (by omega) (fun j b h => by
  have := List.mem_of_getElem? h
  simp only [List.mem_cons, List.not_mem_nil, or_false] at this
  rcases this with rfl | rfl | rfl <;> decide))
 rcases indexAny_cases (⟨#[58, 60, 62]⟩ : ByteArray).data.toList s.data.toList with ⟨hq, hall⟩ | ⟨q, x, hq, hall, hqx, hxc⟩
 ·have HNO : Hid (∀ a, ¬ IsLeaf s a) := zh (no_sign (fun j b h => (signs_is b).symm.trans (hall j b h)) hf hd)
  rw [hq] at HIA
  clear hf hd hq hall
  go_enter Tryz.func220, Tryz.ntmps220
  go_wp2_with fail
  refine HIA.out.mono ?_
  rintro e w5 ⟨rfl, hb5⟩
  have HB5 := zh hb5
  clear hb5
  go_wp2_with fail
  go_ret2
  exact ⟨Or.inr ⟨HNO.out, _, rfl⟩, HB5.out⟩
 ·have hlt : q < s.size := by simpa using (List.getElem?_eq_some_iff.1 hqx).1
  obtain ⟨what, hwh⟩ : ∃ z, s.extract 0 q = z := ⟨_, rfl⟩
  obtain ⟨rest, hre⟩ : ∃ z, s.extract (q + 1) s.size = z := ⟨_, rfl⟩
  have hsq : s[q]'hlt = x := by
   rw [Lib.data_getElem? s q hlt] at hqx
   injection hqx
  have HCA : Hid (CutAt s what rest x) := zh (by
   have e1 : what.data.toList = s.data.toList.take q := by rw [← hwh]; simp
   have e2 : rest.data.toList = s.data.toList.drop (q + 1) := by
    rw [← hre]
    simp [List.take_of_length_le]
   refine ⟨?_, fun b hb => ?_, (signs_is x).symm.trans hxc⟩
   ·rw [e1, e2]
    have h1 : s.data.toList.drop q = x :: s.data.toList.drop (q + 1) := by
     rw [List.drop_eq_getElem_cons (by simpa using hlt)]
     have h2 := (List.getElem?_eq_some_iff.1 hqx).2
     rw [h2]
    rw [← h1, List.take_append_drop]
   ·rw [e1] at hb
    obtain ⟨j, hj⟩ := List.mem_iff_getElem?.1 hb
    rw [List.getElem?_take] at hj
    split at hj
    ·rename_i hjq
     exact (signs_is b).symm.trans (hall j b hjq hj)
    ·cases hj)
  have hrz : rest.size ≤ 3000 := by rw [← hre, ByteArray.size_extract]; omega
  have hq8 : (0 : Int) ≤ (q : Int) := by omega
  have hq9 : (q : Int) < (s.size : Int) := by omega
  have hq7 : (q : Int) ≤ (s.size : Int) := by omega
  have hqw : IntKind.i64.wrap ((q : Int) + 1) = (q : Int) + 1 := by rw [IntKind.wrap_i64]; omega
  have hqt : ((q : Int) + 1).toNat = q + 1 := by omega
  have hq6 : (q : Int) + 1 ≤ (s.size : Int) := by omega
  have hqn : ¬ (q : Int) < 0 := by omega
  rw [hq] at HIA
  clear hq hall hqx hxc hf hd
  go_enter Tryz.func220, Tryz.ntmps220
  go_wp2_with fail
  refine HIA.out.mono ?_
  rintro e w5 ⟨rfl, hb5⟩
  have HB5 := zh hb5
  have HB5d : Hid (Below w.heap.size w w5.drew) := zh (Go.Proofs.YthdmpcnnbminlaaGreatDoor.Ru.below_drew hb5)
  clear hb5
  go_wp2_with fail
  refine wp_plan (fun _ => True) [(0, false), (1, false), (2, false), (3, false), (4, false), (5, false), (6, false), (7, false), (8, false), (9, false), (10, false), (11, false), (12, false)] (by kernel_rfl) (by kernel_rfl) trivial ?_
  simp only [planL, List.getElem?_cons_zero, List.getElem?_cons_succ]
  repeat (first | (refine plan_on _ (by rfl) (fun W hW => by (go_simp; try (first | with_reducible rfl | rw [if_neg (by omega)] | rw [if_pos (by omega)]))) ?_; simp only [Act.put, xq1, xq2, xq3]) | (refine plan_off (by rfl) ?_; simp only [Act.put, xq1, xq2, xq3]))
  refine plan_done ?_
  clear hwh hre hsq hq8 hq9 hq7 hqw hqt hq6 hqn HIA
  by_cases hx58 : x = 58
  ·subst hx58
   by_cases htg : what = tagW
   ·have q3 : (what.toList == [116, 97, 103]) = true := lit_yes htg
    cases hnm : nameB rest
    ·have HNO : Hid (∀ a, ¬ IsLeaf s a) := zh (fun a ha => by
      rcases HCA.out.leaf ha with ⟨y, rfl, _, _, e⟩ | ⟨y, rfl, e, _⟩ | ⟨k, less, n, rfl, _, e, _⟩
      ·have h1 : nameB y = true := ha.1
       rw [← e, hnm] at h1
       cases h1
      ·rw [htg] at e; exact absurd e (by decide)
      ·cases less <;> exact absurd e (by decide))
     clear htg
     go_wp2_with fail
     refine (name_any rest w5.drew (by unfold maxLen; omega)).mono ?_
     rintro e _ ⟨rfl, rfl⟩
     go_wp2_with fail
     go_ret2
     exact ⟨Or.inr ⟨HNO.out, _, rfl⟩, HB5d.out⟩
    ·have HYES : Hid (IsLeaf s (.tag rest)) := zh ⟨hnm, ba_ext (by rw [HCA.out.all, htg]; simp [leafT, colonW])⟩
     have HTG := zh htg
     clear htg
     go_wp2_with fail
     refine (name_any rest w5.drew (by unfold maxLen; omega)).mono ?_
     rintro e _ ⟨rfl, rfl⟩
     go_wp2_with fail
     go_ret2
     refine ⟨Or.inl ⟨_, HYES.out, ?_⟩, HB5d.out⟩
     rw [HTG.out]
     rfl
   have q3 : (what.toList == [116, 97, 103]) = false := lit_no htg
   by_cases hmk : what = makerW
   ·have q4 : (what.toList == [109, 97, 107, 101, 114]) = true := lit_yes hmk
    cases hnm : nameB rest
    ·have HNO : Hid (∀ a, ¬ IsLeaf s a) := zh (fun a ha => by
      rcases HCA.out.leaf ha with ⟨y, rfl, e, _⟩ | ⟨y, rfl, _, _, e⟩ | ⟨k, less, n, rfl, _, e, _⟩
      ·exact htg e
      ·have h1 : nameB y = true := ha.1
       rw [← e, hnm] at h1
       cases h1
      ·cases less <;> exact absurd e (by decide))
     clear htg hmk
     go_wp2_with fail
     refine (name_any rest w5.drew (by unfold maxLen; omega)).mono ?_
     rintro e _ ⟨rfl, rfl⟩
     go_wp2_with fail
     go_ret2
     exact ⟨Or.inr ⟨HNO.out, _, rfl⟩, HB5d.out⟩
    ·have HYES : Hid (IsLeaf s (.maker rest)) := zh ⟨hnm, ba_ext (by rw [HCA.out.all, hmk]; simp [leafT, colonW])⟩
     have HMK := zh hmk
     clear htg hmk
     go_wp2_with fail
     refine (name_any rest w5.drew (by unfold maxLen; omega)).mono ?_
     rintro e _ ⟨rfl, rfl⟩
     go_wp2_with fail
     go_ret2
     refine ⟨Or.inl ⟨_, HYES.out, ?_⟩, HB5d.out⟩
     rw [HMK.out]
     rfl
   have q4 : (what.toList == [109, 97, 107, 101, 114]) = false := lit_no hmk
   have HNO : Hid (∀ a, ¬ IsLeaf s a) := zh (fun a ha => by
    rcases HCA.out.leaf ha with ⟨y, rfl, e, _⟩ | ⟨y, rfl, e, _⟩ | ⟨k, less, n, rfl, _, e, _⟩
    ·exact htg e
    ·exact hmk e
    ·cases less <;> exact absurd e (by decide))
   clear htg hmk
   go_wp2_with fail
   go_ret2
   exact ⟨Or.inr ⟨HNO.out, _, rfl⟩, HB5d.out⟩
  ·have hx2 : x = 60 ∨ x = 62 := by
    have := HCA.out.sign
    unfold isS at this
    simp only [Bool.or_eq_true, beq_iff_eq] at this
    rcases this with (h | h) | h
    ·exact absurd h hx58
    ·exact Or.inl h
    ·exact Or.inr h
   have hxn : ((x.toNat : Int) == 58) = false := by
    rw [beq_eq_false_iff_ne]
    exact fun e => hx58 (by apply UInt8.toNat_inj.1; show x.toNat = 58; omega)
   have HNUM : Hid ((∀ n : Nat, n ≤ 1099511627776 → rest ≠ digW n) → ∀ a, ¬ IsLeaf s a) := zh (fun h a ha => by
    rcases HCA.out.leaf ha with ⟨y, rfl, _, e, _⟩ | ⟨y, rfl, _, e, _⟩ | ⟨k, less, n, rfl, _, _, e⟩
    ·exact hx58 e
    ·exact hx58 e
    ·exact h n ha.1.2 e)
   by_cases hw0 : what = whatW 0
   ·have HWK := zh hw0
    have r0 : (what.toList == [112, 114, 105, 99, 101]) = true := lit_yes hw0
    clear hx58 hw0
    have HAT := zh (atoi_any rest w5.drew (by omega) (he.keep HB5d.out))
    go_wp2_with fail
    refine HAT.out.mono ?_
    rintro e w6 ⟨hae, hb6⟩
    have HB6 : Hid (Below w.heap.size w w6) := zh (HB5d.out.trans (hb6.mono HB5d.out.size))
    clear hb6 HAT
    rcases hae with ⟨v, rfl, hr⟩ | ⟨v, t, M, rfl, hr⟩
    ·have HR := zh hr
     by_cases h0 : v < 0
     ·have q0 : decide (v < 0) = true := decide_eq_true h0
      have HNO : Hid (∀ a, ¬ IsLeaf s a) := zh (HNUM.out (fun n hn hr2 => by
       have h1 := hr.2.1 rfl
       rw [hr2, digW_list, atoi_dig hn] at h1
       injection h1 with h1
       omega))
      clear hr h0
      go_wp2_with fail
      go_ret2
      exact ⟨Or.inr ⟨HNO.out, _, rfl⟩, HB6.out⟩
     have q0 : decide (v < 0) = false := decide_eq_false h0
     by_cases h1 : 1099511627776 < v
     ·have q6 : decide (1099511627776 < v) = true := decide_eq_true h1
      have HNO : Hid (∀ a, ¬ IsLeaf s a) := zh (HNUM.out (fun n hn hr2 => by
       have h1' := hr.2.1 rfl
       rw [hr2, digW_list, atoi_dig hn] at h1'
       injection h1' with h1'
       omega))
      clear hr h0 h1
      go_wp2_with fail
      go_ret2
      exact ⟨Or.inr ⟨HNO.out, _, rfl⟩, HB6.out⟩
     have q6 : decide (1099511627776 < v) = false := decide_eq_false h1
     have HIT := zh (itoa_any v (by omega) (by omega) w6 (ht.keep HB6.out))
     obtain ⟨n, rfl⟩ : ∃ n : Nat, v = n := ⟨v.toNat, by omega⟩
     obtain ⟨iw, hiw⟩ : ∃ iw : ByteArray, ⟨(Lib.itoa (n : Int)).toArray⟩ = iw := ⟨_, rfl⟩
     rw [hiw] at HIT
     have hiw2 : iw = digW n := by rw [← hiw, Lib.itoa_nonneg]; rfl
     clear h0 hiw hr
     by_cases heq : iw = rest
     ·have q7 : (iw.toList == rest.toList) = true := by rw [heq]; simp
      have HYES : Hid (IsLeaf s (.num 0 (x == 60) n)) := zh (⟨⟨by omega, by omega⟩, ba_ext (by rw [HCA.out.all, HWK.out, ← heq, hiw2]; rcases hx2 with rfl | rfl <;> simp [leafT, signW, digW])⟩)
      clear heq hiw2 h1
      go_wp2_with fail
      refine HIT.out.mono ?_
      rintro e w7 ⟨rfl, hb7⟩
      have HB7 : Hid (Below w.heap.size w w7) := zh (HB6.out.trans (hb7.mono HB6.out.size))
      clear hb7
      rcases hx2 with rfl | rfl
      ·go_wp2_with fail
       go_ret2
       exact ⟨Or.inl ⟨_, HYES.out, by rw [show leafV (.num 0 _ n) = .iface 310 (.agg #[.string (whatW 0), .bool _, .int .i64 n]) from rfl, ← HWK.out]; rfl⟩, HB7.out⟩
      ·go_wp2_with fail
       go_ret2
       exact ⟨Or.inl ⟨_, HYES.out, by rw [show leafV (.num 0 _ n) = .iface 310 (.agg #[.string (whatW 0), .bool _, .int .i64 n]) from rfl, ← HWK.out]; rfl⟩, HB7.out⟩
     ·have q7 : (iw.toList == rest.toList) = false := by
       rw [beq_eq_false_iff_ne, Lib.toList_data, Lib.toList_data]
       exact fun e => heq (ba_ext e)
      have HNO : Hid (∀ a, ¬ IsLeaf s a) := zh (HNUM.out (fun n' hn hr2 => by
       have h1' := HR.out.2.1 rfl
       rw [hr2, digW_list, atoi_dig hn] at h1'
       injection h1' with h1'
       have : n' = n := by omega
       subst this
       exact heq (hiw2.trans hr2.symm)))
      clear heq hiw2 h1
      go_wp2_with fail
      refine HIT.out.mono ?_
      rintro e w7 ⟨rfl, hb7⟩
      have HB7 : Hid (Below w.heap.size w w7) := zh (HB6.out.trans (hb7.mono HB6.out.size))
      clear hb7
      go_wp2_with fail
      go_ret2
      exact ⟨Or.inr ⟨HNO.out, _, rfl⟩, HB7.out⟩
    ·have HNO : Hid (∀ a, ¬ IsLeaf s a) := zh (HNUM.out (fun n hn hr2 => by
      have h1 := hr.2.2 rfl n
      rw [hr2, digW_list, atoi_dig hn] at h1
      exact h1 rfl))
     clear hr
     go_wp2_with fail
     go_ret2
     exact ⟨Or.inr ⟨HNO.out, _, rfl⟩, HB6.out⟩
   by_cases hw1 : what = whatW 1
   ·have HWK := zh hw1
    have r1 : (what.toList == [115, 116, 111, 99, 107]) = true := lit_yes hw1
    have r0 : (what.toList == [112, 114, 105, 99, 101]) = false := lit_no hw0
    clear hx58 hw0 hw1
    have HAT := zh (atoi_any rest w5.drew (by omega) (he.keep HB5d.out))
    go_wp2_with fail
    refine HAT.out.mono ?_
    rintro e w6 ⟨hae, hb6⟩
    have HB6 : Hid (Below w.heap.size w w6) := zh (HB5d.out.trans (hb6.mono HB5d.out.size))
    clear hb6 HAT
    rcases hae with ⟨v, rfl, hr⟩ | ⟨v, t, M, rfl, hr⟩
    ·have HR := zh hr
     by_cases h0 : v < 0
     ·have q0 : decide (v < 0) = true := decide_eq_true h0
      have HNO : Hid (∀ a, ¬ IsLeaf s a) := zh (HNUM.out (fun n hn hr2 => by
       have h1 := hr.2.1 rfl
       rw [hr2, digW_list, atoi_dig hn] at h1
       injection h1 with h1
       omega))
      clear hr h0
      go_wp2_with fail
      go_ret2
      exact ⟨Or.inr ⟨HNO.out, _, rfl⟩, HB6.out⟩
     have q0 : decide (v < 0) = false := decide_eq_false h0
     by_cases h1 : 1099511627776 < v
     ·have q6 : decide (1099511627776 < v) = true := decide_eq_true h1
      have HNO : Hid (∀ a, ¬ IsLeaf s a) := zh (HNUM.out (fun n hn hr2 => by
       have h1' := hr.2.1 rfl
       rw [hr2, digW_list, atoi_dig hn] at h1'
       injection h1' with h1'
       omega))
      clear hr h0 h1
      go_wp2_with fail
      go_ret2
      exact ⟨Or.inr ⟨HNO.out, _, rfl⟩, HB6.out⟩
     have q6 : decide (1099511627776 < v) = false := decide_eq_false h1
     have HIT := zh (itoa_any v (by omega) (by omega) w6 (ht.keep HB6.out))
     obtain ⟨n, rfl⟩ : ∃ n : Nat, v = n := ⟨v.toNat, by omega⟩
     obtain ⟨iw, hiw⟩ : ∃ iw : ByteArray, ⟨(Lib.itoa (n : Int)).toArray⟩ = iw := ⟨_, rfl⟩
     rw [hiw] at HIT
     have hiw2 : iw = digW n := by rw [← hiw, Lib.itoa_nonneg]; rfl
     clear h0 hiw hr
     by_cases heq : iw = rest
     ·have q7 : (iw.toList == rest.toList) = true := by rw [heq]; simp
      have HYES : Hid (IsLeaf s (.num 1 (x == 60) n)) := zh (⟨⟨by omega, by omega⟩, ba_ext (by rw [HCA.out.all, HWK.out, ← heq, hiw2]; rcases hx2 with rfl | rfl <;> simp [leafT, signW, digW])⟩)
      clear heq hiw2 h1
      go_wp2_with fail
      refine HIT.out.mono ?_
      rintro e w7 ⟨rfl, hb7⟩
      have HB7 : Hid (Below w.heap.size w w7) := zh (HB6.out.trans (hb7.mono HB6.out.size))
      clear hb7
      rcases hx2 with rfl | rfl
      ·go_wp2_with fail
       go_ret2
       exact ⟨Or.inl ⟨_, HYES.out, by rw [show leafV (.num 1 _ n) = .iface 310 (.agg #[.string (whatW 1), .bool _, .int .i64 n]) from rfl, ← HWK.out]; rfl⟩, HB7.out⟩
      ·go_wp2_with fail
       go_ret2
       exact ⟨Or.inl ⟨_, HYES.out, by rw [show leafV (.num 1 _ n) = .iface 310 (.agg #[.string (whatW 1), .bool _, .int .i64 n]) from rfl, ← HWK.out]; rfl⟩, HB7.out⟩
     ·have q7 : (iw.toList == rest.toList) = false := by
       rw [beq_eq_false_iff_ne, Lib.toList_data, Lib.toList_data]
       exact fun e => heq (ba_ext e)
      have HNO : Hid (∀ a, ¬ IsLeaf s a) := zh (HNUM.out (fun n' hn hr2 => by
       have h1' := HR.out.2.1 rfl
       rw [hr2, digW_list, atoi_dig hn] at h1'
       injection h1' with h1'
       have : n' = n := by omega
       subst this
       exact heq (hiw2.trans hr2.symm)))
      clear heq hiw2 h1
      go_wp2_with fail
      refine HIT.out.mono ?_
      rintro e w7 ⟨rfl, hb7⟩
      have HB7 : Hid (Below w.heap.size w w7) := zh (HB6.out.trans (hb7.mono HB6.out.size))
      clear hb7
      go_wp2_with fail
      go_ret2
      exact ⟨Or.inr ⟨HNO.out, _, rfl⟩, HB7.out⟩
    ·have HNO : Hid (∀ a, ¬ IsLeaf s a) := zh (HNUM.out (fun n hn hr2 => by
      have h1 := hr.2.2 rfl n
      rw [hr2, digW_list, atoi_dig hn] at h1
      exact h1 rfl))
     clear hr
     go_wp2_with fail
     go_ret2
     exact ⟨Or.inr ⟨HNO.out, _, rfl⟩, HB6.out⟩
   by_cases hw2 : what = whatW 2
   ·have HWK := zh hw2
    have r2 : (what.toList == [97, 103, 101]) = true := lit_yes hw2
    have r0 : (what.toList == [112, 114, 105, 99, 101]) = false := lit_no hw0
    have r1 : (what.toList == [115, 116, 111, 99, 107]) = false := lit_no hw1
    clear hx58 hw0 hw1 hw2
    have HAT := zh (atoi_any rest w5.drew (by omega) (he.keep HB5d.out))
    go_wp2_with fail
    refine HAT.out.mono ?_
    rintro e w6 ⟨hae, hb6⟩
    have HB6 : Hid (Below w.heap.size w w6) := zh (HB5d.out.trans (hb6.mono HB5d.out.size))
    clear hb6 HAT
    rcases hae with ⟨v, rfl, hr⟩ | ⟨v, t, M, rfl, hr⟩
    ·have HR := zh hr
     by_cases h0 : v < 0
     ·have q0 : decide (v < 0) = true := decide_eq_true h0
      have HNO : Hid (∀ a, ¬ IsLeaf s a) := zh (HNUM.out (fun n hn hr2 => by
       have h1 := hr.2.1 rfl
       rw [hr2, digW_list, atoi_dig hn] at h1
       injection h1 with h1
       omega))
      clear hr h0
      go_wp2_with fail
      go_ret2
      exact ⟨Or.inr ⟨HNO.out, _, rfl⟩, HB6.out⟩
     have q0 : decide (v < 0) = false := decide_eq_false h0
     by_cases h1 : 1099511627776 < v
     ·have q6 : decide (1099511627776 < v) = true := decide_eq_true h1
      have HNO : Hid (∀ a, ¬ IsLeaf s a) := zh (HNUM.out (fun n hn hr2 => by
       have h1' := hr.2.1 rfl
       rw [hr2, digW_list, atoi_dig hn] at h1'
       injection h1' with h1'
       omega))
      clear hr h0 h1
      go_wp2_with fail
      go_ret2
      exact ⟨Or.inr ⟨HNO.out, _, rfl⟩, HB6.out⟩
     have q6 : decide (1099511627776 < v) = false := decide_eq_false h1
     have HIT := zh (itoa_any v (by omega) (by omega) w6 (ht.keep HB6.out))
     obtain ⟨n, rfl⟩ : ∃ n : Nat, v = n := ⟨v.toNat, by omega⟩
     obtain ⟨iw, hiw⟩ : ∃ iw : ByteArray, ⟨(Lib.itoa (n : Int)).toArray⟩ = iw := ⟨_, rfl⟩
     rw [hiw] at HIT
     have hiw2 : iw = digW n := by rw [← hiw, Lib.itoa_nonneg]; rfl
     clear h0 hiw hr
     by_cases heq : iw = rest
     ·have q7 : (iw.toList == rest.toList) = true := by rw [heq]; simp
      have HYES : Hid (IsLeaf s (.num 2 (x == 60) n)) := zh (⟨⟨by omega, by omega⟩, ba_ext (by rw [HCA.out.all, HWK.out, ← heq, hiw2]; rcases hx2 with rfl | rfl <;> simp [leafT, signW, digW])⟩)
      clear heq hiw2 h1
      go_wp2_with fail
      refine HIT.out.mono ?_
      rintro e w7 ⟨rfl, hb7⟩
      have HB7 : Hid (Below w.heap.size w w7) := zh (HB6.out.trans (hb7.mono HB6.out.size))
      clear hb7
      rcases hx2 with rfl | rfl
      ·go_wp2_with fail
       go_ret2
       exact ⟨Or.inl ⟨_, HYES.out, by rw [show leafV (.num 2 _ n) = .iface 310 (.agg #[.string (whatW 2), .bool _, .int .i64 n]) from rfl, ← HWK.out]; rfl⟩, HB7.out⟩
      ·go_wp2_with fail
       go_ret2
       exact ⟨Or.inl ⟨_, HYES.out, by rw [show leafV (.num 2 _ n) = .iface 310 (.agg #[.string (whatW 2), .bool _, .int .i64 n]) from rfl, ← HWK.out]; rfl⟩, HB7.out⟩
     ·have q7 : (iw.toList == rest.toList) = false := by
       rw [beq_eq_false_iff_ne, Lib.toList_data, Lib.toList_data]
       exact fun e => heq (ba_ext e)
      have HNO : Hid (∀ a, ¬ IsLeaf s a) := zh (HNUM.out (fun n' hn hr2 => by
       have h1' := HR.out.2.1 rfl
       rw [hr2, digW_list, atoi_dig hn] at h1'
       injection h1' with h1'
       have : n' = n := by omega
       subst this
       exact heq (hiw2.trans hr2.symm)))
      clear heq hiw2 h1
      go_wp2_with fail
      refine HIT.out.mono ?_
      rintro e w7 ⟨rfl, hb7⟩
      have HB7 : Hid (Below w.heap.size w w7) := zh (HB6.out.trans (hb7.mono HB6.out.size))
      clear hb7
      go_wp2_with fail
      go_ret2
      exact ⟨Or.inr ⟨HNO.out, _, rfl⟩, HB7.out⟩
    ·have HNO : Hid (∀ a, ¬ IsLeaf s a) := zh (HNUM.out (fun n hn hr2 => by
      have h1 := hr.2.2 rfl n
      rw [hr2, digW_list, atoi_dig hn] at h1
      exact h1 rfl))
     clear hr
     go_wp2_with fail
     go_ret2
     exact ⟨Or.inr ⟨HNO.out, _, rfl⟩, HB6.out⟩
   by_cases hw3 : what = whatW 3
   ·have HWK := zh hw3
    have r3 : (what.toList == [102, 97, 110, 115]) = true := lit_yes hw3
    have r0 : (what.toList == [112, 114, 105, 99, 101]) = false := lit_no hw0
    have r1 : (what.toList == [115, 116, 111, 99, 107]) = false := lit_no hw1
    have r2 : (what.toList == [97, 103, 101]) = false := lit_no hw2
    clear hx58 hw0 hw1 hw2 hw3
    have HAT := zh (atoi_any rest w5.drew (by omega) (he.keep HB5d.out))
    go_wp2_with fail
    refine HAT.out.mono ?_
    rintro e w6 ⟨hae, hb6⟩
    have HB6 : Hid (Below w.heap.size w w6) := zh (HB5d.out.trans (hb6.mono HB5d.out.size))
    clear hb6 HAT
    rcases hae with ⟨v, rfl, hr⟩ | ⟨v, t, M, rfl, hr⟩
    ·have HR := zh hr
     by_cases h0 : v < 0
     ·have q0 : decide (v < 0) = true := decide_eq_true h0
      have HNO : Hid (∀ a, ¬ IsLeaf s a) := zh (HNUM.out (fun n hn hr2 => by
       have h1 := hr.2.1 rfl
       rw [hr2, digW_list, atoi_dig hn] at h1
       injection h1 with h1
       omega))
      clear hr h0
      go_wp2_with fail
      go_ret2
      exact ⟨Or.inr ⟨HNO.out, _, rfl⟩, HB6.out⟩
     have q0 : decide (v < 0) = false := decide_eq_false h0
     by_cases h1 : 1099511627776 < v
     ·have q6 : decide (1099511627776 < v) = true := decide_eq_true h1
      have HNO : Hid (∀ a, ¬ IsLeaf s a) := zh (HNUM.out (fun n hn hr2 => by
       have h1' := hr.2.1 rfl
       rw [hr2, digW_list, atoi_dig hn] at h1'
       injection h1' with h1'
       omega))
      clear hr h0 h1
      go_wp2_with fail
      go_ret2
      exact ⟨Or.inr ⟨HNO.out, _, rfl⟩, HB6.out⟩
     have q6 : decide (1099511627776 < v) = false := decide_eq_false h1
     have HIT := zh (itoa_any v (by omega) (by omega) w6 (ht.keep HB6.out))
     obtain ⟨n, rfl⟩ : ∃ n : Nat, v = n := ⟨v.toNat, by omega⟩
     obtain ⟨iw, hiw⟩ : ∃ iw : ByteArray, ⟨(Lib.itoa (n : Int)).toArray⟩ = iw := ⟨_, rfl⟩
     rw [hiw] at HIT
     have hiw2 : iw = digW n := by rw [← hiw, Lib.itoa_nonneg]; rfl
     clear h0 hiw hr
     by_cases heq : iw = rest
     ·have q7 : (iw.toList == rest.toList) = true := by rw [heq]; simp
      have HYES : Hid (IsLeaf s (.num 3 (x == 60) n)) := zh (⟨⟨by omega, by omega⟩, ba_ext (by rw [HCA.out.all, HWK.out, ← heq, hiw2]; rcases hx2 with rfl | rfl <;> simp [leafT, signW, digW])⟩)
      clear heq hiw2 h1
      go_wp2_with fail
      refine HIT.out.mono ?_
      rintro e w7 ⟨rfl, hb7⟩
      have HB7 : Hid (Below w.heap.size w w7) := zh (HB6.out.trans (hb7.mono HB6.out.size))
      clear hb7
      rcases hx2 with rfl | rfl
      ·go_wp2_with fail
       go_ret2
       exact ⟨Or.inl ⟨_, HYES.out, by rw [show leafV (.num 3 _ n) = .iface 310 (.agg #[.string (whatW 3), .bool _, .int .i64 n]) from rfl, ← HWK.out]; rfl⟩, HB7.out⟩
      ·go_wp2_with fail
       go_ret2
       exact ⟨Or.inl ⟨_, HYES.out, by rw [show leafV (.num 3 _ n) = .iface 310 (.agg #[.string (whatW 3), .bool _, .int .i64 n]) from rfl, ← HWK.out]; rfl⟩, HB7.out⟩
     ·have q7 : (iw.toList == rest.toList) = false := by
       rw [beq_eq_false_iff_ne, Lib.toList_data, Lib.toList_data]
       exact fun e => heq (ba_ext e)
      have HNO : Hid (∀ a, ¬ IsLeaf s a) := zh (HNUM.out (fun n' hn hr2 => by
       have h1' := HR.out.2.1 rfl
       rw [hr2, digW_list, atoi_dig hn] at h1'
       injection h1' with h1'
       have : n' = n := by omega
       subst this
       exact heq (hiw2.trans hr2.symm)))
      clear heq hiw2 h1
      go_wp2_with fail
      refine HIT.out.mono ?_
      rintro e w7 ⟨rfl, hb7⟩
      have HB7 : Hid (Below w.heap.size w w7) := zh (HB6.out.trans (hb7.mono HB6.out.size))
      clear hb7
      go_wp2_with fail
      go_ret2
      exact ⟨Or.inr ⟨HNO.out, _, rfl⟩, HB7.out⟩
    ·have HNO : Hid (∀ a, ¬ IsLeaf s a) := zh (HNUM.out (fun n hn hr2 => by
      have h1 := hr.2.2 rfl n
      rw [hr2, digW_list, atoi_dig hn] at h1
      exact h1 rfl))
     clear hr
     go_wp2_with fail
     go_ret2
     exact ⟨Or.inr ⟨HNO.out, _, rfl⟩, HB6.out⟩
   have r0 : (what.toList == [112, 114, 105, 99, 101]) = false := lit_no hw0
   have r1 : (what.toList == [115, 116, 111, 99, 107]) = false := lit_no hw1
   have r2 : (what.toList == [97, 103, 101]) = false := lit_no hw2
   have r3 : (what.toList == [102, 97, 110, 115]) = false := lit_no hw3
   have HNO : Hid (∀ a, ¬ IsLeaf s a) := zh (fun a ha => by
    rcases HCA.out.leaf ha with ⟨y, rfl, _, e, _⟩ | ⟨y, rfl, _, e, _⟩ | ⟨k, less, n, rfl, e, _⟩
    ·exact hx58 e
    ·exact hx58 e
    ·have hk4 : k < 4 := ha.1.1
     rcases (show k = 0 ∨ k = 1 ∨ k = 2 ∨ k = 3 by omega) with rfl | rfl | rfl | rfl
     ·exact hw0 e
     ·exact hw1 e
     ·exact hw2 e
     ·exact hw3 e)
   clear hx58 hw0 hw1 hw2 hw3
   go_wp2_with fail
   go_ret2
   exact ⟨Or.inr ⟨HNO.out, _, rfl⟩, HB5d.out⟩
end Go.Proofs.YthdmpcnnbminlaaGreatDoor.Ru
