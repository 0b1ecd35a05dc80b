/- rule.All of two rules. -/
import Derived.Test.YthdmpcnnbminlaaGreatDoorFlN
namespace Go.Proofs.YthdmpcnnbminlaaGreatDoor
open Go.Shelf Go.RowKit Go.Maps
open Ru (Fz fzA fzX Fx Nd NF NdAt holdsN holdsR ownN mkRow parts' nodeOf Okv PartsOk RowV RuleV ruleT Flat rowT)
set_option linter.unusedVariables false
structure NsIs (w : World) (B : Nat) (Rs : List (Option (Option Nd))) (ns : List Nd) (vs : List Value) : Prop where
 len : ns.length = vs.length
 nf : ∀ n ∈ ns, NF n ∧ (ownN n 0).length ≤ 4000
 nd : ∀ (i : Nat) n v, ns[i]? = some n → vs[i]? = some v → NdAt w B n v
 one : ∀ u ∈ vs, u.oneCell' = true
 ok : ∀ z, ns.all (holdsN (fzX z)) = Rs.all fun R => okP R z
theorem NsIs.skip {w : World} {B : Nat} {Rs : List (Option (Option Nd))} {ns : List Nd} {vs : List Value} (h : NsIs w B Rs ns vs) {R : Option (Option Nd)} (hR : ∀ z, okP R z = true) : NsIs w B (Rs ++ [R]) ns vs :=
 ⟨h.len, h.nf, h.nd, h.one, fun z => by rw [h.ok, List.all_append]; simp [hR z]⟩
theorem NsIs.node {w : World} {B : Nat} {Rs : List (Option (Option Nd))} {ns : List Nd} {vs : List Value} (h : NsIs w B Rs ns vs) {n : Nd} {u : Value} (hn : NF n) (hs : (ownN n 0).length ≤ 4000) (hu : NdAt w B n u) (h1 : u.oneCell' = true) : NsIs w B (Rs ++ [some (some n)]) (ns ++ [n]) (vs ++ [u]) := by
 refine ⟨by simp [h.len], fun m hm => ?_, fun i m v hm hv => ?_, fun x hx => ?_, fun z => ?_⟩
 ·rcases List.mem_append.1 hm with hm | hm
  ·exact h.nf m hm
  ·obtain rfl : m = n := by simpa using hm
   exact ⟨hn, hs⟩
 ·rcases Nat.lt_or_ge i ns.length with hi | hi
  ·rw [List.getElem?_append_left hi] at hm
   rw [List.getElem?_append_left (by rw [← h.len]; exact hi)] at hv
   exact h.nd i m v hm hv
  ·rw [List.getElem?_append_right hi] at hm
   rw [List.getElem?_append_right (by rw [← h.len]; exact hi), ← h.len] at hv
   have h0 : i - ns.length = 0 := by
    rcases Nat.eq_zero_or_pos (i - ns.length) with h2 | h2
    ·exact h2
    ·rw [List.getElem?_eq_none (by simp; omega)] at hm; cases hm
   rw [h0] at hm hv
   obtain rfl : n = m := by simpa using hm
   obtain rfl : u = v := by simpa using hv
   exact hu
 ·rcases List.mem_append.1 hx with hx | hx
  ·exact h.one x hx
  ·obtain rfl : x = u := by simpa using hx
   exact h1
 ·rw [List.all_append, h.ok, List.all_append]
  simp [okP, holdsR]
theorem parts_all {w : World} {B : Nat} (vs : List Value) (h : ∀ (i : Nat) v, vs[i]? = some v → Okv w B 4001 v) : PartsOk w B vs (vs.length * 4001) := by
 revert h
 refine snocI (p := fun vs => (∀ (i : Nat) v, vs[i]? = some v → Okv w B 4001 v) → PartsOk w B vs (vs.length * 4001)) (fun _ => ?_) (fun l a ih h => ?_) vs
 ·exact .nil
 ·have h1 := ih (fun i v hv => h i v (by
   have := (List.getElem?_eq_some_iff.1 hv).1
   rw [List.getElem?_append_left this]; exact hv))
  have h2 := h l.length a (by simp)
  have := PartsOk.snoc h1 h2
  rw [show (l ++ [a]).length * 4001 = l.length * 4001 + 4001 by simp [Nat.add_mul]]
  exact this
theorem NsIs.parts {w W : World} {B : Nat} {Rs : List (Option (Option Nd))} {ns : List Nd} {vs : List Value} (h : NsIs w B Rs ns vs) (hb : Below w.heap.size w W) : PartsOk W B vs (vs.length * 4001) :=
 parts_all vs (fun i v hv => by
  have hl := (List.getElem?_eq_some_iff.1 hv).1
  obtain ⟨n, hn⟩ : ∃ n, ns[i]? = some n := ⟨_, List.getElem?_eq_getElem (by rw [h.len]; exact hl)⟩
  have hm := h.nf n (List.mem_of_getElem? hn)
  exact okv_nd ((h.nd i n v hn hv).under hb) hm.1 hm.2)
theorem NsIs.all {w W W' : World} {B : Nat} {Rs : List (Option (Option Nd))} {ns : List Nd} {vs us : List Value} {v : Value} (h : NsIs w B Rs ns vs) (hb : Below w.heap.size w W) (hb' : Below W.heap.size W W') (hf : Flat W B 1 vs us) (hv : us = [v] ∨ (2 ≤ us.length ∧ ∃ A' c', v = .iface (rowT 1) (.agg #[.slice A' us.length c']) ∧ RowV W' B A' us.length c' us)) : NdAt W' B (nodeOf 1 ns) v := by
 obtain ⟨f1, f2⟩ := hf.nodes (by omega) h.len (fun n hn => (h.nf n hn).1) (fun i n u hn hu => (h.nd i n u hn hu).under hb)
 have e : nodeOf 1 ns = mkRow 1 (ns.flatMap (parts' 1)) := if_pos (by omega)
 rw [e]
 generalize ns.flatMap (parts' 1) = l at f1 f2
 rcases hv with rfl | ⟨h2, A', c', rfl, hr⟩
 ·obtain ⟨n, rfl⟩ : ∃ n, l = [n] := List.length_eq_one_iff.1 f1
  exact (f2 0 n v rfl rfl).under hb'
 ·have hm : mkRow 1 l = .row 1 l := by
   match l, f1 with
   | [], h3 => rfl
   | [n], h3 => simp at h3; omega
   | a :: b :: r, _ => rfl
  rw [hm]
  exact .row hr f1 (fun i n u hn hu => (f2 i n u hn hu).under hb')
theorem rowv_own {W : World} {base B m c : Nat} {A : Option Addr} {vs : List Value} (h : W.ownsRow base 119 1 (.slice A m c) m vs) (hl : vs.length = m) (hB : B ≤ base) (h1 : ∀ u ∈ vs, u.oneCell' = true) : RowV W B A m c vs := by
 refine ⟨RowIn.of_own h, hl, fun g o e => ?_, fun e => ?_, h1⟩
 ·subst e
  exact Nat.le_trans hB (h.lt g rfl).1
 ·subst e
  rcases h.2 with ⟨h2, _⟩ | ⟨g, cap, cur, h2, _⟩
  ·injection h2
  ·cases h2
theorem rule_size {ns : List Nd} (hn : ∀ n ∈ ns, (ownN n 0).length ≤ 4000) (hl : ns.length ≤ 2) : (ruleT (some (nodeOf 1 ns))).size ≤ 1000000 := by
 have e : nodeOf 1 ns = mkRow 1 (ns.flatMap (parts' 1)) := if_pos (by omega)
 show (Ru.ownB (nodeOf 1 ns) 0).size ≤ 1000000
 rw [Ru.ownB_size, e]
 have h1 := mkRow_size (ns.flatMap (parts' 1))
 have h2 := sumP_flat ns hn
 have : ns.length * 4007 ≤ 2 * 4007 := Nat.mul_le_mul_right _ hl
 omega
def AllR (w : World) (Rs : List (Option (Option Nd))) (e : Ending) (w' : World) : Prop := ∃ g, e = .returned (.pointer (some ⟨g, 0, none⟩)) ∧ RuleH w' (.pointer (some ⟨g, 0, none⟩)) (fun z => Rs.all fun R => okP R z) ∧ Below w.heap.size w w'
set_option maxHeartbeats 4000000 in
set_option maxRecDepth 100000 in
theorem all_any (w : World) (B g : Nat) (Rs : List (Option (Option Nd))) (qs : List (Option Addr)) (hl : Rs.length = 2) (hlq : qs.length = 2) (hr : ∀ (i : Nat) R q, Rs[i]? = some R → qs[i]? = some q → RlIs w B R q) (hg : GlobAt w) (hrow : ∀ (i : Nat) q, qs[i]? = some q → w.cell? ⟨g, i, none⟩ = some (.pointer q)) (hgl : g < w.heap.size) (hB : B ≤ w.heap.size) :
  Calls Tryz.prog 29 #[.slice (some ⟨g, 0, none⟩) 2 2] w (AllR w Rs) := by
 obtain ⟨i0, hi0, hz0, hz1, hz2⟩ := info_parts Ru.nd_info
 have HR := zh hr
 have HRW := zh hrow
 have HGL := zh hgl
 have HG := zh hg
 have HLR := zh (And.intro hl hlq)
 clear hr hrow hg
 go_enter Tryz.func29, Tryz.ntmps29
 go_wp2_with fail
 go_loopw [3, 8] (fun v i wr => ∃ (k m c5 : Nat) (A5 : Option Addr) (ns : List Nd) (vs : List Value), k ≤ 2 ∧ m ≤ k ∧ i = .int .i64 k ∧ v = .slice A5 m c5 ∧ Hid (vs.length = m) ∧ Hid (wr.ownsRow w.heap.size 119 1 (.slice A5 m c5) m vs) ∧ Hid (NsIs w B (Rs.take k) ns vs) ∧ Hid (Below w.heap.size w wr)) (fun _ i _ => 2 - (intOf i).toNat)
 case atStart => exact ⟨0, 0, 0, none, [], [], by omega, by omega, rfl, rfl, zh rfl, zh (own_nil w _ _ _), zh ⟨rfl, fun n hn => (by cases hn), fun i n v hn => (by simp at hn), fun u hu => (by cases hu), fun z => rfl⟩, zh (Below.refl _ _)⟩
 case round =>
  obtain ⟨k, m, c5, A5, ns, vs, hk, hmk, rfl, rfl, hm, hrow, hns, hbw⟩ := hrel
  have hwz := hbw.out.size
  by_cases hlt : k < 2
  ·obtain ⟨R, hR⟩ : ∃ R, Rs[k]? = some R := ⟨_, List.getElem?_eq_getElem (by rw [hl]; exact hlt)⟩
   obtain ⟨q, hq⟩ : ∃ q, qs[k]? = some q := ⟨_, List.getElem?_eq_getElem (by rw [hlq]; exact hlt)⟩
   have e0 : wr.cell? ⟨g, k, none⟩ = some (.pointer q) := (hbw.out.cell (p := ⟨g, k, none⟩) HGL.out).trans (HRW.out k q hq)
   have hrl := HR.out k R q hR hq
   have HT := zh (take_snoc hR)
   have hk8 : (k : Int) < 2 := by omega
   have hk9 : (0 : Int) ≤ (k : Int) := by omega
   clear hR hq
   match R, hrl with
   | none, hrl =>
    obtain rfl : q = none := hrl
    have HNS : Hid (NsIs w B (Rs.take (k + 1)) ns vs) := zh (by rw [HT.out]; exact hns.out.skip (fun z => rfl))
    clear hrl
    go_wp2_with fail
    go_roundw
    case rel => exact ⟨k + 1, m, c5, A5, ns, vs, by omega, by omega, by go_num, rfl, hm, hrow, HNS, hbw⟩
    case measure => simp [intOf]; omega
   | some none, hrl =>
    obtain ⟨_, ⟨gq, e, _, hbq⟩, _⟩ := hrl
    injection e with e
    subst e
    have HNS : Hid (NsIs w B (Rs.take (k + 1)) ns vs) := zh (by rw [HT.out]; exact hns.out.skip (fun z => rfl))
    have e1 : wr.cell? ⟨gq, 0, none⟩ = some .nilIface := (hbw.out.cell (p := ⟨gq, 0, none⟩) hbq.lt).trans (hbq.cell 0)
    clear hbq
    go_wp2_with fail
    go_roundw
    case rel => exact ⟨k + 1, m, c5, A5, ns, vs, by omega, by omega, by go_num, rfl, hm, hrow, HNS, hbw⟩
    case measure => simp [intOf]; omega
   | some (some n), hrl =>
    obtain ⟨_, ⟨hnf, gq, u, e, _, hbq, hu⟩, hsz⟩ := hrl
    injection e with e
    subst e
    obtain ⟨t, x, rfl⟩ := iface_nd hu
    have hsz' : (ownN n 0).length ≤ 4000 := by
     have h : (Ru.ownB n 0).size ≤ 4000 := hsz
     rw [Ru.ownB_size] at h
     exact h
    have HNS : Hid (NsIs w B (Rs.take (k + 1)) (ns ++ [n]) (vs ++ [.iface t x])) := zh (by rw [HT.out]; exact hns.out.node hnf hsz' hu rfl)
    have e1 : wr.cell? ⟨gq, 0, none⟩ = some (.iface t x) := (hbw.out.cell (p := ⟨gq, 0, none⟩) hbq.lt).trans (hbq.cell 0)
    have HV1 : Hid (∀ u ∈ vs, u.oneCell' = true) := zh hns.out.one
    clear hbq hu hnf hsz hsz'
    go_wp2_with (first
     | (at_builtin; refine wpList_append_row _ rfl _ _ 123 rfl w.heap.size 119 i0 _ 1 16 Tryz.underlying123 hi0 hz0 hz1 hz2 rfl (by omega) (.slice A5 m c5) m _ rfl (hrow.out.alloc _) (wr.heap.size + 1) (some ⟨wr.heap.size, 0, none⟩) 1 1 [(.iface t x)] rfl (Ru.one_nd wr (.iface t x) _ rfl) (fun h => by cases h) (fun u hu => by simp at hu; subst hu; rfl) (by unfold maxLen; omega) (by omega) (by simp; omega) ?_; intro v7 w7 ho7 hg7 hv7)
     | fail)
    obtain ⟨A7, c7, hr7⟩ := own_shape ho7
    subst hr7
    go_wp2_with fail
    go_roundw
    case rel =>
     exact ⟨k + 1, m + 1, c7, A7, ns ++ [n], vs ++ [.iface t x], by omega, by omega, by go_num, rfl, zh (by rw [List.length_append, hm.out]; rfl), zh ho7, HNS, zh ((hbw.out.alloc hwz _).grown hg7 (by simp; omega) (fun j hj => (hrow.out.lt _ hj).1))⟩
    case measure => simp [intOf]; omega
  ·obtain rfl : k = 2 := by omega
   have HT : Hid (Rs.take 2 = Rs) := zh (by rw [← hl, List.take_length])
   rw [HT.out] at hns
   by_cases h0 : m = 0
   ·subst h0
    have hz : ((0 : Nat) : Int) = 0 := rfl
    obtain ⟨w9, hw9⟩ : ∃ w9, wr.alloc (.cells #[.nilIface] 121) = w9 := ⟨_, rfl⟩
    have HX9 : Hid (Blk w9 wr.heap.size 121 #[.nilIface]) := zh (by rw [← hw9]; exact Blk.new _ _ _)
    have HB9 : Hid (Below w.heap.size w w9) := zh (by rw [← hw9]; exact hbw.out.alloc hwz _)
    have HOK : Hid (∀ z, (Rs.all fun R => okP R z) = true) := zh (fun z => by
     have h1 := hns.out.len
     rw [hm.out] at h1
     rw [← hns.out.ok z, List.length_eq_zero_iff.1 h1]
     rfl)
    go_wp2_with fail
    go_ret
    refine ⟨_, rfl, fun W hW z hzt => ?_, HB9.out⟩
    show Calls Tryz.prog 28 #[_, _] W (Ru.ROf (Rs.all fun R => okP R z) W)
    rw [HOK.out z]
    exact Ru.Holds_none z _ W ((hW.block _ HX9.out.lt).trans HX9.out)
   ·have hzf : ((m : Int) == 0) = false := by rw [Bool.eq_false_iff]; intro e; have := beq_iff_eq.1 e; omega
    have HRV := rowv_own (B := B) hrow.out hm.out hB hns.out.one
    have HEV := zh (Ru.every_any B m c5 (vs.length * 4001) A5 vs wr HRV (by omega) (hns.out.parts hbw.out) (by rw [hm.out]; omega) (Nat.le_trans hB hwz))
    clear HRV
    go_wp2_with fail
    refine HEV.out.mono ?_
    rintro e w8 ⟨v, us, rfl, hf, hb8, hv⟩
    have HND := zh (hns.out.all hbw.out hb8 hf hv)
    have HB8 : Hid (Below w.heap.size w w8) := zh (hbw.out.trans (hb8.mono hwz))
    obtain ⟨t, x, rfl⟩ := iface_nd HND.out
    obtain ⟨w9, hw9⟩ : ∃ w9, w8.alloc (.cells #[.iface t x] 121) = w9 := ⟨_, rfl⟩
    have HX9 : Hid (Blk w9 w8.heap.size 121 #[.iface t x]) := zh (by rw [← hw9]; exact Blk.new _ _ _)
    have HB9 : Hid (Below w.heap.size w w9) := zh (by rw [← hw9]; exact HB8.out.alloc HB8.out.size _)
    have HB89 : Hid (Below w8.heap.size w8 w9) := zh (by rw [← hw9]; exact (Below.refl _ _).alloc (Nat.le_refl _) _)
    clear hf hb8 hv HEV
    go_wp2_with fail
    go_ret
    have hne : ns ≠ [] := fun e => by
     have h1 := hns.out.len
     rw [e, hm.out] at h1
     exact h0 h1.symm
    have hnf := Ru.nodeOf_nf (k := 1) hne (fun n hn => (hns.out.nf n hn).1)
    have hrv : RuleV w9 B (some (some (nodeOf 1 ns))) (.pointer (some ⟨w8.heap.size, 0, none⟩)) := ⟨hnf, _, _, rfl, Nat.le_trans hB HB8.out.size, HX9.out, HND.out.under HB89.out⟩
    refine ⟨_, rfl, fun W hW z hzt => ?_, HB9.out⟩
    have hs := rule_size (ns := ns) (fun n hn => (hns.out.nf n hn).2) (by have := hns.out.len; rw [hm.out] at this; omega)
    have h := Ru.Holds_any z (by omega) (some (nodeOf 1 ns)) B _ W (hrv.below hW) hs (HG.out.keep (HB9.out.trans (hW.mono HB9.out.size)) (Nat.le_refl _))
    have e : holdsR (fzX z) (some (nodeOf 1 ns)) = Rs.all fun R => okP R z := by
     rw [← hns.out.ok z]
     show holdsN (fzX z) (nodeOf 1 ns) = _
     rw [show nodeOf 1 ns = mkRow 1 (ns.flatMap (parts' 1)) from if_pos (by omega), holds_mk, holds_flat]
    show Calls Tryz.prog 28 #[_, _] W (Ru.ROf (Rs.all fun R => okP R z) W)
    rw [← e]
    exact h
end Go.Proofs.YthdmpcnnbminlaaGreatDoor
