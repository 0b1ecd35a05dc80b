/- FilterApart: the walk. -/
import Derived.Test.YthdmpcnnbminlaaGreatDoorFlT
import Derived.Test.YthdmpcnnbminlaaGreatDoorFlZ
import Derived.Test.YthdmpcnnbminlaaGreatDoorXtr
namespace Go.Proofs.YthdmpcnnbminlaaGreatDoor
open Go.Shelf Go.RowKit Go.Maps
open Ru (Fz fzA fzX Nd holdsR RuleV ruleT Says errOf ErrAt TabAt)
set_option linter.unusedVariables false
def sameB (x y : Ev) : Bool := decide (x.src = y.src) && decide (x.num = y.num)
set_option maxHeartbeats 1000000 in
theorem same_any (x y : Ev) (w : World) : Calls Tryz.prog 17 #[evA x, evA y] w fun e w' => e = .returned (.bool (sameB x y)) ∧ Below w.heap.size w w' := by
 obtain ⟨s1, n1, t1, k1, p1, i1, v1, x1⟩ := x
 obtain ⟨s2, n2, t2, k2, p2, i2, v2, x2⟩ := y
 have HR : Hid (sameB ⟨s1, n1, t1, k1, p1, i1, v1, x1⟩ ⟨s2, n2, t2, k2, p2, i2, v2, x2⟩ = (decide (s1 = s2) && decide (n1 = n2))) := zh rfl
 rw [HR.out]
 clear HR
 unfold evA
 dsimp only
 by_cases hs : s1 = s2
 ·have q1 : (s1.toList == s2.toList) = true := str_t hs
  by_cases hn : n1 = n2
  ·have q2 : (n1 == n2) = true := int_t hn
   rw [decide_eq_true hs, decide_eq_true hn]
   clear hs hn
   go_enter Tryz.func17, Tryz.ntmps17
   go_wp2_with fail
   go_ret
   exact ⟨rfl, ((Below.refl _ _).alloc (Nat.le_refl _) _).alloc (by simp) _⟩
  ·have q2 : (n1 == n2) = false := int_f hn
   rw [decide_eq_true hs, decide_eq_false hn]
   clear hs hn
   go_enter Tryz.func17, Tryz.ntmps17
   go_wp2_with fail
   go_ret
   exact ⟨rfl, ((Below.refl _ _).alloc (Nat.le_refl _) _).alloc (by simp) _⟩
 ·have q1 : (s1.toList == s2.toList) = false := str_f hs
  rw [decide_eq_false hs]
  clear hs
  go_enter Tryz.func17, Tryz.ntmps17
  go_wp2_with fail
  go_ret
  exact ⟨rfl, ((Below.refl _ _).alloc (Nat.le_refl _) _).alloc (by simp) _⟩
theorem sameB_f {x y : Ev} (h : sameB x y = false) : ¬ sameId y x := fun ⟨h1, h2⟩ => by
 unfold sameB at h
 rw [decide_eq_true h1.symm, decide_eq_true h2.symm] at h
 cases h
def NoTwo (l : List Ev) (k : Nat) : Prop := ∀ b, b < k → ∀ a, a < b → ∀ x y, l[a]? = some x → l[b]? = some y → ¬ sameId x y
theorem NoTwo.all {l : List Ev} {n : Nat} (hn : l.length = n) (h : NoTwo l n) : OneIds l := by
 refine List.pairwise_iff_getElem.2 (fun i j hi hj hij => ?_)
 exact h j (by omega) i hij _ _ (List.getElem?_eq_getElem hi) (List.getElem?_eq_getElem hj)
theorem keep_snoc (p : ByteArray) {l : List Ev} {k : Nat} {x : Ev} (h : l[k]? = some x) : (l.take (k + 1)).filter (keepB p) = (l.take k).filter (keepB p) ++ if keepB p x then [x] else [] := by
 rw [List.take_add_one, h, List.filter_append]
 cases hk : keepB p x <;> simp [hk]
def cfg0 (c : Cfg) : Cfg := ⟨c.half, c.width, c.gap, c.span, c.floor, 0⟩
theorem cfg0_ok {c : Cfg} (h : CfgOk c) : CfgOk (cfg0 c) := ⟨h.1, h.2, h.3, h.4, h.5, h.6, by show (0 : Int) ≤ 0 ∧ (0 : Int) ≤ 1048576; omega⟩
set_option maxHeartbeats 8000000 in
set_option maxRecDepth 100000 in
theorem filterApart_walk (c : Cfg) (A : Option Addr) (n cp : Nat) (l : List Ev) (p i : ByteArray) (now : Int) (w : World) (h : LawIn3 w c A n cp l) (hp : p.size ≤ 281474976710656) (hi : i.size ≤ 281474976710656) (hnow : InR now) :
  Calls Tryz.prog 3 #[cfgA c, .slice A n cp, .string p, .string i, .int .i64 now] w (TrueR w) := by
 obtain ⟨i0, hi0, hy0, hy1, hy2⟩ := info_parts ev_info
 obtain ⟨w1, hw1⟩ : ∃ w1, w.alloc (.cells (cfgArr c) 23) = w1 := ⟨_, rfl⟩
 have be1 : Hid (Blk w1 w.heap.size 23 (cfgArr c)) := zh (by rw [← hw1]; exact Blk.new _ _ _)
 have HB1 : Hid (Below w.heap.size w w1) := zh (by rw [← hw1]; exact (Below.refl _ _).alloc (Nat.le_refl _) _)
 have HLV := zh (lives3_any w1 (h.lib.keep HB1.out) (h.nm.keep HB1.out))
 have HL := zh h.lib
 obtain ⟨hn, hl, hb, _, hbd⟩ := h.arg
 have HAR := zh (And.intro hn (And.intro hl (And.intro hb hbd)))
 have HNOW := zh hnow
 unfold cfgA
 unfold cfgArr at hw1
 clear h hn hl hb hbd hnow
 go_enter Tryz.func3, Tryz.ntmps3
 go_wp2_with fail
 refine HLV.out.mono ?_
 rintro e w2 ⟨rfl, hb2⟩
 have HB2 : Hid (Below w.heap.size w w2) := zh (HB1.out.trans (hb2.mono HB1.out.size))
 have HE2 : Hid (Blk w2 w.heap.size 23 (cfgArr c)) := zh ((hb2.block _ be1.out.lt).trans be1.out)
 have hld := load_cfg HE2.out
 have y0 : w2.cell? ⟨w.heap.size, 0, none⟩ = some (.int .i64 c.half) := HE2.out.cell 0
 have y1 : w2.cell? ⟨w.heap.size, 1, none⟩ = some (.int .i64 c.width) := HE2.out.cell 1
 have y2 : w2.cell? ⟨w.heap.size, 2, none⟩ = some (.int .i64 c.gap) := HE2.out.cell 2
 have y3 : w2.cell? ⟨w.heap.size, 3, none⟩ = some (.int .i64 c.span) := HE2.out.cell 3
 have y4 : w2.cell? ⟨w.heap.size, 4, none⟩ = some (.int .i64 c.floor) := HE2.out.cell 4
 have y5 : w2.cell? ⟨w.heap.size, 5, none⟩ = some (.int .i64 c.crowd) := HE2.out.cell 5
 have HMD := zh (made_any c w2 w.heap.size A l n cp HAR.out.1 (HAR.out.2.1.below HB2.out) HB2.out.size HAR.out.2.2.1 HAR.out.2.2.2 (fun V hV => by have k := HL.out.keep (HB2.out.trans (hV.mono HB2.out.size)); exact ⟨k.g, k.k, k.t⟩))
 unfold cfgA at HMD
 clear hb2 HLV hw1 be1 hld
 go_wp2_with fail
 refine HMD.out.mono ?_
 rintro e w3 ⟨hm3, hb3⟩
 have HB3 : Hid (Below w.heap.size w w3) := zh (HB2.out.trans (hb3.mono HB2.out.size))
 have HE3 : Hid (Blk w3 w.heap.size 23 (cfgArr c)) := zh ((hb3.block _ HE2.out.lt).trans HE2.out)
 clear hb3 HMD y0 y1 y2 y3 y4 y5 HE2
 rcases hm3 with rfl | ⟨wb, base, E, rfl, ha, hwa, hba, hco, hl40, hok⟩
 ·go_wp2_with fail
  go_ret
  exact ⟨rfl, HB3.out⟩
 have HCO := zh (cfg0_ok hco)
 have HOK := zh hok
 have HL40 : Hid (n ≤ 40) := zh (by rw [← HAR.out.1]; exact hl40)
 have hn40 : n ≤ 40 := HL40.out
 clear ha hwa hba hco hl40 hok
 by_cases h3 : (300 : Int) < (p.size : Int)
 ·go_wp2_with fail
  go_ret
  exact ⟨rfl, HB3.out⟩
 by_cases h4 : (300 : Int) < (i.size : Int)
 ·go_wp2_with fail
  go_ret
  exact ⟨rfl, HB3.out⟩
 have d3 : decide ((300 : Int) < (p.size : Int)) = false := decide_eq_false h3
 have d4 : decide ((300 : Int) < (i.size : Int)) = false := decide_eq_false h4
 have HP : Hid (p.size ≤ 300) := zh (by omega)
 have HI : Hid (i.size ≤ 300) := zh (by omega)
 have HZ3 : Hid (w.heap.size < w3.heap.size) := zh HE3.out.lt
 have HBF : Hid (∀ W, Below w3.heap.size w3 W → Below w.heap.size w W) := zh (fun W hb => HB3.out.trans (hb.mono HB3.out.size))
 clear h3 h4 HB1 HB2
 go_wp2_with fail
 go_loopw [12, 13] (fun v i wr => ∃ (k m c5 : Nat) (A5 : Option Addr), k ≤ n ∧ m ≤ k ∧ i = .int .i64 k ∧ v = .slice A5 m c5 ∧ Hid (((l.take k).filter (keepB p)).length = m) ∧ Hid (wr.ownsRow w3.heap.size 31 8 (.slice A5 m c5) m (((l.take k).filter (keepB p)).flatMap evC)) ∧ Hid (NoTwo l k) ∧ Hid (Below w3.heap.size w3 wr)) (fun _ i _ => n - (intOf i).toNat)
 case atStart => exact ⟨0, 0, 0, none, Nat.zero_le _, Nat.le_refl _, rfl, rfl, zh rfl, zh (own_nil w3 _ _ _), zh (fun b hb => by omega), zh (Below.refl _ _)⟩
 case round =>
  obtain ⟨k, m, c5, A5, hk, hmk, rfl, rfl, hm, hrow, hnt, hbw⟩ := hrel
  obtain ⟨wo, rfl⟩ : ∃ wo : World, wo = wr := ⟨_, rfl⟩
  have hwz := hbw.out.size
  by_cases hlt : k < n
  ·obtain ⟨x, hx⟩ : ∃ x, l[k]? = some x := ⟨l[k]'(by rw [HAR.out.1]; exact hlt), List.getElem?_eq_getElem _⟩
   obtain ⟨g, o, rfl, hgB, hcl⟩ := HAR.out.2.1.at (by rw [HAR.out.1]; omega)
   have HAT : Hid (∀ j y, l[j]? = some y → ∀ W, Below wo.heap.size wo W → EvAt W g (o + j * 8) y) := zh (fun j y hy W hW => (hcl j y hy).keep (fun q => ((HBF.out wo hbw.out).trans (hW.mono (Nat.le_trans HB3.out.size hwz))).cell (p := ⟨g, q, none⟩) hgB))
   have HX := zh hx
   have hk8 : (k : Int) < (n : Int) := by omega
   have hk9 : (0 : Int) ≤ (k : Int) := by omega
   have hB0 : Hid (Below wo.heap.size wo wo) := zh (Below.refl _ _)
   clear hcl hx
   go_wp2_with fail
   go_loopw [14] (fun j wr => ∃ k2 : Nat, k2 ≤ k ∧ j = .int .i64 k2 ∧ Hid (∀ a, a < k2 → ∀ u, l[a]? = some u → ¬ sameId u x) ∧ Hid (Below wo.heap.size wo wr)) (fun j _ => k - (intOf j).toNat)
   case atStart => exact ⟨0, Nat.zero_le _, rfl, zh (fun a ha => by omega), hB0⟩
   case round =>
    clear hB0
    obtain ⟨k2, hk2, rfl, hsm, hbq⟩ := hrel
    have hqz := hbq.out.size
    by_cases hlt2 : k2 < k
    ·obtain ⟨y, hy⟩ : ∃ y, l[k2]? = some y := ⟨l[k2]'(by rw [HAR.out.1]; omega), List.getElem?_eq_getElem _⟩
     have HXW : Hid (∀ W, Below wo.heap.size wo W → EvAt W g (o + k * 8) x ∧ EvAt W g (o + k2 * 8) y) := zh (fun W hW => ⟨HAT.out k x HX.out W hW, HAT.out k2 y hy W hW⟩)
     have HY := zh hy
     have hj8 : (k2 : Int) < (k : Int) := by omega
     have hj7 : (k2 : Int) < (n : Int) := by omega
     have hj9 : (0 : Int) ≤ (k2 : Int) := by omega
     obtain ⟨b, hb⟩ : ∃ b, sameB x y = b := ⟨_, rfl⟩
     have HSB := zh hb
     clear hy hb
     go_wp2_with fail
     refine wp_plan (fun W => Below wo.heap.size wo W) [(0, false), (1, false), (2, false), (3, false), (4, false), (5, false), (6, false), (7, false), (8, true)] (by kernel_rfl) (by kernel_rfl) (below_drew hbq.out) ?_
     simp only [planL, List.getElem?_cons_zero, List.getElem?_cons_succ]
     obtain ⟨wd, hwd⟩ : ∃ z, wr.drew = z := ⟨_, rfl⟩
     have HBD : Hid (Below wo.heap.size wo wd) := zh (by rw [← hwd]; exact below_drew hbq.out)
     rw [hwd]
     clear hwd
     repeat (first | (refine plan_on _ (by rfl) (fun W hW => by (obtain ⟨⟨x0, x1, x2, x3, x4, x5, x6, x7⟩, y0, y1, y2, y3, y4, y5, y6, y7⟩ := HXW.out W hW; go_simp; try with_reducible rfl)) ?_; simp only [Act.put, xq1, xq2, xq3]) | (refine plan_off (by rfl) ?_; simp only [Act.put, xq1, xq2, xq3]))
     refine plan_turn ?_
     have HC := zh (same_any x y wd)
     rw [HSB.out] at HC
     unfold evA at HC
     go_wp2_with fail
     refine HC.out.mono ?_
     rintro e w5 ⟨rfl, hb5⟩
     have HB5 : Hid (Below wo.heap.size wo w5) := zh (HBD.out.trans (hb5.mono HBD.out.size))
     clear hb5 HC
     go_wp2_with fail
     refine ⟨HB5.out, ?_⟩
     refine plan_done ?_
     cases b with
     | true =>
      go_wp2_with fail
      go_ret
      exact ⟨rfl, HBF.out _ (hbw.out.trans (HB5.out.mono hwz))⟩
     | false =>
      have HSM : Hid (∀ a, a < k2 + 1 → ∀ u, l[a]? = some u → ¬ sameId u x) := zh (fun a ha u hu => by
       by_cases e : a = k2
       ·subst e
        rw [HY.out] at hu
        cases hu
        exact sameB_f HSB.out
       ·exact hsm.out a (by omega) u hu)
      go_wp2_with fail
      go_roundw
      case rel => exact ⟨k2 + 1, by omega, by go_num, HSM, HB5⟩
      case measure => simp [intOf]; omega
    ·obtain rfl : k = k2 := by omega
     have HB5 : Hid (Below w3.heap.size w3 wr) := zh (hbw.out.trans (hbq.out.mono hwz))
     have HNT : Hid (NoTwo l (k + 1)) := zh (fun b hb a ha x' y' hx' hy' => by
      by_cases e : b = k
      ·subst e
       rw [HX.out] at hy'
       cases hy'
       exact hsm.out a ha x' hx'
      ·exact hnt.out b (by omega) a ha x' y' hx' hy')
     have HRW : Hid (wr.ownsRow w3.heap.size 31 8 (.slice A5 m c5) m (((l.take k).filter (keepB p)).flatMap evC)) := zh (Ru.own_below hrow.out hbq.out)
     obtain ⟨e0, e1, e2, e3, e4, e5, e6, e7⟩ := HAT.out k x HX.out wr hbq.out
     have HKS := zh (keep_snoc p HX.out)
     have hcase : (x.person.toList.isEmpty = false ∧ (x.person.toList == p.toList) = false ∧ (x.kind == 14) = false ∧ keepB p x = false) ∨ (x.person.toList.isEmpty = true ∧ keepB p x = true) ∨ (x.person.toList.isEmpty = false ∧ (x.person.toList == p.toList) = true ∧ keepB p x = true) ∨ (x.person.toList.isEmpty = false ∧ (x.person.toList == p.toList) = false ∧ (x.kind == 14) = true ∧ keepB p x = true) := by
      unfold keepB
      rw [emp_iff]
      by_cases c1 : x.person = ⟨#[]⟩
      ·exact Or.inr (Or.inl ⟨decide_eq_true c1, decide_eq_true (Or.inl c1)⟩)
      ·by_cases c2 : x.person = p
       ·exact Or.inr (Or.inr (Or.inl ⟨decide_eq_false c1, str_t c2, decide_eq_true (Or.inr (Or.inl c2))⟩))
       ·by_cases c3 : x.kind = 14
        ·exact Or.inr (Or.inr (Or.inr ⟨decide_eq_false c1, str_f c2, int_t c3, decide_eq_true (Or.inr (Or.inr c3))⟩))
        ·exact Or.inl ⟨decide_eq_false c1, str_f c2, int_f c3, decide_eq_false (fun h => by rcases h with h | h | h <;> contradiction)⟩
     rcases hcase with ⟨q1, q2, q3, hkp⟩ | ⟨q1, hkp⟩ | ⟨q1, q2, hkp⟩ | ⟨q1, q2, q3, hkp⟩
     ·have HKN : Hid ((l.take (k + 1)).filter (keepB p) = (l.take k).filter (keepB p)) := zh (by rw [HKS.out, hkp]; simp)
      clear hkp
      go_wp2_with fail
      go_roundw
      case rel => exact ⟨k + 1, m, c5, A5, by omega, by omega, by go_num, rfl, zh (by rw [HKN.out]; exact hm.out), zh (by rw [HKN.out]; exact HRW.out), HNT, HB5⟩
      case measure => simp [intOf]; omega
     all_goals
      have HKN : Hid ((l.take (k + 1)).filter (keepB p) = (l.take k).filter (keepB p) ++ [x]) := zh (by rw [HKS.out, hkp]; simp)
      have HR9 : Hid (RowIn (wr.alloc (.cells (evArr x) 31)) (wr.heap.size + 1) 8 (some ⟨wr.heap.size, 0, none⟩) 1 (evC x)) := zh (one_ev wr x _)
      unfold evArr at HR9
      have hz3 : w3.heap.size ≤ wr.heap.size + 1 := by omega
      clear hkp
      go_wp2_with (first
       | (at_builtin; refine wpList_append_row _ rfl _ _ 24 rfl w3.heap.size 31 i0 _ 8 96 Tryz.underlying24 hi0 hy0 hy1 hy2 rfl (by omega) (.slice A5 m c5) m _ rfl (HRW.out.alloc _) (wr.heap.size + 1) (some ⟨wr.heap.size, 0, none⟩) 1 1 (evC x) rfl HR9.out (fun h => by cases h) (fun u hu => evC_one [x] u (by simpa using hu)) (by unfold maxLen; omega) (by omega) (by simp; omega) ?_; intro v9 w9 ho9 hg9 hv9)
       | fail)
      obtain ⟨A9, c9, hr9⟩ := eown_shape ho9
      subst hr9
      go_wp2_with fail
      go_roundw
      case rel =>
       exact ⟨k + 1, m + 1, c9, A9, by omega, by omega, by go_num, rfl, zh (by rw [HKN.out, List.length_append, hm.out]; rfl), zh (by rw [HKN.out, List.flatMap_append]; simpa using ho9), HNT, zh ((HB5.out.alloc (by omega) _).grown hg9 (by simp; omega) (fun j hj => (HRW.out.lt _ hj).1))⟩
      case measure => simp [intOf]; omega
  ·obtain rfl : n = k := by omega
   have HT : Hid (l.take n = l) := zh (by rw [← HAR.out.1, List.take_length])
   rw [HT.out] at hm hrow
   have HON : Hid (OneIds l) := zh (NoTwo.all HAR.out.1 hnt.out)
   have HE4 : Hid (Blk wo w.heap.size 23 (cfgArr c)) := zh ((hbw.out.block _ HZ3.out).trans HE3.out)
   have HB4 : Hid (Below w.heap.size w wo) := zh (HBF.out wo hbw.out)
   have g : wo.cell? ⟨w.heap.size, 5, none⟩ = some (.int .i64 c.crowd) := HE4.out.cell 5
   have f : wo.frozen? ⟨w.heap.size, 5, none⟩ = false := HE4.out.frozen 5
   go_upto_region 18 with fail
   obtain ⟨w5, hw5⟩ : ∃ z, wo.setCell ⟨w.heap.size, 5, none⟩ (.int .i64 0) = z := ⟨_, rfl⟩
   rw [hw5]
   have HE5 : Hid (Blk w5 w.heap.size 23 (cfgArr (cfg0 c))) := zh (by rw [← hw5]; exact HE4.out.set_ 5 _)
   have HB5 : Hid (Below w.heap.size w w5) := zh (by rw [← hw5]; exact HB4.out.setCell (p := ⟨w.heap.size, 5, none⟩) (Nat.le_refl _) _)
   have HRW5 : Hid (w5.ownsRow w3.heap.size 31 8 (.slice A5 m c5) m ((l.filter (keepB p)).flatMap evC)) := zh (by rw [← hw5]; exact ownsRow_setCell_below hrow.out (a := ⟨w.heap.size, 5, none⟩) HZ3.out _)
   clear hw5 g f
   have hld := load_cfg HE5.out
   have y0 : w5.cell? ⟨w.heap.size, 0, none⟩ = some (.int .i64 c.half) := HE5.out.cell 0
   have y1 : w5.cell? ⟨w.heap.size, 1, none⟩ = some (.int .i64 c.width) := HE5.out.cell 1
   have y2 : w5.cell? ⟨w.heap.size, 2, none⟩ = some (.int .i64 c.gap) := HE5.out.cell 2
   have y3 : w5.cell? ⟨w.heap.size, 3, none⟩ = some (.int .i64 c.span) := HE5.out.cell 3
   have y4 : w5.cell? ⟨w.heap.size, 4, none⟩ = some (.int .i64 c.floor) := HE5.out.cell 4
   have y5 : w5.cell? ⟨w.heap.size, 5, none⟩ = some (.int .i64 0) := HE5.out.cell 5
   have HLB5 := zh (HL.out.keep HB5.out)
   have HO5 := zh (wof_any (cfg0 c) w5 w5.heap.size A5 (l.filter (keepB p)) m c5 HCO.out hm.out (by unfold EvsAt; rw [hm.out]; exact RowIn.of_own HRW5.out) (Nat.le_refl _) (by omega) (fun e he => HOK.out e (List.mem_filter.1 he).1) HLB5.out.g HLB5.out.k HLB5.out.t)
   unfold cfgA cfg0 at HO5
   clear hld
   go_wp2_with fail
   refine HO5.out.mono ?_
   rintro e w6 ⟨wb1, base1, E1, rfl, ha1, hw1, hba1, hb6⟩
   have HA1 := zh ha1
   have HW1 : Hid (WsAt w6 wb1 (cfg0 c) E1) := zh (WsAt.of hw1 ha1 (Nat.le_trans (List.length_filter_le _ _) (by rw [HAR.out.1]; exact hn40)) (fun e he => HOK.out e (List.mem_filter.1 he).1))
   have HB6 : Hid (Below w.heap.size w w6) := zh (HB5.out.trans (hb6.mono HB5.out.size))
   have HE6 : Hid (Blk w6 w.heap.size 23 (cfgArr (cfg0 c))) := zh ((hb6.block _ HE5.out.lt).trans HE5.out)
   clear ha1 hw1 hba1 hb6 HO5 y0 y1 y2 y3 y4 y5 HLB5
   have hld := load_cfg HE6.out
   have y0 : w6.cell? ⟨w.heap.size, 0, none⟩ = some (.int .i64 c.half) := HE6.out.cell 0
   have y1 : w6.cell? ⟨w.heap.size, 1, none⟩ = some (.int .i64 c.width) := HE6.out.cell 1
   have y2 : w6.cell? ⟨w.heap.size, 2, none⟩ = some (.int .i64 c.gap) := HE6.out.cell 2
   have y3 : w6.cell? ⟨w.heap.size, 3, none⟩ = some (.int .i64 c.span) := HE6.out.cell 3
   have y4 : w6.cell? ⟨w.heap.size, 4, none⟩ = some (.int .i64 c.floor) := HE6.out.cell 4
   have y5 : w6.cell? ⟨w.heap.size, 5, none⟩ = some (.int .i64 0) := HE6.out.cell 5
   have HLB6 := zh (HL.out.keep HB6.out)
   have HO6 := zh (wof_any (cfg0 c) w6 w.heap.size A l n cp HCO.out HAR.out.1 (HAR.out.2.1.below HB6.out) HB6.out.size (by omega) HOK.out HLB6.out.g HLB6.out.k HLB6.out.t)
   unfold cfgA cfg0 at HO6
   clear hld
   go_wp2_with fail
   refine HO6.out.mono ?_
   rintro e w7 ⟨wb2, base2, E2, rfl, ha2, hw2, hba2, hb7⟩
   have HW2 : Hid (WsAt w7 wb2 (cfg0 c) E2) := zh (WsAt.of hw2 ha2 (by rw [HAR.out.1]; exact hn40) HOK.out)
   have HW17 : Hid (WsAt w7 wb1 (cfg0 c) E1) := zh (HW1.out.below hb7)
   have HB7 : Hid (Below w.heap.size w w7) := zh (HB6.out.trans (hb7.mono HB6.out.size))
   obtain rfl : E1 = E2.filter (keepB p) := anew_keep p HON.out ha2 HA1.out
   clear ha2 hw2 hba2 hb7 HO6 y0 y1 y2 y3 y4 y5 HLB6
   obtain ⟨fn, hz1, hf1, hf2, _⟩ := apart_facts HW2.out.ok p i now
   have hwy := apart_why HW2.out.ok p i now (c := cfg0 c) rfl
   have hG : ∀ W, Below w7.heap.size w7 W → GlobAt W := fun W hb => (HL.out.keep (HB7.out.trans (hb.mono HB7.out.size))).g
   have HFA1 : Hid (∀ W, Below w7.heap.size w7 W → Calls Tryz.prog 19 #[.pointer (some ⟨wb1, 0, none⟩), .string p, .string i, .int .i64 now] W (FactsR (E2.filter (keepB p)) p i now W)) := zh (fun W hb => facts_law (HW17.out.below hb) HP.out HNOW.out HI.out)
   have HFA2 : Hid (∀ W, Below w7.heap.size w7 W → Calls Tryz.prog 19 #[.pointer (some ⟨wb2, 0, none⟩), .string p, .string i, .int .i64 now] W (FactsR E2 p i now W)) := zh (fun W hb => facts_law (HW2.out.below hb) HP.out HNOW.out HI.out)
   have HOF1 : Hid (∀ W, Below w7.heap.size w7 W → OfIs wb1 p now none (whyF (E2.filter (keepB p)) p now (cfg0 c) none) i W) := zh (fun W hb => of_law (B := 0) (R := none) (HW17.out.below hb) rfl (hG W hb) HP.out HNOW.out HI.out)
   have HOF2 : Hid (∀ W, Below w7.heap.size w7 W → OfIs wb2 p now none (whyF E2 p now (cfg0 c) none) i W) := zh (fun W hb => of_law (B := 0) (R := none) (HW2.out.below hb) rfl (hG W hb) HP.out HNOW.out HI.out)
   unfold FactsR at HFA1 HFA2
   unfold OfIs at HOF1 HOF2
   rw [hz1] at HFA1
   rw [hwy] at HOF1
   obtain ⟨z, hz⟩ : ∃ z, fzOf E2 p i now = z := ⟨_, rfl⟩
   rw [hz] at HFA1 HFA2 hf2
   obtain ⟨nm, mk, tg, st, pr, bo, li, nw, ag, fa, fo, dn⟩ := z
   unfold fzA at HFA1 HFA2
   dsimp only at HFA1 HFA2 hf2
   obtain ⟨y, hy⟩ : ∃ y : Nat, whyF E2 p now (cfg0 c) none i = y := ⟨_, rfl⟩
   rw [hy] at HOF1 HOF2
   have hfn1 : (fn : Int) ≤ 1 := by omega
   have hyy : ((y : Int) == (y : Int)) = true := beq_self_eq_true _
   have HBZ : Hid (∀ W, Below w7.heap.size w7 W → Below w.heap.size w W) := zh (fun W hb => HB7.out.trans (hb.mono HB7.out.size))
   have HC := zh (HFA1.out w7 (Below.refl _ _))
   clear hz1 hf1 hwy hG hz hy HW17 HW1 HA1 HFA1
   go_wp2_with fail
   refine HC.out.mono ?_
   rintro e w8 ⟨rfl, hb8⟩
   have HC8 : Hid (Below w7.heap.size w7 w8) := zh hb8
   have HC2 := zh (HFA2.out w8 hb8)
   clear hb8 HC HFA2
   go_wp2_with fail
   refine HC2.out.mono ?_
   rintro e w9 ⟨rfl, hb9⟩
   have HC9 : Hid (Below w7.heap.size w7 w9) := zh (HC8.out.trans (hb9.mono HC8.out.size))
   clear hb9 HC2
   obtain ⟨w10, hw10⟩ : ∃ w10, (w9.alloc (.cells #[.string nm, .string mk, .string tg, .int .i64 st, .int .i64 pr, .int .i64 bo, .bool li, .int .i64 nw, .int .i64 ag, .int .i64 fn, .bool fo, .bool dn] 38)).alloc (.cells #[.string nm, .string mk, .string tg, .int .i64 st, .int .i64 pr, .int .i64 bo, .bool li, .int .i64 nw, .int .i64 ag, .int .i64 fa, .bool fo, .bool dn] 38) = w10 := ⟨_, rfl⟩
   have HX1 : Hid (Blk w10 w9.heap.size 38 #[.string nm, .string mk, .string tg, .int .i64 st, .int .i64 pr, .int .i64 bo, .bool li, .int .i64 nw, .int .i64 ag, .int .i64 fn, .bool fo, .bool dn]) := zh (by rw [← hw10]; exact (Blk.new _ _ _).alloc _)
   have HX2 : Hid (Blk w10 (w9.heap.size + 1) 38 #[.string nm, .string mk, .string tg, .int .i64 st, .int .i64 pr, .int .i64 bo, .bool li, .int .i64 nw, .int .i64 ag, .int .i64 fa, .bool fo, .bool dn]) := zh (by
    have h := Blk.new (w9.alloc (.cells #[.string nm, .string mk, .string tg, .int .i64 st, .int .i64 pr, .int .i64 bo, .bool li, .int .i64 nw, .int .i64 ag, .int .i64 fn, .bool fo, .bool dn] 38)) 38 #[.string nm, .string mk, .string tg, .int .i64 st, .int .i64 pr, .int .i64 bo, .bool li, .int .i64 nw, .int .i64 ag, .int .i64 fa, .bool fo, .bool dn]
    rw [hw10] at h
    simpa using h)
   have HC10 : Hid (Below w7.heap.size w7 w10) := zh (by
    have h3 := HC9.out.alloc HC9.out.size (.cells #[.string nm, .string mk, .string tg, .int .i64 st, .int .i64 pr, .int .i64 bo, .bool li, .int .i64 nw, .int .i64 ag, .int .i64 fn, .bool fo, .bool dn] 38)
    rw [← hw10]
    exact h3.alloc h3.size _)
   have HQ1 := zh (HOF1.out w10 HC10.out)
   clear HOF1
   go_wp2_with fail
   refine HQ1.out.mono ?_
   rintro e w11 ⟨rfl, hb11⟩
   have HX11 := zh ((hb11.block _ HX1.out.lt).trans HX1.out)
   have HX12 := zh ((hb11.block _ HX2.out.lt).trans HX2.out)
   have HC11 : Hid (Below w7.heap.size w7 w11) := zh (HC10.out.trans (hb11.mono HC10.out.size))
   have HQ2 := zh (HOF2.out w11 HC11.out)
   clear hb11 HQ1 HOF2 hw10 HX1 HX2
   go_wp2_with fail
   refine HQ2.out.mono ?_
   rintro e w12 ⟨rfl, hb12⟩
   have HC12 : Hid (Below w7.heap.size w7 w12) := zh (HC11.out.trans (hb12.mono HC11.out.size))
   have k1 : Blk w12 w9.heap.size 38 #[.string nm, .string mk, .string tg, .int .i64 st, .int .i64 pr, .int .i64 bo, .bool li, .int .i64 nw, .int .i64 ag, .int .i64 fn, .bool fo, .bool dn] := (hb12.block _ (Blk.lt HX11.out)).trans HX11.out
   have k2 : Blk w12 (w9.heap.size + 1) 38 #[.string nm, .string mk, .string tg, .int .i64 st, .int .i64 pr, .int .i64 bo, .bool li, .int .i64 nw, .int .i64 ag, .int .i64 fa, .bool fo, .bool dn] := (hb12.block _ (Blk.lt HX12.out)).trans HX12.out
   have a0 := k1.cell 0
   have a1 := k1.cell 1
   have a2 := k1.cell 2
   have a3 := k1.cell 3
   have a4 := k1.cell 4
   have a5 := k1.cell 5
   have a6 := k1.cell 6
   have a8 := k1.cell 8
   have a9 := k1.cell 9
   have a10 := k1.cell 10
   have a11 := k1.cell 11
   have b0 := k2.cell 0
   have b1 := k2.cell 1
   have b2 := k2.cell 2
   have b3 := k2.cell 3
   have b4 := k2.cell 4
   have b5 := k2.cell 5
   have b6 := k2.cell 6
   have b8 := k2.cell 8
   have b9 := k2.cell 9
   have b10 := k2.cell 10
   have b11 := k2.cell 11
   simp at a0 a1 a2 a3 a4 a5 a6 a8 a9 a10 a11 b0 b1 b2 b3 b4 b5 b6 b8 b9 b10 b11
   clear k1 k2 HX11 HX12 hb12 HQ2
   go_wp2_with fail
   go_ret
   exact ⟨rfl, HBZ.out w12 HC12.out⟩
end Go.Proofs.YthdmpcnnbminlaaGreatDoor
