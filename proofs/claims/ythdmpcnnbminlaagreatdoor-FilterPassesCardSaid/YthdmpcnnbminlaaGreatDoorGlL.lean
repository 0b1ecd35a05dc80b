/- FilterPasses: the walk. -/
import Derived.Test.YthdmpcnnbminlaaGreatDoorGlJ
import Derived.Test.YthdmpcnnbminlaaGreatDoorGlM
namespace Go.Proofs.YthdmpcnnbminlaaGreatDoor
open Go.Shelf Go.RowKit Go.Maps
open Ru (Fz fzA fzX Nd holdsR RuleV ruleT Says errOf ErrAt TabAt)
set_option linter.unusedVariables false
set_option maxHeartbeats 8000000 in
set_option maxRecDepth 100000 in
theorem filterPasses_walk (c : Cfg) (A : Option Addr) (n cp : Nat) (l : List Ev) (p : ByteArray) (now : Int) (s : ByteArray) (Ai : Option Addr) (ni ci : Nat) (li : List ByteArray) (w : World) (h : LawIn w c A n cp l) (hp : p.size ≤ 281474976710656) (hnow : InR now) (hs : s.size ≤ 281474976710656) (hss : SsArg w Ai ni ci li) :
  Calls Tryz.prog 5 #[cfgA c, .slice A n cp, .string p, .int .i64 now, .string s, .slice Ai ni ci] w (TrueR w) := by
 obtain ⟨w1, hw1⟩ : ∃ w1, w.alloc (.cells (cfgArr c) 23) = w1 := ⟨_, rfl⟩
 have be1 : Hid (Blk w1 w.heap.size 23 (cfgArr c)) := zh (by rw [← hw1]; exact Blk.new _ _ _)
 have HB1 : Hid (Below w.heap.size w w1) := zh (by rw [← hw1]; exact (Below.refl _ _).alloc (Nat.le_refl _) _)
 have HLV := zh (lives_any w1 (h.lib.keep HB1.out) (h.nm.keep HB1.out))
 have HL := zh h.lib
 have HNM := zh h.nm
 have HSS := zh hss
 obtain ⟨hn, hl, hb, _, hbd⟩ := h.arg
 have HAR := zh (And.intro hn (And.intro hl (And.intro hb hbd)))
 have HNOW := zh hnow
 have HS := zh hs
 unfold cfgA
 unfold cfgArr at hw1
 clear h hn hl hb hbd hnow hs hss
 go_enter Tryz.func5, Tryz.ntmps5
 go_wp2_with fail
 refine HLV.out.mono ?_
 rintro e w2 ⟨rfl, hb2⟩
 have HB2 : Hid (Below w.heap.size w w2) := zh (HB1.out.trans (hb2.mono HB1.out.size))
 have HE2 : Hid (Blk w2 w.heap.size 23 (cfgArr c)) := zh ((hb2.block _ be1.out.lt).trans be1.out)
 have hld := load_cfg HE2.out
 have y0 : w2.cell? ⟨w.heap.size, 0, none⟩ = some (.int .i64 c.half) := HE2.out.cell 0
 have y1 : w2.cell? ⟨w.heap.size, 1, none⟩ = some (.int .i64 c.width) := HE2.out.cell 1
 have y2 : w2.cell? ⟨w.heap.size, 2, none⟩ = some (.int .i64 c.gap) := HE2.out.cell 2
 have y3 : w2.cell? ⟨w.heap.size, 3, none⟩ = some (.int .i64 c.span) := HE2.out.cell 3
 have y4 : w2.cell? ⟨w.heap.size, 4, none⟩ = some (.int .i64 c.floor) := HE2.out.cell 4
 have y5 : w2.cell? ⟨w.heap.size, 5, none⟩ = some (.int .i64 c.crowd) := HE2.out.cell 5
 have HMD := zh (made_any c w2 w.heap.size A l n cp HAR.out.1 (HAR.out.2.1.below HB2.out) HB2.out.size HAR.out.2.2.1 HAR.out.2.2.2 (fun V hV => by have k := HL.out.keep (HB2.out.trans (hV.mono HB2.out.size)); exact ⟨k.g, k.k, k.t⟩))
 unfold cfgA at HMD
 clear hb2 HLV hw1 be1 hld
 go_wp2_with fail
 refine HMD.out.mono ?_
 rintro e w3 ⟨hm3, hb3⟩
 have HB3 : Hid (Below w.heap.size w w3) := zh (HB2.out.trans (hb3.mono HB2.out.size))
 have HPA := zh (parsed_any s w3 HS.out (HL.out.keep HB3.out))
 clear hb3 HMD y0 y1 y2 y3 y4 y5 HE2
 rcases hm3 with rfl | ⟨wb, base, E, rfl, ha, hwa, hba, hco, hl40, hok⟩
 ·go_wp2_with fail
  refine HPA.out.mono ?_
  rintro e w4 ⟨q, b, rfl, _, hb4⟩
  have HB4 : Hid (Below w.heap.size w w4) := zh (HB3.out.trans (hb4.mono HB3.out.size))
  clear hb4 HPA
  go_wp2_with fail
  go_ret
  exact ⟨rfl, HB4.out⟩
 have HWS := zh (WsAt.of hwa ha hl40 hok)
 clear ha hwa hba hco hl40 hok
 go_wp2_with fail
 refine HPA.out.mono ?_
 rintro e w4 ⟨q, b, rfl, hR, hb4⟩
 have HB4 : Hid (Below w.heap.size w w4) := zh (HB3.out.trans (hb4.mono HB3.out.size))
 have HW4 := zh (HWS.out.below hb4)
 have HR := zh hR
 clear hb4 HPA hR
 cases b with
 | false =>
  go_wp2_with fail
  go_ret
  exact ⟨rfl, HB4.out⟩
 | true =>
 obtain ⟨R, hR⟩ := HR.out rfl
 by_cases h3 : (300 : Int) < (p.size : Int)
 ·clear hR
  go_wp2_with fail
  go_ret
  exact ⟨rfl, HB4.out⟩
 by_cases h4 : (30 : Int) < (ni : Int)
 ·clear hR
  go_wp2_with fail
  go_ret
  exact ⟨rfl, HB4.out⟩
 have d3 : decide ((300 : Int) < (p.size : Int)) = false := decide_eq_false h3
 have d4 : decide ((30 : Int) < (ni : Int)) = false := decide_eq_false h4
 have HP : Hid (p.size ≤ 300) := zh (by omega)
 have hni : ni ≤ 30 := by omega
 have HRR := zh hR
 have HBF : Hid (∀ W, Below w4.heap.size w4 W → Below w.heap.size w W) := zh (fun W hb => HB4.out.trans (hb.mono HB4.out.size))
 obtain ⟨F, hF⟩ : ∃ F, whyF E p now c R = F := ⟨_, rfl⟩
 have HWY : Hid (∀ x : ByteArray, x.size ≤ 300 → ∀ W, Below w4.heap.size w4 W → Calls Tryz.prog 22 #[.pointer (some ⟨wb, 0, none⟩), .string p, .string x, .int .i64 now, .pointer q] W fun e w' => e = .returned (.int .i64 (F x : Nat)) ∧ Below W.heap.size W w') := zh (fun x hx W hb => by rw [← hF]; exact lwhy_any W wb _ c E p x now q R (HW4.out.below hb) (HRR.out.below hb) (HL.out.keep (HBF.out W hb)).g HP.out hx HNOW.out)
 have HOF : Hid (∀ x : ByteArray, x.size ≤ 300 → ∀ W, Below w4.heap.size w4 W → OfIs wb p now q F x W) := zh (fun x hx W hb => by rw [← hF]; exact of_law (HW4.out.below hb) (HRR.out.below hb) (HL.out.keep (HBF.out W hb)).g HP.out HNOW.out hx)
 clear hR h3 h4 HRR HR HWS hF
 obtain ⟨i0, hi0, hz0, hz1, hz2⟩ := info_parts str_info
 go_wp2_with fail
 go_loopw [16, 17] (fun v i wr => ∃ (k m c5 : Nat) (A5 : Option Addr), k ≤ ni ∧ m ≤ k ∧ i = .int .i64 k ∧ v = .slice A5 m c5 ∧ Hid ((passL F (li.take k)).length = m) ∧ Hid (wr.ownsRow w4.heap.size 9 1 (.slice A5 m c5) m ((passL F (li.take k)).map .string)) ∧ Hid (∀ j x, j < k → li[j]? = some x → x.size ≤ 300) ∧ Hid (Below w4.heap.size w4 wr)) (fun _ i _ => ni - (intOf i).toNat)
 case atStart => exact ⟨0, 0, 0, none, Nat.zero_le _, Nat.le_refl _, rfl, rfl, zh rfl, zh (own_nil w4 _ _ _), zh (fun j x hj => by omega), zh (Below.refl _ _)⟩
 case round =>
  obtain ⟨k, m, c5, A5, hk, hmk, rfl, rfl, hm, hrow, hsz, hbw⟩ := hrel
  have hwz := hbw.out.size
  by_cases hlt : k < ni
  ·obtain ⟨x, hx⟩ : ∃ x, li[k]? = some x := ⟨li[k]'(by rw [HSS.out.1]; exact hlt), List.getElem?_eq_getElem _⟩
   obtain ⟨g, o, rfl, hgB, hc⟩ := HSS.out.2.1.at (by omega)
   have e0 : wr.cell? ⟨g, o + k, none⟩ = some (Value.string x) := ((HBF.out wr hbw.out).cell (p := ⟨g, o + k, none⟩) (by show g < w.heap.size; omega)).trans (hc k _ (by simp [hx]))
   have hxs := HSS.out.2.2.2 x (List.mem_of_getElem? hx)
   have hk8 : (k : Int) < (ni : Int) := by omega
   have hk9 : (0 : Int) ≤ (k : Int) := by omega
   have HBW := hbw
   by_cases h5 : (300 : Int) < (x.size : Int)
   ·clear hc hx
    go_wp2_with fail
    go_ret
    exact ⟨rfl, HBF.out wr hbw.out⟩
   have d5 : decide ((300 : Int) < (x.size : Int)) = false := decide_eq_false h5
   have HX3 : Hid (x.size ≤ 300) := zh (by omega)
   have HC := zh (HWY.out x HX3.out wr hbw.out)
   obtain ⟨y, hy⟩ : ∃ y : Nat, F x = y := ⟨_, rfl⟩
   have HPS := zh (passL_snoc F hx)
   have HSZ : Hid (∀ j u, j < k + 1 → li[j]? = some u → u.size ≤ 300) := zh (fun j u hj hu => by
    by_cases e : j = k
    ·subst e; rw [hx] at hu; cases hu; exact HX3.out
    ·exact hsz.out j u (by omega) hu)
   rw [hy] at HC HPS
   clear hc hx hy h5
   go_wp2_with fail
   refine HC.out.mono ?_
   rintro e w2 ⟨rfl, hb2⟩
   have HB2 : Hid (Below w4.heap.size w4 w2) := zh (hbw.out.trans (hb2.mono hwz))
   have HR2 : Hid (w2.ownsRow w4.heap.size 9 1 (.slice A5 m c5) m ((passL F (li.take k)).map .string)) := zh (Ru.own_below hrow.out hb2)
   have hw2 := hb2.size
   have e1 : w2.cell? ⟨g, o + k, none⟩ = some (Value.string x) := (hb2.cell (p := ⟨g, o + k, none⟩) (by show g < wr.heap.size; have := HB4.out.size; omega)).trans e0
   clear hb2 HC e0 hxs
   by_cases h0 : y = 0
   ·subst h0
    have HPN : Hid (passL F (li.take (k + 1)) = passL F (li.take k) ++ [x]) := zh (by rw [HPS.out, if_pos rfl])
    have hzz : ((0 : Nat) : Int) = 0 := rfl
    go_wp2_with (first
     | (at_builtin; refine wpList_append_row _ rfl _ _ 50 rfl w4.heap.size 9 i0 _ 1 16 Tryz.underlying50 hi0 hz0 hz1 hz2 rfl (by omega) (.slice A5 m c5) m _ rfl (HR2.out.alloc _) (w2.heap.size + 1) (some ⟨w2.heap.size, 0, none⟩) 1 1 [.string x] rfl (one_str w2 x _) (fun h => by cases h) (fun u hu => by simp at hu; subst hu; rfl) (by unfold maxLen; omega) (by omega) (by simp; omega) ?_; intro v7 w7 ho7 hg7 hv7)
     | fail)
    obtain ⟨A7, c7, hr7⟩ := own_shape ho7
    subst hr7
    go_wp2_with fail
    go_roundw
    case rel =>
     exact ⟨k + 1, m + 1, c7, A7, by omega, by omega, by go_num, rfl, zh (by rw [HPN.out, List.length_append, hm.out]; rfl), zh (by rw [HPN.out, List.map_append]; exact ho7), HSZ, zh ((HB2.out.alloc (Nat.le_trans hwz hw2) _).grown hg7 (by simp; omega) (fun j hj => (HR2.out.lt _ hj).1))⟩
    case measure => simp [intOf]; omega
   ·have HPN : Hid (passL F (li.take (k + 1)) = passL F (li.take k)) := zh (by rw [HPS.out, if_neg h0, List.append_nil])
    have hzz : ((y : Int) == 0) = false := by rw [Bool.eq_false_iff]; intro e; have := beq_iff_eq.1 e; omega
    go_wp2_with fail
    go_roundw
    case rel => exact ⟨k + 1, m, c5, A5, by omega, by omega, by go_num, rfl, zh (by rw [HPN.out]; exact hm.out), zh (by rw [HPN.out]; exact HR2.out), HSZ, HB2⟩
    case measure => simp [intOf]; omega
  ·obtain rfl : ni = k := by omega
   have HT : Hid (li.take ni = li) := zh (by rw [← HSS.out.1, List.take_length])
   rw [HT.out] at hm hrow
   have HPA := zh (pass_any wr wb p now q F w.heap.size Ai li ni ci HSS.out.1 (HSS.out.2.1.below (HBF.out wr hbw.out)) (Nat.le_trans HB4.out.size hwz) (by omega) (fun x hx W hb => by
    obtain ⟨j, hj⟩ := List.mem_iff_getElem?.1 hx
    have hjl := (List.getElem?_eq_some_iff.1 hj).1
    exact HOF.out x (hsz.out j x (by rw [HSS.out.1] at hjl; exact hjl) hj) W (hbw.out.trans (hb.mono hwz))))
   unfold PassR at HPA
   go_wp2_with fail
   refine HPA.out.mono ?_
   rintro e w7 ⟨A7, c7, rfl, h7, hb7⟩
   have HB7 : Hid (Below w4.heap.size w4 w7) := zh (hbw.out.trans (hb7.mono hwz))
   have HTX := zh (texts_any w7 A7 A5 (passL F li) (passL F li) (passL F li).length m c7 c5 w7.heap.size w7.heap.size rfl hm.out (RowIn.of_own h7) (RowIn.of_own (Ru.own_below hrow.out hb7)) (by have := passL_len F li; rw [HSS.out.1] at this; omega))
   clear h7 hb7 HPA
   go_wp2_with fail
   refine HTX.out.mono ?_
   rintro e w8 ⟨b, rfl, hb8, nq, rfl⟩
   obtain rfl : b = true := hb8.2 trivial
   have HB8 : Hid (Below w4.heap.size w4 (w7.drewN nq)) := zh (below_drewN HB7.out nq)
   clear hb8 HTX
   go_wp2_with fail
   go_ret
   exact ⟨rfl, HBF.out _ HB8.out⟩
end Go.Proofs.YthdmpcnnbminlaaGreatDoor
