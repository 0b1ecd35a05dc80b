/- FilterRules: the walk. -/
import Derived.Test.YthdmpcnnbminlaaGreatDoorFlO
import Derived.Test.YthdmpcnnbminlaaGreatDoorFlM
namespace Go.Proofs.YthdmpcnnbminlaaGreatDoor
open Go.Shelf Go.RowKit Go.Maps
open Ru (Fz fzA fzX Nd NdAt holdsR RuleV ruleT Says errOf ErrAt TabAt)
set_option linter.unusedVariables false
theorem nd_low {w : World} {B B' : Nat} {n : Nd} {v : Value} (h : NdAt w B n v) (hB : B' ≤ B) : NdAt w B' n v := by
 induction h with
 | atom a => exact .atom a
 | no h ih => exact .no ih
 | row hr hl h ih => exact .row (hr.low hB) hl ih
theorem RlIs.low {w : World} {B B' : Nat} {R : Option (Option Nd)} {q : Option Addr} (h : RlIs w B R q) (hB : B' ≤ B) : RlIs w B' R q := by
 match R, h with
 | none, h => exact h
 | some none, ⟨h1, ⟨g, e, hg, hb⟩, h3⟩ => exact ⟨h1, ⟨g, e, Nat.le_trans hB hg, hb⟩, h3⟩
 | some (some n), ⟨h1, ⟨hn, g, u, e, hg, hb, hu⟩, h3⟩ => exact ⟨h1, ⟨hn, g, u, e, Nat.le_trans hB hg, hb, nd_low hu hB⟩, h3⟩
noncomputable def whyH (E : List Ev) (p : ByteArray) (now : Int) (c : Cfg) (H : Fz → Bool) (x : ByteArray) : Nat := whyP (fzOf E p x now) (hidP E p x now) c.crowd c.span (H (fzOf E p x now))
theorem of_lawH {w : World} {wb : Nat} {c : Cfg} {E : List Ev} {p : ByteArray} {now : Int} {H : Fz → Bool} {q : Option Addr} (h : WsAt w wb c E) (hr : RuleH w (.pointer q) H) (hp : p.size ≤ 300) (hnow : InR now) {x : ByteArray} (hx : x.size ≤ 300) : OfIs wb p now q (whyH E p now c H) x w := by
 obtain ⟨ct, cr, h1⟩ := h.at_
 exact of_any w wb ct cr c E p x now q H h1 hr h.ok (by have := h.few; omega) hp hx hnow (fz_tags h.ok hx)
theorem whyP_and (z : Fz) (hid : Bool) (crowd span : Int) (a b : Bool) : whyP z hid crowd span (a && b) = 0 ↔ whyP z hid crowd span a = 0 ∧ whyP z hid crowd span b = 0 := by
 rw [whyP_fst, whyP_fst, whyP_fst]
 unfold rowL
 generalize (!z.listed) = a0
 generalize decide (z.stock = 0) = a1
 generalize z.done = a3
 generalize (decide (z.fans < crowd) && decide (span < z.age)) = a4
 cases a0 <;> cases a1 <;> cases hid <;> cases a3 <;> cases a4 <;> cases a <;> cases b <;> decide
theorem whyH_two (E : List Ev) (p : ByteArray) (now : Int) (c : Cfg) (R R2 : Option (Option Nd)) (x : ByteArray) : whyH E p now c (fun z => [R, R2].all fun R => okP R z) x = 0 ↔ whyF E p now c R x = 0 ∧ whyF E p now c R2 x = 0 := by
 unfold whyH whyF whyW
 have e : ([R, R2].all fun R => okP R (fzOf E p x now)) = (okP R (fzOf E p x now) && okP R2 (fzOf E p x now)) := by simp
 dsimp only
 rw [e]
 exact whyP_and _ _ _ _ _ _
theorem passL_both {F FA FB : ByteArray → Nat} (h : ∀ x, F x = 0 ↔ FA x = 0 ∧ FB x = 0) (l : List ByteArray) : passL F l = passL FB (passL FA l) := by
 unfold passL
 rw [List.filter_filter]
 refine List.filter_congr (fun x _ => ?_)
 rw [Bool.eq_iff_iff]
 simp [h x, and_comm]
set_option maxHeartbeats 8000000 in
set_option maxRecDepth 100000 in
theorem filterRules_walk (c : Cfg) (A : Option Addr) (n cp : Nat) (l : List Ev) (p : ByteArray) (now : Int) (s t : ByteArray) (Ai : Option Addr) (ni ci : Nat) (li : List ByteArray) (w : World) (h : LawIn w c A n cp l) (hp : p.size ≤ 281474976710656) (hnow : InR now) (hs : s.size ≤ 281474976710656) (ht : t.size ≤ 281474976710656) (hss : SsArg w Ai ni ci li) :
  Calls Tryz.prog 7 #[cfgA c, .slice A n cp, .string p, .int .i64 now, .string s, .string t, .slice Ai ni ci] w (TrueR w) := by
 obtain ⟨w1, hw1⟩ : ∃ w1, w.alloc (.cells (cfgArr c) 23) = w1 := ⟨_, rfl⟩
 have be1 : Hid (Blk w1 w.heap.size 23 (cfgArr c)) := zh (by rw [← hw1]; exact Blk.new _ _ _)
 have HB1 : Hid (Below w.heap.size w w1) := zh (by rw [← hw1]; exact (Below.refl _ _).alloc (Nat.le_refl _) _)
 have HLV := zh (lives_any w1 (h.lib.keep HB1.out) (h.nm.keep HB1.out))
 have HL := zh h.lib
 have HNM := zh h.nm
 have HSS := zh hss
 obtain ⟨hn, hl, hb, _, hbd⟩ := h.arg
 have HAR := zh (And.intro hn (And.intro hl (And.intro hb hbd)))
 have HNOW := zh hnow
 have HS := zh hs
 have HT := zh ht
 unfold cfgA
 unfold cfgArr at hw1
 clear h hn hl hb hbd hnow hs ht hss
 go_enter Tryz.func7, Tryz.ntmps7
 go_wp2_with fail
 refine HLV.out.mono ?_
 rintro e w2 ⟨rfl, hb2⟩
 have HB2 : Hid (Below w.heap.size w w2) := zh (HB1.out.trans (hb2.mono HB1.out.size))
 have HE2 : Hid (Blk w2 w.heap.size 23 (cfgArr c)) := zh ((hb2.block _ be1.out.lt).trans be1.out)
 have hld := load_cfg HE2.out
 have y0 : w2.cell? ⟨w.heap.size, 0, none⟩ = some (.int .i64 c.half) := HE2.out.cell 0
 have y1 : w2.cell? ⟨w.heap.size, 1, none⟩ = some (.int .i64 c.width) := HE2.out.cell 1
 have y2 : w2.cell? ⟨w.heap.size, 2, none⟩ = some (.int .i64 c.gap) := HE2.out.cell 2
 have y3 : w2.cell? ⟨w.heap.size, 3, none⟩ = some (.int .i64 c.span) := HE2.out.cell 3
 have y4 : w2.cell? ⟨w.heap.size, 4, none⟩ = some (.int .i64 c.floor) := HE2.out.cell 4
 have y5 : w2.cell? ⟨w.heap.size, 5, none⟩ = some (.int .i64 c.crowd) := HE2.out.cell 5
 have HMD := zh (made_any c w2 w.heap.size A l n cp HAR.out.1 (HAR.out.2.1.below HB2.out) HB2.out.size HAR.out.2.2.1 HAR.out.2.2.2 (fun V hV => by have k := HL.out.keep (HB2.out.trans (hV.mono HB2.out.size)); exact ⟨k.g, k.k, k.t⟩))
 unfold cfgA at HMD
 clear hb2 HLV hw1 be1 hld
 go_wp2_with fail
 refine HMD.out.mono ?_
 rintro e w3 ⟨hm3, hb3⟩
 have HB3 : Hid (Below w.heap.size w w3) := zh (HB2.out.trans (hb3.mono HB2.out.size))
 have HPA := zh (parsed_any s w3 HS.out (HL.out.keep HB3.out))
 clear hb3 HMD y0 y1 y2 y3 y4 y5 HE2
 rcases hm3 with rfl | ⟨wb, base, E, rfl, ha, hwa, hba, hco, hl40, hok⟩
 ·go_wp2_with fail
  refine HPA.out.mono ?_
  rintro e w4 ⟨q, b, rfl, _, hb4⟩
  have HB4 : Hid (Below w.heap.size w w4) := zh (HB3.out.trans (hb4.mono HB3.out.size))
  have HPB := zh (parsed_any t w4 HT.out (HL.out.keep HB4.out))
  clear hb4 HPA
  go_wp2_with fail
  refine HPB.out.mono ?_
  rintro e w5 ⟨q2, b2, rfl, _, hb5⟩
  have HB5 : Hid (Below w.heap.size w w5) := zh (HB4.out.trans (hb5.mono HB4.out.size))
  clear hb5 HPB
  go_wp2_with fail
  go_ret
  exact ⟨rfl, HB5.out⟩
 have HWS := zh (WsAt.of hwa ha hl40 hok)
 clear ha hwa hba hco hl40 hok
 go_wp2_with fail
 refine HPA.out.mono ?_
 rintro e w4 ⟨q, b, rfl, hR, hb4⟩
 have HB34 := zh hb4
 have HB4 : Hid (Below w.heap.size w w4) := zh (HB3.out.trans (hb4.mono HB3.out.size))
 have HPB := zh (parsed_any t w4 HT.out (HL.out.keep HB4.out))
 have HR := zh hR
 clear hb4 HPA hR
 go_wp2_with fail
 refine HPB.out.mono ?_
 rintro e w5 ⟨q2, b2, rfl, hR2, hb5⟩
 have HB5 : Hid (Below w.heap.size w w5) := zh (HB4.out.trans (hb5.mono HB4.out.size))
 have HB45 := zh hb5
 have HB3S : Hid (w3.heap.size ≤ w5.heap.size) := zh (Nat.le_trans HB34.out.size hb5.size)
 have HW5 := zh (HWS.out.below (HB34.out.trans (hb5.mono HB34.out.size)))
 have HR2 := zh hR2
 clear hb5 HPB hR2 HWS
 cases b with
 | false =>
  go_wp2_with fail
  go_ret
  exact ⟨rfl, HB5.out⟩
 | true =>
 cases b2 with
 | false =>
  go_wp2_with fail
  go_ret
  exact ⟨rfl, HB5.out⟩
 | true =>
 by_cases h3 : (300 : Int) < (p.size : Int)
 ·go_wp2_with fail
  go_ret
  exact ⟨rfl, HB5.out⟩
 by_cases h4 : (30 : Int) < (ni : Int)
 ·go_wp2_with fail
  go_ret
  exact ⟨rfl, HB5.out⟩
 have d3 : decide ((300 : Int) < (p.size : Int)) = false := decide_eq_false h3
 have d4 : decide ((30 : Int) < (ni : Int)) = false := decide_eq_false h4
 have HP : Hid (p.size ≤ 300) := zh (by omega)
 have hni : ni ≤ 30 := by omega
 obtain ⟨R, hRa⟩ := HR.out rfl
 obtain ⟨R2, hRb⟩ := HR2.out rfl
 have HRA : Hid (RlIs w5 w3.heap.size R q) := zh (hRa.below HB45.out)
 have HRB : Hid (RlIs w5 w3.heap.size R2 q2) := zh (hRb.low HB34.out.size)
 have HBF : Hid (∀ W, Below w5.heap.size w5 W → Below w.heap.size w W) := zh (fun W hb => HB5.out.trans (hb.mono HB5.out.size))
 obtain ⟨FA, hFA⟩ : ∃ F, whyF E p now c R = F := ⟨_, rfl⟩
 obtain ⟨FB, hFB⟩ : ∃ F, whyF E p now c R2 = F := ⟨_, rfl⟩
 obtain ⟨FC, hFC⟩ : ∃ F, whyH E p now c (fun z => [R, R2].all fun R => okP R z) = F := ⟨_, rfl⟩
 have HAB : Hid (∀ l, passL FC l = passL FB (passL FA l)) := zh (fun l => passL_both (fun x => by rw [← hFA, ← hFB, ← hFC]; exact (whyH_two _ _ _ _ _ _ _).trans ⟨fun h => h, fun h => h⟩) l)
 have HBA : Hid (∀ l, passL FC l = passL FA (passL FB l)) := zh (fun l => passL_both (fun x => by rw [← hFA, ← hFB, ← hFC]; exact (whyH_two _ _ _ _ _ _ _).trans ⟨fun h => ⟨h.2, h.1⟩, fun h => ⟨h.2, h.1⟩⟩) l)
 have HOA : Hid (∀ x : ByteArray, x.size ≤ 300 → ∀ W, Below w5.heap.size w5 W → OfIs wb p now q FA x W) := zh (fun x hx W hb => by rw [← hFA]; exact of_law (HW5.out.below hb) (HRA.out.below hb) (HL.out.keep (HBF.out W hb)).g HP.out HNOW.out hx)
 have HOB : Hid (∀ x : ByteArray, x.size ≤ 300 → ∀ W, Below w5.heap.size w5 W → OfIs wb p now q2 FB x W) := zh (fun x hx W hb => by rw [← hFB]; exact of_law (HW5.out.below hb) (HRB.out.below hb) (HL.out.keep (HBF.out W hb)).g HP.out HNOW.out hx)
 have HOC : Hid (∀ q3, ∀ V, Below w5.heap.size w5 V → RuleH V (.pointer q3) (fun z => [R, R2].all fun R => okP R z) → ∀ x : ByteArray, x.size ≤ 300 → ∀ W, Below V.heap.size V W → OfIs wb p now q3 FC x W) := zh (fun q3 V hV hr x hx W hb => by rw [← hFC]; exact of_lawH (HW5.out.below (hV.trans (hb.mono hV.size))) (hr.below hb) HP.out HNOW.out hx)
 clear hFA hFB hFC hRa hRb h3 h4 HR HR2 HB34 HB45
 go_wp2_with fail
 go_loopw [20] (fun i wr => ∃ k : Nat, k ≤ ni ∧ i = .int .i64 k ∧ Hid (∀ j x, j < k → li[j]? = some x → x.size ≤ 300) ∧ w5 = wr) (fun i _ => ni - (intOf i).toNat)
 case atStart => exact ⟨0, Nat.zero_le _, rfl, zh (fun j x hj => by omega), rfl⟩
 case round =>
  obtain ⟨k, hk, rfl, hsz, rfl⟩ := hrel
  by_cases hlt : k < ni
  ·obtain ⟨x, hx⟩ : ∃ x, li[k]? = some x := ⟨li[k]'(by rw [HSS.out.1]; exact hlt), List.getElem?_eq_getElem _⟩
   obtain ⟨g, o, rfl, hgB, hc⟩ := HSS.out.2.1.at (by omega)
   have e0 : w5.cell? ⟨g, o + k, none⟩ = some (Value.string x) := (HB5.out.cell (p := ⟨g, o + k, none⟩) (by show g < w.heap.size; omega)).trans (hc k _ (by simp [hx]))
   have hxs := HSS.out.2.2.2 x (List.mem_of_getElem? hx)
   have hk8 : (k : Int) < (ni : Int) := by omega
   have hk9 : (0 : Int) ≤ (k : Int) := by omega
   by_cases h5 : (300 : Int) < (x.size : Int)
   ·clear hc hx
    go_wp2_with fail
    go_ret
    exact ⟨rfl, HB5.out⟩
   have d5 : decide ((300 : Int) < (x.size : Int)) = false := decide_eq_false h5
   have HSZ : Hid (∀ j u, j < k + 1 → li[j]? = some u → u.size ≤ 300) := zh (fun j u hj hu => by
    by_cases e : j = k
    ·subst e; rw [hx] at hu; cases hu; omega
    ·exact hsz.out j u (by omega) hu)
   clear hc hx h5
   go_wp2_with fail
   go_roundw
   case rel => exact ⟨k + 1, by omega, by go_num, HSZ, by trivial⟩
   case measure => simp [intOf]; omega
  ·obtain rfl : ni = k := by omega
   have HXS : Hid (∀ x ∈ li, x.size ≤ 300) := zh (fun x hx => by
    obtain ⟨j, hj⟩ := List.mem_iff_getElem?.1 hx
    have hjl := (List.getElem?_eq_some_iff.1 hj).1
    exact hsz.out j x (by rw [HSS.out.1] at hjl; exact hjl) hj)
   have HXF : Hid (∀ F : ByteArray → Nat, ∀ x ∈ passL F li, x.size ≤ 300) := zh (fun F x hx => HXS.out x (List.mem_filter.1 hx).1)
   have HFEW : Hid (∀ F : ByteArray → Nat, (passL F li).length ≤ 100000) := zh (fun F => by have := passL_len F li; rw [HSS.out.1] at this; omega)
   obtain ⟨w6, hw6⟩ : ∃ w6, w5.alloc (.cells #[.pointer q, .pointer q2] 43) = w6 := ⟨_, rfl⟩
   have hx6 : Blk w6 w5.heap.size 43 #[.pointer q, .pointer q2] := by rw [← hw6]; exact Blk.new _ _ _
   have HC6 : Hid (Below w5.heap.size w5 w6) := zh (by rw [← hw6]; exact (Below.refl _ _).alloc (Nat.le_refl _) _)
   have HAL := zh (all_any w6 w3.heap.size w5.heap.size [R, R2] [q, q2] rfl rfl (fun i R' q' hR' hq' => by
    match i with
    | 0 =>
     obtain rfl : R = R' := by simpa using hR'
     obtain rfl : q = q' := by simpa using hq'
     exact HRA.out.below HC6.out
    | 1 =>
     obtain rfl : R2 = R' := by simpa using hR'
     obtain rfl : q2 = q' := by simpa using hq'
     exact HRB.out.below HC6.out
    | i + 2 => simp at hR') (HL.out.keep (HBF.out w6 HC6.out)).g (fun i q' hq' => by
    match i with
    | 0 =>
     obtain rfl : q = q' := by simpa using hq'
     exact hx6.cell 0
    | 1 =>
     obtain rfl : q2 = q' := by simpa using hq'
     exact hx6.cell 1
    | i + 2 => simp at hq') hx6.lt (Nat.le_trans HB3S.out HC6.out.size))
   unfold AllR at HAL
   clear hx6
   go_wp2_with fail
   refine HAL.out.mono ?_
   rintro e w7 ⟨g3, rfl, hr3, hb7⟩
   have HC7 : Hid (Below w5.heap.size w5 w7) := zh (HC6.out.trans (hb7.mono HC6.out.size))
   have HP7 := zh (pass_any w7 wb p now (some ⟨g3, 0, none⟩) FC w.heap.size Ai li ni ci HSS.out.1 (HSS.out.2.1.below (HBF.out w7 HC7.out)) (Nat.le_trans HB5.out.size HC7.out.size) (by omega) (fun x hx W hb => HOC.out _ w7 HC7.out hr3 x (HXS.out x hx) W hb))
   unfold PassR at HP7
   clear hr3 hb7 HAL
   go_wp2_with fail
   refine HP7.out.mono ?_
   rintro e w8 ⟨A8, c8, rfl, h8, hb8⟩
   have HC8 : Hid (Below w5.heap.size w5 w8) := zh (HC7.out.trans (hb8.mono HC7.out.size))
   have HRW8 : Hid (RowIn w8 w8.heap.size 1 A8 (passL FC li).length ((passL FC li).map .string)) := zh (RowIn.of_own h8)
   have HPP := zh (pass_any w8 wb p now q FA w.heap.size Ai li ni ci HSS.out.1 (HSS.out.2.1.below (HBF.out w8 HC8.out)) (Nat.le_trans HB5.out.size HC8.out.size) (by omega) (fun x hx W hb => HOA.out x (HXS.out x hx) W (HC8.out.trans (hb.mono HC8.out.size))))
   unfold PassR at HPP
   clear h8 hb8 HP7
   go_wp2_with fail
   refine HPP.out.mono ?_
   rintro e w9 ⟨A9, c9, rfl, h9, hb9⟩
   have HC9 : Hid (Below w5.heap.size w5 w9) := zh (HC8.out.trans (hb9.mono HC8.out.size))
   have HZ89 : Hid (w8.heap.size ≤ w9.heap.size) := zh hb9.size
   have HRW9 : Hid (RowIn w9 w8.heap.size 1 A8 (passL FC li).length ((passL FC li).map .string)) := zh (HRW8.out.below hb9)
   have HPQ := zh (pass_any w9 wb p now q2 FB w9.heap.size A9 (passL FA li) (passL FA li).length c9 rfl (RowIn.of_own h9) (Nat.le_refl _) (HFEW.out FA) (fun x hx W hb => HOB.out x (HXF.out FA x hx) W (HC9.out.trans (hb.mono HC9.out.size))))
   unfold PassR at HPQ
   rw [← HAB.out li] at HPQ
   clear h9 hb9 HPP HRW8
   go_wp2_with fail
   refine HPQ.out.mono ?_
   rintro e w10 ⟨A10, c10, rfl, h10, hb10⟩
   have HC10 : Hid (Below w5.heap.size w5 w10) := zh (HC9.out.trans (hb10.mono HC9.out.size))
   have HZ910 : Hid (w9.heap.size ≤ w10.heap.size) := zh hb10.size
   have HRW10 : Hid (RowIn w10 w8.heap.size 1 A8 (passL FC li).length ((passL FC li).map .string)) := zh (HRW9.out.below (hb10.mono HZ89.out))
   have HTX := zh (texts_any w10 A8 A10 (passL FC li) (passL FC li) (passL FC li).length (passL FC li).length c8 c10 w8.heap.size w10.heap.size rfl rfl HRW10.out (RowIn.of_own h10) (by have := HFEW.out FC; omega))
   clear h10 hb10 HPQ HRW9
   go_wp2_with fail
   refine HTX.out.mono ?_
   rintro e w11 ⟨b, rfl, hb11, nq, rfl⟩
   obtain rfl : b = true := hb11.2 trivial
   have HC11 : Hid (Below w5.heap.size w5 (w10.drewN nq)) := zh (below_drewN HC10.out nq)
   have HZ8B : Hid (w8.heap.size ≤ (w10.drewN nq).heap.size) := zh (Nat.le_trans HZ89.out HZ910.out)
   obtain ⟨wq, hwq⟩ : ∃ z, w10.drewN nq = z := ⟨_, rfl⟩
   have HRWQ : Hid (RowIn wq w8.heap.size 1 A8 (passL FC li).length ((passL FC li).map .string)) := zh (by rw [← hwq]; exact HRW10.out.below (below_drewN (Below.refl _ _) nq))
   rw [hwq] at HC11 HZ8B
   have HPP := zh (pass_any wq wb p now q2 FB w.heap.size Ai li ni ci HSS.out.1 (HSS.out.2.1.below (HBF.out wq HC11.out)) (Nat.le_trans HB5.out.size HC11.out.size) (by omega) (fun x hx W hb => HOB.out x (HXS.out x hx) W (HC11.out.trans (hb.mono HC11.out.size))))
   unfold PassR at HPP
   clear hb11 HTX HRW10
   go_wp2_with fail
   try rw [hwq]
   clear hwq
   refine HPP.out.mono ?_
   rintro e w12 ⟨A12, c12, rfl, h12, hb12⟩
   have HC12 : Hid (Below w5.heap.size w5 w12) := zh (HC11.out.trans (hb12.mono HC11.out.size))
   have HZ12 : Hid (w8.heap.size ≤ w12.heap.size) := zh (Nat.le_trans HZ8B.out hb12.size)
   have HRW12 : Hid (RowIn w12 w8.heap.size 1 A8 (passL FC li).length ((passL FC li).map .string)) := zh (HRWQ.out.below (hb12.mono HZ8B.out))
   have HPQ := zh (pass_any w12 wb p now q FA w12.heap.size A12 (passL FB li) (passL FB li).length c12 rfl (RowIn.of_own h12) (Nat.le_refl _) (HFEW.out FB) (fun x hx W hb => HOA.out x (HXF.out FB x hx) W (HC12.out.trans (hb.mono HC12.out.size))))
   unfold PassR at HPQ
   rw [← HBA.out li] at HPQ
   clear h12 hb12 HPP HRWQ
   go_wp2_with fail
   refine HPQ.out.mono ?_
   rintro e w13 ⟨A13, c13, rfl, h13, hb13⟩
   have HC13 : Hid (Below w5.heap.size w5 w13) := zh (HC12.out.trans (hb13.mono HC12.out.size))
   have HRW13 : Hid (RowIn w13 w8.heap.size 1 A8 (passL FC li).length ((passL FC li).map .string)) := zh (HRW12.out.below (hb13.mono HZ12.out))
   have HTX := zh (texts_any w13 A8 A13 (passL FC li) (passL FC li) (passL FC li).length (passL FC li).length c8 c13 w8.heap.size w13.heap.size rfl rfl HRW13.out (RowIn.of_own h13) (by have := HFEW.out FC; omega))
   clear h13 hb13 HPQ HRW12
   go_wp2_with fail
   refine HTX.out.mono ?_
   rintro e w14 ⟨b, rfl, hb14, nq2, rfl⟩
   obtain rfl : b = true := hb14.2 trivial
   have HC14 : Hid (Below w5.heap.size w5 (w13.drewN nq2)) := zh (below_drewN HC13.out nq2)
   clear hb14 HTX
   go_wp2_with fail
   go_ret
   exact ⟨rfl, HBF.out _ HC14.out⟩
end Go.Proofs.YthdmpcnnbminlaaGreatDoor
