/- FilterTells: the walk. -/
import Derived.Test.YthdmpcnnbminlaaGreatDoorFlJ
namespace Go.Proofs.YthdmpcnnbminlaaGreatDoor
open Go.Shelf Go.RowKit Go.Maps
open Ru (Fz fzA fzX Nd holdsR RuleV ruleT Says errOf ErrAt TabAt)
set_option linter.unusedVariables false
set_option maxHeartbeats 8000000 in
set_option maxRecDepth 100000 in
theorem filterTells_walk (c : Cfg) (A : Option Addr) (n cp : Nat) (l : List Ev) (p i : ByteArray) (now : Int) (s : ByteArray) (y : Int) (w : World) (h : LawIn w c A n cp l) (hp : p.size ≤ 281474976710656) (hi : i.size ≤ 281474976710656) (hnow : InR now) (hs : s.size ≤ 281474976710656) (hy : InR y) :
  Calls Tryz.prog 4 #[cfgA c, .slice A n cp, .string p, .string i, .int .i64 now, .string s, .int .i64 y] w (TrueR w) := by
 obtain ⟨w1, hw1⟩ : ∃ w1, w.alloc (.cells (cfgArr c) 23) = w1 := ⟨_, rfl⟩
 have be1 : Hid (Blk w1 w.heap.size 23 (cfgArr c)) := zh (by rw [← hw1]; exact Blk.new _ _ _)
 have HB1 : Hid (Below w.heap.size w w1) := zh (by rw [← hw1]; exact (Below.refl _ _).alloc (Nat.le_refl _) _)
 have HLV := zh (lives_any w1 (h.lib.keep HB1.out) (h.nm.keep HB1.out))
 have HL := zh h.lib
 have HNM := zh h.nm
 obtain ⟨hn, hl, hb, _, hbd⟩ := h.arg
 have HAR := zh (And.intro hn (And.intro hl (And.intro hb hbd)))
 have HNOW := zh hnow
 have HS := zh hs
 unfold cfgA
 unfold cfgArr at hw1
 clear h hn hl hb hbd hnow hs
 go_enter Tryz.func4, Tryz.ntmps4
 go_wp2_with fail
 refine HLV.out.mono ?_
 rintro e w2 ⟨rfl, hb2⟩
 have HB2 : Hid (Below w.heap.size w w2) := zh (HB1.out.trans (hb2.mono HB1.out.size))
 have HE2 : Hid (Blk w2 w.heap.size 23 (cfgArr c)) := zh ((hb2.block _ be1.out.lt).trans be1.out)
 have hld := load_cfg HE2.out
 have y0 : w2.cell? ⟨w.heap.size, 0, none⟩ = some (.int .i64 c.half) := HE2.out.cell 0
 have y1 : w2.cell? ⟨w.heap.size, 1, none⟩ = some (.int .i64 c.width) := HE2.out.cell 1
 have y2 : w2.cell? ⟨w.heap.size, 2, none⟩ = some (.int .i64 c.gap) := HE2.out.cell 2
 have y3 : w2.cell? ⟨w.heap.size, 3, none⟩ = some (.int .i64 c.span) := HE2.out.cell 3
 have y4 : w2.cell? ⟨w.heap.size, 4, none⟩ = some (.int .i64 c.floor) := HE2.out.cell 4
 have y5 : w2.cell? ⟨w.heap.size, 5, none⟩ = some (.int .i64 c.crowd) := HE2.out.cell 5
 have HMD := zh (made_any c w2 w.heap.size A l n cp HAR.out.1 (HAR.out.2.1.below HB2.out) HB2.out.size HAR.out.2.2.1 HAR.out.2.2.2 (fun V hV => by have k := HL.out.keep (HB2.out.trans (hV.mono HB2.out.size)); exact ⟨k.g, k.k, k.t⟩))
 unfold cfgA at HMD
 clear hb2 HLV hw1 be1 hld
 go_wp2_with fail
 refine HMD.out.mono ?_
 rintro e w3 ⟨hm3, hb3⟩
 have HB3 : Hid (Below w.heap.size w w3) := zh (HB2.out.trans (hb3.mono HB2.out.size))
 have HPA := zh (parsed_any s w3 HS.out (HL.out.keep HB3.out))
 clear hb3 HMD y0 y1 y2 y3 y4 y5 HE2
 rcases hm3 with rfl | ⟨wb, base, E, rfl, ha, hwa, hba, hco, hl40, hok⟩
 ·go_wp2_with fail
  refine HPA.out.mono ?_
  rintro e w4 ⟨q, b, rfl, _, hb4⟩
  have HB4 : Hid (Below w.heap.size w w4) := zh (HB3.out.trans (hb4.mono HB3.out.size))
  clear hb4 HPA
  go_wp2_with fail
  go_ret
  exact ⟨rfl, HB4.out⟩
 have HWS := zh (WsAt.of hwa ha hl40 hok)
 clear ha hwa hba hco hl40 hok
 go_wp2_with fail
 refine HPA.out.mono ?_
 rintro e w4 ⟨q, b, rfl, hR, hb4⟩
 have HB4 : Hid (Below w.heap.size w w4) := zh (HB3.out.trans (hb4.mono HB3.out.size))
 have HW4 := zh (HWS.out.below hb4)
 have HR := zh hR
 clear hb4 HPA hR
 cases b with
 | false =>
  go_wp2_with fail
  go_ret
  exact ⟨rfl, HB4.out⟩
 | true =>
 obtain ⟨R, hR⟩ := HR.out rfl
 by_cases h3 : (300 : Int) < (p.size : Int)
 ·clear hR
  go_wp2_with fail
  go_ret
  exact ⟨rfl, HB4.out⟩
 by_cases h4 : (300 : Int) < (i.size : Int)
 ·clear hR
  go_wp2_with fail
  go_ret
  exact ⟨rfl, HB4.out⟩
 have d3 : decide ((300 : Int) < (p.size : Int)) = false := decide_eq_false h3
 have d4 : decide ((300 : Int) < (i.size : Int)) = false := decide_eq_false h4
 have HP : Hid (p.size ≤ 300) := zh (by omega)
 have HI : Hid (i.size ≤ 300) := zh (by omega)
 have HRR := zh hR
 have HOF := zh (of_law HW4.out hR (HL.out.keep HB4.out).g HP.out HNOW.out HI.out)
 have HWY : Hid (∀ W, Below w4.heap.size w4 W → Calls Tryz.prog 22 #[.pointer (some ⟨wb, 0, none⟩), .string p, .string i, .int .i64 now, .pointer q] W fun e w' => e = .returned (.int .i64 (whyF E p now c R i : Nat)) ∧ Below W.heap.size W w') := zh (fun W hb => lwhy_any W wb _ c E p i now q R (HW4.out.below hb) (HRR.out.below hb) (HL.out.keep (HB4.out.trans (hb.mono HB4.out.size))).g HP.out HI.out HNOW.out)
 have HFA : Hid (∀ W, Below w4.heap.size w4 W → Calls Tryz.prog 19 #[.pointer (some ⟨wb, 0, none⟩), .string p, .string i, .int .i64 now] W (FactsR E p i now W)) := zh (fun W hb => facts_law (HW4.out.below hb) HP.out HNOW.out HI.out)
 have HLF : Hid (∀ W, Below w4.heap.size w4 W → Calls Tryz.prog 23 #[.pointer (some ⟨wb, 0, none⟩), .string p, .string i, .int .i64 now] W (FactsR E p i now W)) := zh (fun W hb => lfacts_law (HW4.out.below hb) HP.out HNOW.out HI.out)
 have HBF : Hid (∀ W, Below w4.heap.size w4 W → Below w.heap.size w W) := zh (fun W hb => HB4.out.trans (hb.mono HB4.out.size))
 obtain ⟨v, hv⟩ : ∃ v : Nat, whyF E p now c R i = v := ⟨_, rfl⟩
 obtain ⟨z, hz⟩ : ∃ z, fzOf E p i now = z := ⟨_, rfl⟩
 unfold OfIs at HOF
 rw [hv] at HOF HWY
 clear hv hR h3 h4 HRR HR HWS
 have hvv : ((v : Int) == (v : Int)) = true := beq_self_eq_true _
 go_wp2_with fail
 refine HOF.out.mono ?_
 rintro e w5 ⟨rfl, hb5⟩
 have HC5 : Hid (Below w4.heap.size w4 w5) := zh hb5
 have HC := zh (HWY.out w5 hb5)
 clear hb5 HOF HWY
 go_wp2_with fail
 refine HC.out.mono ?_
 rintro e w6 ⟨rfl, hb6⟩
 have HC6 : Hid (Below w4.heap.size w4 w6) := zh (HC5.out.trans (hb6.mono HC5.out.size))
 have HF := zh (HFA.out w6 HC6.out)
 unfold FactsR at HF
 rw [hz] at HF
 unfold fzA at HF
 clear hb6 HC HFA
 go_wp2_with fail
 refine HF.out.mono ?_
 rintro e w7 ⟨rfl, hb7⟩
 have HC7 : Hid (Below w4.heap.size w4 w7) := zh (HC6.out.trans (hb7.mono HC6.out.size))
 have HF := zh (HLF.out w7 HC7.out)
 unfold FactsR at HF
 rw [hz] at HF
 unfold fzA at HF
 clear hb7 HLF hz
 go_wp2_with fail
 refine HF.out.mono ?_
 rintro e w8 ⟨rfl, hb8⟩
 have HC8 : Hid (Below w4.heap.size w4 w8) := zh (HC7.out.trans (hb8.mono HC7.out.size))
 have HN8 := zh (fname_any y w8 (HNM.out.keep (HBF.out w8 HC8.out)))
 clear hb8 HF
 go_wp2_with fail
 refine HN8.out.mono ?_
 rintro e w9 ⟨rfl, hb9⟩
 have HC9 : Hid (Below w4.heap.size w4 w9) := zh (HC8.out.trans (hb9.mono HC8.out.size))
 have HN9 := zh (rwname_any y w9)
 clear hb9 HN8
 generalize whyN y = nm at *
 go_wp2_with fail
 refine HN9.out.mono ?_
 rintro e w10 ⟨rfl, hb10⟩
 have HC10 : Hid (Below w4.heap.size w4 w10) := zh (HC9.out.trans (hb10.mono HC9.out.size))
 clear hb10 HN9
 go_wp2_with fail
 go_ret
 exact ⟨rfl, HBF.out w10 HC10.out⟩
end Go.Proofs.YthdmpcnnbminlaaGreatDoor
