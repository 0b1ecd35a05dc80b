/- TopWhynot: the walk (a draft: not built yet). -/
import Derived.Test.YtnpfaajhgghpgaaGreatDoorTwP
import Derived.Test.YtnpfaajhgghpgaaGreatDoorTz
namespace Go.Proofs.YtnpfaajhgghpgaaGreatDoor
open Go.Shelf Go.RowKit Go.Maps
open Ru (TabAt Zbx)
open Ru (Fz fzA fzX Nd holdsR RuleV ruleT Says errOf ErrAt)
set_option linter.unusedVariables false

def peA : Array Value := #[.string ⟨#[112, 48]⟩, .string ⟨#[112, 49]⟩, .string ⟨#[112, 50]⟩, .string ⟨#[112, 51]⟩]
theorem peA_at {k : Nat} (hk : k < 4) : peA[k]? = some (.string (tlNm 112 k)) := by
  have : k = 0 ∨ k = 1 ∨ k = 2 ∨ k = 3 := by omega
  have e : ∀ k ∈ [0, 1, 2, 3], tlNm 112 k = ⟨#[112, UInt8.ofNat (48 + k)]⟩ := by decide +kernel
  rcases this with rfl | rfl | rfl | rfl
  all_goals
    rw [e _ (by simp)]
    rfl
def thA : Array Value := #[.string ⟨#[105, 48]⟩, .string ⟨#[105, 49]⟩, .string ⟨#[105, 50]⟩, .string ⟨#[105, 51]⟩, .string ⟨#[105, 52]⟩, .string ⟨#[105, 53]⟩]
theorem thA_at {k : Nat} (hk : k < 6) : thA[k]? = some (.string (tlNm 105 k)) := by
  have : k = 0 ∨ k = 1 ∨ k = 2 ∨ k = 3 ∨ k = 4 ∨ k = 5 := by omega
  have e : ∀ k ∈ [0, 1, 2, 3, 4, 5], tlNm 105 k = ⟨#[105, UInt8.ofNat (48 + k)]⟩ := by decide +kernel
  rcases this with rfl | rfl | rfl | rfl | rfl | rfl
  all_goals
    rw [e _ (by simp)]
    rfl
theorem people_any (w : World) : Calls Tryz.prog 6 #[] w fun e w' => e = .returned (.slice (some ⟨w.heap.size, 0, none⟩) 4 4) ∧ w' = w.alloc (.cells peA 9) := by
  go_enter Tryz.func6, Tryz.ntmps6
  go_wp2
  go_ret
  exact ⟨rfl, rfl⟩
theorem things_any (w : World) : Calls Tryz.prog 7 #[] w fun e w' => e = .returned (.slice (some ⟨w.heap.size, 0, none⟩) 6 6) ∧ w' = w.alloc (.cells thA 9) := by
  go_enter Tryz.func7, Tryz.ntmps7
  go_wp2
  go_ret
  exact ⟨rfl, rfl⟩
theorem fld_q (q0 q1 q2 q3 q4 q5 q6 q7 : Int) (v : Value) (E : Int) (w : World) : (Instr.field 54 (.agg (tlQ q0 q1 q2 q3 q4 q5 q6 q7 v E)) 2).run Tryz.prog w = .ok (.int .i64 E) w := by kernel_rfl
theorem fld_end (y : Nat → Nat) (v : Value) (E : Int) (w : World) : (Instr.field 54 (.agg (tlArr y v E)) 2).run Tryz.prog w = .ok (.int .i64 E) w := by
  unfold tlArr
  exact fld_q _ _ _ _ _ _ _ _ _ _ _
set_option maxHeartbeats 1000000 in
set_option maxRecDepth 100000 in
theorem parses_any (w : World) (hg : TlG w) : Calls Tryz.prog 5 #[] w fun e w' => e = .returned (.bool true) ∧ Below w.heap.size w w' := by
  have HP := Lib.hid (tparse_any none 0 0 [] w rfl (RowIn.nil _ _ _ _) (by omega) hg)
  clear hg
  go_enter Tryz.func5, Tryz.ntmps5
  go_wp2_with fail
  refine HP.out.mono ?_
  rintro e w1 ⟨A, c, L, E, a, b, rfl, _, _, hE, _, hb1⟩
  obtain rfl := hE (by simp)
  have HB1 := Lib.hid hb1
  clear hb1 hE HP
  have hf := fld_end (byAt []) (.slice A L.length c) 1000 w1
  go_wp2_with fail
  go_ret
  exact ⟨rfl, HB1.out⟩

set_option maxHeartbeats 8000000 in
set_option maxRecDepth 100000 in
theorem topWhynot_walk (A : Option Addr) (n c : Nat) (l : List UInt8) (who th : Nat) (hwho : who < 256) (hth : th < 256) (w : World) (hn : l.length = n) (hl : BysAt w w.heap.size A l) (hg : TlG w) (hlb : Lb2 w) :
    Calls Tryz.prog 3 #[.slice A n c, .int .u8 (who : Nat), .int .u8 (th : Nat)] w fun e w' => e = .returned (.bool true) ∧ Below w.heap.size w w' := by
  have HBG := Lib.hid (begun_any A n c l w hn hl hg)
  have HG := Lib.hid hg
  have HLB : Hid (∀ W, Below w.heap.size w W → Lb2 W) := Lib.hid (fun W hb => hlb.keep hb)
  clear hg hlb hn hl
  go_enter Tryz.func3, Tryz.ntmps3
  go_wp2_with fail
  refine HBG.out.mono ?_
  rintro e w1 ⟨Ae, me, ce, sv, E0, ok, rfl, hsv, hone, hok, hb1, htl⟩
  have HB1 := Lib.hid hb1
  have HTL := Lib.hid htl
  clear hb1 HBG htl hok
  go_upto_region 2 with (first
    | (refine Zad _ rfl 32 (.tmp 8) (.tmp 29) rfl 0 sv rfl rfl (Blk.new _ _ _) (by rw [hsv]; show 0 + 22 ≤ 22; omega) (by rw [hsv]; exact tsg_info) hone ?_; intro w2 hb2 hk2 hs2)
    | fail)
  (try simp only [Exit.inBlock, Exit.then])
  have HB12 : Hid (Below w1.heap.size w1 w2) := Lib.hid (((Below.refl _ _).alloc (Nat.le_refl _) _).trans (hk2.toBelow (fun i hi => by have e' : i = w1.heap.size := hi; omega) (by simp)))
  have HB2 : Hid (Below w.heap.size w w2) := Lib.hid (HB1.out.trans (HB12.out.mono HB1.out.size))
  have HX2 := Lib.hid hb2
  clear hb2 hk2 hs2 hsv hone
  have HPA := Lib.hid (parses_any w2 (HG.out.keep HB2.out))
  cases ok with
  | false =>
    go_wp2_with fail
    refine HPA.out.mono ?_
    rintro e w3 ⟨rfl, hb3⟩
    have HB3 : Hid (Below w.heap.size w w3) := Lib.hid (HB2.out.trans (hb3.mono HB2.out.size))
    have HPB := Lib.hid (parses_any w3 (HG.out.keep HB3.out))
    clear hb3 HPA
    go_wp2_with fail
    refine HPB.out.mono ?_
    rintro e w4 ⟨rfl, hb4⟩
    have HB4 : Hid (Below w.heap.size w w4) := Lib.hid (HB3.out.trans (hb4.mono HB3.out.size))
    clear hb4 HPB
    go_wp2_with fail
    go_ret
    exact ⟨rfl, HB4.out⟩
  | true =>
  obtain ⟨L, a, b, hti, hL6, hlen, hsvv, hevs, hnil⟩ := HTL.out rfl
  obtain ⟨s, r, ra, hsa, hsg, hsays, hcr, hrz⟩ := tl_sg (y := byAt l) (fun j => byAt_lt l j)
  rw [hsvv, put_ts, ← hsa] at HX2
  have HSG := Lib.hid hsg
  have HSY := Lib.hid hsays
  have HCR : Hid (s.cfg.crowd ≤ 12 ∧ s.rule.size ≤ 1000) := Lib.hid ⟨hcr, hrz⟩
  clear HTL hsvv hsa hsg hsays hcr hrz
  obtain ⟨ts, hts⟩ : ∃ ts, tlTells L = ts := ⟨_, rfl⟩
  rw [hts] at hlen hevs
  have HTS : Hid ((∀ e ∈ ts, TEv e) ∧ OneIds ts ∧ ts.length = me ∧ me ≤ 60 ∧ (Ae = none → ce = 0)) := Lib.hid (by
    rw [← hts]
    exact ⟨fun e he => (hti.ev e he).1, tale_ids hti.ids, by rw [hts]; exact hlen, by rw [← hlen, ← hts]; exact Nat.le_trans (tells_len L) hL6, hnil⟩)
  have HE0 : Hid (0 ≤ E0 ∧ E0 ≤ 2000) := Lib.hid (by have := hti.pos; omega)
  have HEV := Lib.hid hevs
  have HEV2 : Hid (EvsAt w2 w2.heap.size Ae ts) := Lib.hid (by unfold EvsAt at *; exact RowIn.more (HEV.out.below HB12.out) HB12.out.size)
  clear hti hL6 hlen hevs hnil hts L a b
  obtain ⟨sb, hsb⟩ : ∃ sb, w1.heap.size = sb := ⟨_, rfl⟩
  rw [hsb] at HX2
  try rw [hsb]
  clear hsb HB12 HEV
  go_wp2_with fail
  refine HPA.out.mono ?_
  rintro e w3 ⟨rfl, hb3⟩
  have HB3 : Hid (Below w.heap.size w w3) := Lib.hid (HB2.out.trans (hb3.mono HB2.out.size))
  have HX3 : Hid (Blk w3 sb 32 (sgArr s)) := Lib.hid ((hb3.block _ HX2.out.lt).trans HX2.out)
  have HEV3 : Hid (EvsAt w3 w3.heap.size Ae ts) := Lib.hid (by have h := HEV2.out; unfold EvsAt at *; exact RowIn.more (h.below hb3) hb3.size)
  clear hb3 HPA HEV2 HX2
  obtain ⟨p, hp⟩ : ∃ p, tlNm 112 (who % 4) = p := ⟨_, rfl⟩
  obtain ⟨i, hi⟩ : ∃ i, tlNm 105 (th % 6) = i := ⟨_, rfl⟩
  obtain ⟨a4, ha4⟩ : ∃ a4, who % 4 = a4 := ⟨_, rfl⟩
  obtain ⟨a6, ha6⟩ : ∃ a6, th % 6 = a6 := ⟨_, rfl⟩
  have HPN : Hid (peA[a4]? = some (.string p)) := Lib.hid (by rw [← hp, ← ha4]; exact peA_at (by omega))
  have HIN : Hid (thA[a6]? = some (.string i)) := Lib.hid (by rw [← hi, ← ha6]; exact thA_at (by omega))
  have HTD : Hid (toldB p i E0 = true) := Lib.hid (by
    rw [← hp, ← hi]
    have := HE0.out
    exact tl_told _ _ (by omega) (by omega) (by omega))
  have f1 : Int.tmod (who : Int) 4 = (a4 : Int) := by rw [← ha4]; exact tmod_nat _ 4
  have f2 : Int.tmod (th : Int) 6 = (a6 : Int) := by rw [← ha6]; exact tmod_nat _ 6
  have g1 : IntKind.u8.wrap (a4 : Int) = (a4 : Int) := by rw [IntKind.wrap_u8]; omega
  have g2 : IntKind.u8.wrap (a6 : Int) = (a6 : Int) := by rw [IntKind.wrap_u8]; omega
  have k1 : (a4 : Int) < 4 := by omega
  have k2 : (0 : Int) ≤ (a4 : Int) := by omega
  have k3 : (a6 : Int) < 6 := by omega
  have k4 : (0 : Int) ≤ (a6 : Int) := by omega
  clear hp hi ha4 ha6 hwho hth
  go_upto_region 4 with fail
  (try simp only [Exit.inBlock, Exit.then])
  refine wp_planW (fun _ => True) (.take 1 (.take 2 (.take 6 (.take 7 (.turn 0 (.take 3 (.take 4 (.turn 5 (.take 8 (.take 9 (.take 10 (.take 11 .done)))))))))))) (by kernel_rfl) (by kernel_rfl) trivial ?_
  simp only [planWL, List.getElem?_cons_zero, List.getElem?_cons_succ]
  obtain ⟨wd, hwd⟩ : ∃ z, w3.drew = z := ⟨_, rfl⟩
  have HBD : Hid (Below w3.heap.size w3 wd) := Lib.hid (by rw [← hwd]; exact below_drew (Below.refl _ _))
  rw [hwd]
  clear hwd
  repeat (first | (refine planW_on _ (by rfl) (fun W hW => by (go_simp; try with_reducible rfl)) ?_; simp only [Act.put, List.setIfInBounds_toArray, List.set_cons_zero, List.set_cons_succ]) | (refine planW_off (by rfl) ?_; simp only [Act.put, List.setIfInBounds_toArray, List.set_cons_zero, List.set_cons_succ]))
  refine planW_turn ?_
  have HCu1 := Lib.hid (people_any wd)
  go_wp2_with fail
  refine HCu1.out.mono ?_
  rintro e u1 ⟨rfl, hu1⟩
  obtain ⟨b1, hb1⟩ : ∃ q, wd.heap.size = q := ⟨_, rfl⟩
  have HKu1 : Hid (Blk u1 b1 9 peA) := Lib.hid (by rw [hu1, ← hb1]; exact Blk.new _ _ _)
  have HBu1 : Hid (Below w3.heap.size w3 u1) := Lib.hid (by rw [hu1]; exact HBD.out.alloc HBD.out.size _)
  have HQu1 : Hid (∀ X, Below u1.heap.size u1 X → X.cell? ⟨b1, a4, none⟩ = some (.string p)) := Lib.hid (fun X hX => (hX.cell (p := ⟨b1, a4, none⟩) HKu1.out.lt).trans ((HKu1.out.cell _).trans HPN.out))
  clear HCu1 hu1
  go_wp2_with fail
  try rw [hb1]
  clear hb1
  refine ⟨Below u1.heap.size u1, fun X h => trivial, Below.refl _ _, ?_⟩
  repeat (first | (refine planW_on _ (by rfl) (fun W hW => by (have zq := HQu1.out W hW; go_simp; try with_reducible rfl)) ?_; simp only [Act.put, List.setIfInBounds_toArray, List.set_cons_zero, List.set_cons_succ]) | (refine planW_off (by rfl) ?_; simp only [Act.put, List.setIfInBounds_toArray, List.set_cons_zero, List.set_cons_succ]))
  refine planW_turn ?_
  have HCu2 := Lib.hid (things_any u1)
  go_wp2_with fail
  refine HCu2.out.mono ?_
  rintro e u2 ⟨rfl, hu2⟩
  obtain ⟨b2, hb2⟩ : ∃ q, u1.heap.size = q := ⟨_, rfl⟩
  have HKu2 : Hid (Blk u2 b2 9 thA) := Lib.hid (by rw [hu2, ← hb2]; exact Blk.new _ _ _)
  have HBu2 : Hid (Below w3.heap.size w3 u2) := Lib.hid (by rw [hu2]; exact HBu1.out.alloc HBu1.out.size _)
  have HBu12 : Hid (Below u1.heap.size u1 u2) := Lib.hid (by rw [hu2]; exact (Below.refl _ _).alloc (Nat.le_refl _) _)
  have HQu2 : Hid (∀ X, Below u2.heap.size u2 X → X.cell? ⟨b2, a6, none⟩ = some (.string i)) := Lib.hid (fun X hX => (hX.cell (p := ⟨b2, a6, none⟩) HKu2.out.lt).trans ((HKu2.out.cell _).trans HIN.out))
  have HBB : Hid (∀ X, Below u2.heap.size u2 X → Below b2 u1 X) := Lib.hid (by rw [← hb2]; exact fun X h => HBu12.out.trans (h.mono HBu12.out.size))
  clear HCu2 hu2
  go_wp2_with fail
  try rw [hb2]
  clear hb2
  refine ⟨Below u2.heap.size u2, fun X h => HBB.out X h, Below.refl _ _, ?_⟩
  repeat (first | (refine planW_on _ (by rfl) (fun W hW => by (have zq := HQu2.out W hW; go_simp; try with_reducible rfl)) ?_; simp only [Act.put, List.setIfInBounds_toArray, List.set_cons_zero, List.set_cons_succ]) | (refine planW_off (by rfl) ?_; simp only [Act.put, List.setIfInBounds_toArray, List.set_cons_zero, List.set_cons_succ]))
  refine planW_done ?_
  have HB4 : Hid (Below w.heap.size w u2) := Lib.hid (HB3.out.trans (HBu2.out.mono HB3.out.size))
  have HX4 : Hid (Blk u2 sb 32 (sgArr s)) := Lib.hid ((HBu2.out.block _ HX3.out.lt).trans HX3.out)
  have HEV4 : Hid (EvsAt u2 u2.heap.size Ae ts) := Lib.hid (by have h := HEV3.out; unfold EvsAt at *; exact RowIn.more (h.below HBu2.out) HBu2.out.size)
  clear HQu1 HQu2 HKu1 HKu2 HBu1 HBu12 HBD HX3 HPN HIN f1 f2 g1 g2 k1 k2 k3 k4 HBu2 HEV3
  have HLB4 := HLB.out u2 HB4.out
  have HC := Lib.hid (wof_any s.cfg u2 u2.heap.size Ae ts me ce HSG.out.cfg HTS.out.2.2.1 HEV4.out (Nat.le_refl _) (by have := HTS.out; omega) (fun e he => (HTS.out.1 e he).ok) HLB4.g HLB4.k HLB4.t)
  have c0 : u2.cell? ⟨sb, 0, none⟩ = some (.int .i64 s.cfg.half) := HX4.out.cell 0
  have c1 : u2.cell? ⟨sb, 1, none⟩ = some (.int .i64 s.cfg.width) := HX4.out.cell 1
  have c2 : u2.cell? ⟨sb, 2, none⟩ = some (.int .i64 s.cfg.gap) := HX4.out.cell 2
  have c3 : u2.cell? ⟨sb, 3, none⟩ = some (.int .i64 s.cfg.span) := HX4.out.cell 3
  have c4 : u2.cell? ⟨sb, 4, none⟩ = some (.int .i64 s.cfg.floor) := HX4.out.cell 4
  have c5 : u2.cell? ⟨sb, 5, none⟩ = some (.int .i64 s.cfg.crowd) := HX4.out.cell 5
  unfold cfgA at HC
  clear HLB4
  go_wp2_with fail
  refine HC.out.mono ?_
  rintro e w5 ⟨wb, base, E, rfl, han, hwa, _, hb5⟩
  obtain ⟨ct, cr, hw5⟩ := hwa.read
  have HW5 := Lib.hid hw5
  have HB5 : Hid (Below w.heap.size w w5) := Lib.hid (HB4.out.trans (hb5.mono HB4.out.size))
  have HS5 : Hid (Blk w5 sb 32 (sgArr s)) := Lib.hid ((hb5.block _ HX4.out.lt).trans HX4.out)
  have HEV5 : Hid (EvsAt w5 w5.heap.size Ae ts) := Lib.hid (by have h := HEV4.out; unfold EvsAt at *; exact RowIn.more (h.below hb5) hb5.size)
  have HNE : Hid (WnE 200 E) := Lib.hid ⟨han.closed, fun e he => (HTS.out.1 e (han.sub he)).ok, by have := han.few; have := HTS.out; omega⟩
  have HANW := Lib.hid han
  clear han hwa hb5 HC c0 c1 c2 c3 c4 c5 hw5 HX4 HB4 HEV4
  have HOFY : Hid (∀ W, Below w5.heap.size w5 W → Calls Tryz.prog 10 #[.pointer (some ⟨wb, 0, none⟩), sgA s, .string p, .string i, .int .i64 E0] W (WhOf E s.cfg p i E0 r W)) := Lib.hid (fun W hb => whof_yes (HW5.out.below hb) HNE.out HSG.out.cfg HCR.out.1 s r HSG.out p i E0 HTD.out (HLB.out W (HB5.out.trans (hb.mono HB5.out.size))))
  have HR0 : Hid (Below w5.heap.size w5 w5) := Lib.hid (Below.refl _ _)
  have hru : World.cell? w5 ⟨sb, 19, none⟩ = some (.string s.rule) := HS5.out.cell 19
  have HC := Lib.hid (Ru.parse_any s.rule w5 (by have := HCR.out; omega) (fun V hV => by
    have k := HLB.out V (HB5.out.trans (hV.mono HB5.out.size))
    exact ⟨k.e, k.t⟩))
  go_wp2_with fail
  refine HC.out.mono ?_
  rintro e w6 ⟨r', at_, v, hsy, rfl, hv, hb6⟩
  obtain rfl : r' = some r := (hsy.det HSY.out).1
  obtain ⟨qq, rfl, hq⟩ := Zn2 hv
  have HR6 : Hid (RlIs w6 w5.heap.size (some r) qq) := Lib.hid ⟨by rw [Ne, hq]; simp, hv, hsy.sz⟩
  have e0 : errOf (some r) = 0 := rfl
  rw [e0]
  have HB6 : Hid (Below w5.heap.size w5 w6) := Lib.hid hb6
  clear hsy hv hb6 HC hru e0 hq HR0
  obtain ⟨sa, hsa⟩ : ∃ sa, sgArr s = sa := ⟨_, rfl⟩
  have HSA := Lib.hid hsa
  have HSI : Hid ((Tryz.prog.info? 32).map (·.size) = some sa.size) := Lib.hid (by rw [← hsa]; exact Zb6)
  unfold sgA at HOFY
  rw [hsa] at HOFY
  have HSB : Hid (∀ W, Below w5.heap.size w5 W → Blk W sb 32 sa) := Lib.hid (fun W hb => by rw [← hsa]; exact (hb.block _ HS5.out.lt).trans HS5.out)
  clear hsa HS5
  have HS6 := Lib.hid (HSB.out w6 HB6.out)
  have HC := Lib.hid (HOFY.out w6 HB6.out)
  go_wp2_with (first
    | (refine wpList_load_row rfl 32 _ rfl sb rfl 32 sa (0, 0) _ HS6.out Tryz.underlying32 rfl HSI.out ?_)
    | fail)
  refine HC.out.mono ?_
  rintro e w7 ⟨lc, E2, A2, c2, us, rfl, hch, hrow, hins, hnil, hb7⟩
  have HCK := Lib.hid (WhOf.parts hch HNE.out HCR.out.1 HTD.out)
  have HCL := Lib.hid (chain_len HCR.out.1 hch)
  have HHD := Lib.hid (chain_head hch)
  have HB7 : Hid (Below w5.heap.size w5 w7) := Lib.hid (HB6.out.trans (hb7.mono HB6.out.size))
  have HR7 := Lib.hid (HR6.out.below hb7)
  obtain ⟨m, hm⟩ : ∃ m, lc.length = m := ⟨_, rfl⟩
  have HM : Hid (lc.length = m ∧ m ≤ 6) := Lib.hid ⟨hm, by have := HCK.out.few; omega⟩
  rw [hm] at hrow ⊢
  have HROW := Lib.hid (And.intro hrow hins)
  clear hb7 HC hch hrow hins hnil hm HR6 HS6 HOFY HSY HB6
  have HSZ : Hid (p.size ≤ 24 ∧ i.size ≤ 24) := Lib.hid (by
    obtain ⟨hp, hi, hn1, hn2⟩ := Zek HTD.out
    exact ⟨Zay hp, Zay hi⟩)
  have HOF : Hid (∀ W wb' ct' cr' E', Below w7.heap.size w7 W → WrAt W wb' ct' cr' s.cfg E' → (∀ e ∈ E', EvOk e) → E'.length ≤ 1000 → Calls Tryz.prog 11 #[.pointer (some ⟨wb', 0, none⟩), .string p, .string i, .int .i64 E0, .pointer qq] W fun e w' => e = .returned (.int .i64 (whyW E' p i E0 s.cfg.crowd s.cfg.span (some r) : Nat)) ∧ Below W.heap.size W w') := Lib.hid (fun W wb' ct' cr' E' hb hW hE hl => of_any W wb' ct' cr' s.cfg E' p i E0 qq (okP (some r)) hW ((HR7.out.below hb).asks (HLB.out W (HB5.out.trans ((HB7.out.trans (hb.mono HB7.out.size)).mono HB5.out.size))).g) hE hl (by have := HSZ.out; omega) (by have := HSZ.out; omega) (by have := HE0.out; unfold InR; omega) (Zs3 hE (by have := HSZ.out; omega)))
  have HC := Lib.hid (HOF.out w7 wb ct cr E (Below.refl _ _) (HW5.out.below HB7.out) HNE.out.ok (by have := HNE.out.few; omega))
  obtain ⟨y, hy⟩ : ∃ y, whyW E p i E0 s.cfg.crowd s.cfg.span (some r) = y := ⟨_, rfl⟩
  rw [hy] at HC HHD
  clear hy HR7
  go_wp2_with fail
  refine HC.out.mono ?_
  rintro e w8 ⟨rfl, hb8⟩
  have HB78 : Hid (Below w7.heap.size w7 w8) := Lib.hid hb8
  have HB8 : Hid (Below w5.heap.size w5 w8) := Lib.hid (HB7.out.trans (hb8.mono HB7.out.size))
  have HEV8 : Hid (EvsAt w8 w8.heap.size Ae ts) := Lib.hid (by have h := HEV5.out; unfold EvsAt at *; exact RowIn.more (h.below HB8.out) HB8.out.size)
  clear hb8 HC HEV5
  obtain ⟨iE, hi0, hz0, hz1, hz2⟩ := info_parts Zdd
  rcases HHD.out with ⟨h1, h2⟩ | ⟨x, l', h1, h2, h3⟩
  case' inl =>
    have hm0 : m = 0 := by rw [← HM.out.1, h1]; rfl
    have d1 : ((m : Int) == 0) = true := by rw [beq_iff_eq]; omega
    have d2 : ((y : Int) == 0) = true := by rw [beq_iff_eq]; omega
    have d3 : ¬ (0 : Int) < (m : Int) := by omega
    have d4 : ¬ 0 < m := by omega
    clear h1 h2 hm0 HHD
    go_upto_region 13 with fail
    clear d1 d2 d3 d4
  case' inr =>
    have hm0 : 0 < m := by rw [← HM.out.1, h1]; simp
    have d1 : ((m : Int) == 0) = false := by rw [beq_eq_false_iff_ne]; omega
    have d2 : ((y : Int) == 0) = false := by rw [beq_eq_false_iff_ne]; omega
    have d3 : (0 : Int) < (m : Int) := by omega
    have d4 : 0 < m := hm0
    obtain ⟨u, hu⟩ : ∃ u, us[0]? = some u := ⟨us[0]'(by rw [HROW.out.2.1, HM.out.1]; exact hm0), List.getElem?_eq_getElem _⟩
    obtain ⟨b, off, rfl, hb, hcl⟩ := HROW.out.1.at (by omega)
    obtain ⟨hu1, A5, c5, hu2, he5, hnil5⟩ := HROW.out.2.2 0 u x hu (by rw [h1]; rfl)
    obtain ⟨u1, u2⟩ := u
    dsimp only at hu1 hu2
    have x0 : World.cell? w8 ⟨b, off, none⟩ = some (.int .i64 (y : Int)) := (HB78.out.cell (p := ⟨b, off, none⟩) hb).trans (by
      have h := hcl (0 * 2) _ (Zbi chC 2 Zos us 0 0 _ hu (by omega))
      rw [← h2, ← hu1]
      exact h)
    clear h1 h2 h3 hm0 hu hb hcl hu1 hu2 he5 hnil5 HHD u1 u2 A5 c5
    go_upto_region 13 with fail
    clear d1 d2 d3 d4 x0
  all_goals
    try simp only [Exit.inBlock, Exit.then]
    have HR8 : Hid (RowIn (w8.alloc (.cells #[] 59)) w8.heap.size 8 Ae me (ts.flatMap evC)) := Lib.hid (by have h := HEV8.out; unfold EvsAt at h; rw [HTS.out.2.2.1] at h; exact h.below ((Below.refl _ _).alloc (Nat.le_refl _) _))
    have HME := HTS.out.2.2.2.1
    go_wp2_with (first
      | (at_builtin; refine Zaa _ rfl _ _ 23 rfl w8.heap.size 59 iE _ 8 96 Tryz.underlying23 hi0 hz0 hz1 hz2 rfl (by omega) (.slice (some ⟨w8.heap.size, 0, none⟩) 0 0) 0 _ rfl (Zlu w8 _ 8) w8.heap.size Ae me ce (ts.flatMap evC) rfl HR8.out HTS.out.2.2.2.2 (Zb1 ts) (by unfold maxLen; omega) (by omega) (by simp) ?_; intro v9 w9 ho9 hg9 hv9)
      | fail)
    obtain ⟨A9, c9, rfl⟩ := Zbh ho9
    rw [List.nil_append, Nat.zero_add] at ho9
    rw [Nat.zero_add]
    have HO9 := Lib.hid ho9
    have HB9 : Hid (Below w8.heap.size w8 w9) := Lib.hid (((Below.refl _ _).alloc (Nat.le_refl _) _).grown hg9 (by simp) (fun j hj => (Zd1 (Zlu w8 59 8) hj).1))
    clear ho9 hg9 hv9 HR8
    go_wp2_with fail
    go_loopw [20, 105] (fun av iv wr => ∃ (k n' : Nat) (A' : Option Addr) (c' : Nat), av = .slice A' n' c' ∧ iv = .int .i64 k ∧ k ≤ m ∧ Hid (wr.ownsRow w8.heap.size 59 8 (.slice A' n' c') n' ((ts ++ evsC (lc.take k)).flatMap evC)) ∧ Hid ((ts ++ evsC (lc.take k)).length = n') ∧ Hid (∀ x ∈ lc.take k, x.2 ≠ []) ∧ Hid (Below w8.heap.size w8 wr)) (fun _ iv _ => m - (intOf iv).toNat)
    case atStart => exact ⟨0, me, A9, c9, rfl, rfl, Nat.zero_le _, Lib.hid (by rw [List.take_zero, show evsC [] = [] from rfl, List.append_nil]; exact HO9.out), Lib.hid (by rw [List.take_zero, show evsC [] = [] from rfl, List.append_nil]; exact HTS.out.2.2.1), Lib.hid (fun x hx => by cases hx), HB9⟩
    case round =>
      obtain ⟨k, n7, A', c', rfl, rfl, hk, HOW, HLN, HNE2, HBR⟩ := hrel
      have HML : Hid (n7 ≤ 300) := Lib.hid (by
        rw [← HLN.out, List.length_append]
        have h1 := Zra (j := k) HCL.out
        have h2 := HTS.out.2.2
        have h3 := HM.out
        omega)
      have HB7R : Hid (Below w7.heap.size w7 wr) := Lib.hid (HB78.out.trans (HBR.out.mono HB78.out.size))
      have HBR5 : Hid (Below w5.heap.size w5 wr) := Lib.hid (HB7.out.trans (HB7R.out.mono HB7.out.size))
      by_cases hlt : k < m
      · obtain ⟨x, hx⟩ : ∃ x, lc[k]? = some x := ⟨lc[k]'(by rw [HM.out.1]; exact hlt), List.getElem?_eq_getElem _⟩
        obtain ⟨u, hu⟩ : ∃ u, us[k]? = some u := ⟨us[k]'(by rw [HROW.out.2.1, HM.out.1]; exact hlt), List.getElem?_eq_getElem _⟩
        obtain ⟨b, off, hA2, hb, hcl⟩ := HROW.out.1.at (by omega)
        first
          | subst hA2
          | (injection hA2 with hA3; injection hA3 with hA4 hA5 _; have hA6 := hA4.symm; have hA7 := hA5.symm; clear hA4 hA5; subst hA6 hA7)
        obtain ⟨hu1, A5, c5, hu2, he5, hnil⟩ := HROW.out.2.2 k u x hu hx
        obtain ⟨u1, u2⟩ := u
        dsimp only at hu1 hu2
        subst hu2
        obtain ⟨k5, hk5⟩ : ∃ k5, x.2.length = k5 := ⟨_, rfl⟩
        have HK5 : Hid (x.2.length = k5 ∧ k5 ≤ 12) := Lib.hid ⟨hk5, by rw [← hk5]; exact HCL.out x (List.mem_of_getElem? hx)⟩
        rw [hk5] at hu
        have HE5 : Hid (RowIn w7 w7.heap.size 8 A5 k5 (x.2.flatMap evC) ∧ (A5 = none → c5 = 0)) := Lib.hid ⟨by have h := he5; unfold EvsAt at h; rwa [hk5] at h, hnil⟩
        have c0 : World.cell? wr ⟨b, off + k * 2, none⟩ = some (.int .i64 (u1 : Int)) := (HB7R.out.cell (p := ⟨b, off + k * 2, none⟩) hb).trans (hcl (k * 2) _ (Zbi chC 2 Zos us k 0 _ hu (by omega)))
        have c1 : World.cell? wr ⟨b, off + k * 2 + 1, none⟩ = some (.slice A5 k5 c5) := (HB7R.out.cell (p := ⟨b, off + k * 2 + 1, none⟩) hb).trans (hcl (k * 2 + 1) _ (Zbi chC 2 Zos us k 1 _ hu (by omega)))
        have HEC := Lib.hid (Zin hx)
        have HTK := Lib.hid (Zbd hx)
        have HXK := Lib.hid hx
        have hk8 : (k : Int) < (m : Int) := by omega
        have hk9 : (0 : Int) ≤ (k : Int) := by omega
        clear hcl hu he5 hnil hk5 hx hu1 hb
        go_upto_region 17 with (first
          | (refine Zad _ rfl 50 (.tmp 22) (.tmp 109) rfl 0 #[.int .i64 (u1 : Int), .slice A5 k5 c5] rfl rfl (Blk.new _ _ _) (by show 0 + 2 ≤ 2; omega) Zjn (by simp [Value.oneCell']) ?_; intro w10 hb10 hk10 hs10)
          | fail)
        try simp only [Exit.inBlock, Exit.then]
        simp only [putA, List.setIfInBounds_toArray, List.set_cons_zero, List.set_cons_succ] at hb10
        have HB10 : Hid (Below wr.heap.size wr w10) := Lib.hid (((Below.refl _ _).alloc (Nat.le_refl _) _).trans (hk10.toBelow (fun i hi => by rw [hi]; exact Nat.le_refl _) (by simp)))
        have HC10 : Hid (Blk w10 wr.heap.size 50 #[.int .i64 (u1 : Int), .slice A5 k5 c5]) := Lib.hid hb10
        obtain ⟨cb, hcb⟩ : ∃ cb, wr.heap.size = cb := ⟨_, rfl⟩
        rw [hcb] at HC10
        clear hb10 hk10 hs10 c0 c1
        try rw [hcb]
        clear hcb
        have x1 : w10.cell? ⟨cb, 1, none⟩ = some (.slice A5 k5 c5) := HC10.out.cell 1
        have HBR10 : Hid (Below w8.heap.size w8 w10) := Lib.hid (HBR.out.trans (HB10.out.mono HBR.out.size))
        have hm6 := HM.out.2
        by_cases h0 : k5 = 0
        · have d0 : ((k5 : Int) == 0) = true := by rw [beq_iff_eq]; omega
          have hz2 : x.2 = [] := List.length_eq_zero_iff.1 (by rw [HK5.out.1, h0])
          have hlast := (HCK.out.none k x HXK.out hz2).1
          have hkm : ((k : Int) == (m : Int) - 1) = true := by rw [beq_iff_eq]; have := HM.out.1; omega
          have HBZ : Hid (Below w.heap.size w w10) := Lib.hid (HB5.out.trans ((HBR5.out.trans (HB10.out.mono HBR5.out.size)).mono HB5.out.size))
          clear hlast hz2 h0
          go_wp2_with fail
          go_ret
          exact ⟨rfl, HBZ.out⟩
        · have d0 : ((k5 : Int) == 0) = false := by rw [beq_eq_false_iff_ne]; omega
          have HN2 : Hid (∀ z ∈ lc.take (k + 1), z.2 ≠ []) := Lib.hid (by
            rw [HTK.out]
            intro z hz
            rcases List.mem_append.1 hz with h | h
            · exact HNE2.out z h
            · rw [List.mem_singleton.1 h]
              intro e
              exact h0 (by rw [← HK5.out.1, e]; rfl))
          have HO10 := Lib.hid (Ru.Za9 HOW.out HB10.out)
          have HR10 := Lib.hid (HE5.out.1.below (HB7R.out.trans (HB10.out.mono HB7R.out.size)))
          have HZ7 : Hid (w7.heap.size ≤ w10.heap.size ∧ w8.heap.size ≤ w10.heap.size) := Lib.hid ⟨(HB7R.out.trans (HB10.out.mono HB7R.out.size)).size, HBR10.out.size⟩
          clear h0
          go_wp2_with (first
            | (at_builtin; refine Zaa _ rfl _ _ 23 rfl w8.heap.size 59 iE _ 8 96 Tryz.underlying23 hi0 hz0 hz1 hz2 rfl (by omega) (.slice A' n7 c') n7 _ rfl HO10.out w7.heap.size A5 k5 c5 (x.2.flatMap evC) rfl HR10.out HE5.out.2 (Zb1 x.2) (by have := HML.out; have := HK5.out; unfold maxLen; omega) (by have := HML.out; have := HK5.out; omega) HZ7.out.2 ?_; intro v11 w11 ho11 hg11 hv11)
            | fail)
          obtain ⟨A11, c11, rfl⟩ := Zbh ho11
          rw [← List.flatMap_append, List.append_assoc, ← HEC.out] at ho11
          have HO11 := Lib.hid ho11
          have HB11 : Hid (Below w8.heap.size w8 w11) := Lib.hid (HBR10.out.grown hg11 HBR10.out.size (fun j hj => (Zd1 HO10.out hj).1))
          clear ho11 hg11 hv11 x1
          go_wp2_with fail
          go_roundw
          case rel => exact ⟨k + 1, n7 + k5, A11, c11, rfl, by go_num, by omega, HO11, Lib.hid (by rw [HEC.out, ← List.append_assoc, List.length_append, HLN.out, HK5.out.1]), HN2, HB11⟩
          case measure => simp [intOf]; omega
      · obtain rfl : k = m := by omega
        have hkk : ¬ (k : Int) < (k : Int) := by omega
        have HALL : Hid (lc.take k = lc) := Lib.hid (by rw [← HM.out.1, List.take_length])
        rw [HALL.out] at HOW HLN HNE2
        have HS9 := Lib.hid (HSB.out wr HBR5.out)
        rw [← HSA.out] at HS9
        have HBRw : Hid (Below w.heap.size w wr) := Lib.hid (HB5.out.trans (HBR5.out.mono HB5.out.size))
        have hlb := HLB.out wr HBRw.out
        have HOKA : Hid (∀ e ∈ ts ++ evsC lc, EvOk e) := Lib.hid (fun e he => by
          rcases List.mem_append.1 he with h | h
          · exact (HTS.out.1 e h).ok
          · exact evsC_ok HCK.out e h)
        have HC := Lib.hid (wof_any s.cfg wr wr.heap.size A' (ts ++ evsC lc) n7 c' HSG.out.cfg HLN.out (by unfold EvsAt; rw [HLN.out]; exact RowIn.of_own HOW.out) (Nat.le_refl _) (by have := HML.out; omega) HOKA.out hlb.g hlb.k hlb.t)
        have c0 : wr.cell? ⟨sb, 0, none⟩ = some (.int .i64 s.cfg.half) := HS9.out.cell 0
        have c1 : wr.cell? ⟨sb, 1, none⟩ = some (.int .i64 s.cfg.width) := HS9.out.cell 1
        have c2 : wr.cell? ⟨sb, 2, none⟩ = some (.int .i64 s.cfg.gap) := HS9.out.cell 2
        have c3 : wr.cell? ⟨sb, 3, none⟩ = some (.int .i64 s.cfg.span) := HS9.out.cell 3
        have c4 : wr.cell? ⟨sb, 4, none⟩ = some (.int .i64 s.cfg.floor) := HS9.out.cell 4
        have c5 : wr.cell? ⟨sb, 5, none⟩ = some (.int .i64 s.cfg.crowd) := HS9.out.cell 5
        unfold cfgA at HC
        clear hlt hlb
        go_wp2_with fail
        refine HC.out.mono ?_
        rintro e w12 ⟨wb2, base2, E3, rfl, han, hwa, hbs, hb12⟩
        obtain ⟨ct2, cr2, hw2⟩ := hwa.read
        obtain rfl : E3 = E2 := tale_all HTS.out.2.1 (fun e he => (HTS.out.1 e he).kind) HANW.out HCK.out han
        have HY : Hid (whyW E3 p i E0 s.cfg.crowd s.cfg.span (some r) = 0) := Lib.hid (HCK.out.last HNE2.out)
        have HC := Lib.hid (HOF.out w12 wb2 ct2 cr2 E3 (HB7R.out.trans (hb12.mono HB7R.out.size)) hw2 (fun e he => HOKA.out e (han.sub he)) (by have := han.few; have := HLN.out; have := HML.out; omega))
        rw [HY.out] at HC
        have HB12 : Hid (Below w.heap.size w w12) := Lib.hid (HBRw.out.trans (hb12.mono HBRw.out.size))
        clear han hwa hbs hb12 hw2 c0 c1 c2 c3 c4 c5 HOF HOW
        go_wp2_with fail
        refine HC.out.mono ?_
        rintro e w13 ⟨rfl, hb13⟩
        have HB13 : Hid (Below w.heap.size w w13) := Lib.hid (HB12.out.trans (hb13.mono HB12.out.size))
        clear hb13 HC
        go_wp2_with fail
        go_ret
        exact ⟨rfl, HB13.out⟩
end Go.Proofs.YtnpfaajhgghpgaaGreatDoor
