/- The law's why. -/
import Derived.Test.YthdmpcnnbminlaaGreatDoorGlI
import Derived.Test.YthdmpcnnbminlaaGreatDoorGlH
namespace Go.Proofs.YthdmpcnnbminlaaGreatDoor
open Go.Shelf Go.RowKit Go.Maps
open Ru (Fz fzA fzX Nd FAC load_fz)
set_option linter.unusedVariables false
theorem lfacts_law {w : World} {wb : Nat} {c : Cfg} {E : List Ev} {p x : ByteArray} {now : Int} (h : WsAt w wb c E) (hp : p.size ≤ 300) (hnow : InR now) (hx : x.size ≤ 300) : Calls Tryz.prog 23 #[.pointer (some ⟨wb, 0, none⟩), .string p, .string x, .int .i64 now] w (FactsR E p x now w) := by
 obtain ⟨ct, cr, h1⟩ := h.at_
 exact lfacts_any w wb ct cr c E p x now h1 h.ok (by have := h.few; omega) hp hx hnow
set_option maxHeartbeats 8000000 in
set_option maxRecDepth 100000 in
theorem lwhy_any (w : World) (wb B : Nat) (c : Cfg) (E : List Ev) (p i : ByteArray) (now : Int) (q : Option Addr) (R : Option (Option Nd)) (h : WsAt w wb c E) (hr : RlIs w B R q) (hg : GlobAt w) (hp : p.size ≤ 300) (hi : i.size ≤ 300) (hnow : InR now) :
  Calls Tryz.prog 22 #[.pointer (some ⟨wb, 0, none⟩), .string p, .string i, .int .i64 now, .pointer q] w fun e w' => e = .returned (.int .i64 (whyF E p now c R i : Nat)) ∧ Below w.heap.size w w' := by
 obtain ⟨z, hz⟩ : ∃ z, fzOf E p i now = z := ⟨_, rfl⟩
 obtain ⟨a, ha⟩ : ∃ a, (hidO (rowsW E) p i).getD false = a := ⟨_, rfl⟩
 obtain ⟨mu, hmu⟩ : ∃ mu, decide (mutO (rowsW E) p z.maker = some true) = mu := ⟨_, rfl⟩
 have hhd : hidP E p i now = (a || mu) := by rw [← ha, ← hmu, ← hz]; rfl
 obtain ⟨hk, hok⟩ : ∃ hk, okP R z = hk := ⟨_, rfl⟩
 have HTG : Hid (z.tags.size ≤ 300) := zh (by rw [← hz]; exact fz_tags h.ok hi)
 have HHO : Hid (∀ W, Below w.heap.size w W → Calls Tryz.prog 28 #[.pointer q, .agg (fzA z)] W (Ru.ROf hk W)) := zh (fun W hb => by rw [← hok]; exact (hr.below hb).holds (hg.keep hb (Nat.le_refl _)) z HTG.out)
 have HQ : Hid (q = none → hk = true) := zh (fun e => by
  rw [← hok]
  cases R with
  | none => rfl
  | some r => exact absurd e hr.1)
 obtain ⟨Y, hY⟩ : ∃ Y : Nat, whyF E p now c R i = Y := ⟨_, rfl⟩
 have HY : Hid (Y = fstW [!z.listed, decide (z.stock = 0), a || mu, z.done, decide (z.fans < c.crowd) && decide (c.span < z.age), !hk] 0) := zh (by
  rw [← hY]
  unfold whyF whyW
  rw [whyP_fst, hz, hhd, hok]
  rfl)
 rw [hY]
 have HFA := zh (lfacts_law h hp hnow hi)
 unfold FactsR at HFA
 rw [hz] at HFA
 unfold fzA at HFA
 obtain ⟨ct, cr, hw⟩ := h.at_
 have HWR := zh hw
 obtain ⟨U, hU⟩ := hw.crw
 have hrl := rowsW_len E
 have hfw := h.few
 have HHD : Hid (∀ W, Below w.heap.size w W → Calls Tryz.prog 34 #[.pointer (some ⟨cr, 0, none⟩), .string p, .string i] W fun e w' => e = .returned (.bool a) ∧ Below W.heap.size W w') := zh (fun W hb => by rw [← ha]; exact hiddenG_any cr (halfP c.half) U (rowsW E) p i W (hU.below hb) (by unfold maxLen; omega) (by unfold maxLen; omega))
 have HMU : Hid (∀ W, Below w.heap.size w W → Calls Tryz.prog 36 #[.pointer (some ⟨cr, 0, none⟩), .string p] W fun e w' => ∃ (A : Option Addr) (c : Nat) (ks : List ByteArray), e = .returned (.slice A ks.length c) ∧ memB z.maker ks = mu ∧ RowIn w' w'.heap.size 1 A ks.length (ks.map .string) ∧ ks.length ≤ 1000 ∧ Below W.heap.size W w') := zh (fun W hb => by
  refine (mutes_any cr (halfP c.half) U (rowsW E) p W (hU.below hb) (by unfold maxLen; omega) (by omega)).mono ?_
  rintro e w' ⟨A, c, ks, rfl, h1, h2, h3, h4⟩
  exact ⟨A, c, ks, rfl, by rw [names_mem h1, hmu], RowIn.of_own h2, h3, h4⟩)
 clear h hr hg hp hi hnow hz ha hmu hhd hok hY hw hU hrl hfw
 go_enter Tryz.func22, Tryz.ntmps22
 go_wp2_with fail
 refine HFA.out.mono ?_
 rintro e w1 ⟨rfl, hb1⟩
 have HB1 := zh hb1
 have HCF := zh (config_any (HWR.out.below hb1))
 unfold cfgA at HCF
 clear hb1 HFA
 go_wp2_with fail
 refine HCF.out.mono ?_
 rintro e w2 ⟨rfl, hb2⟩
 have HB2 : Hid (Below w.heap.size w w2) := zh (HB1.out.trans (hb2.mono HB1.out.size))
 obtain ⟨w4, hw4⟩ : ∃ w4, (w2.alloc (.cells #[.string z.name, .string z.maker, .string z.tags, .int .i64 z.stock, .int .i64 z.price, .int .i64 z.born, .bool z.listed, .int .i64 z.now, .int .i64 z.age, .int .i64 z.fans, .bool z.follows, .bool z.done] 38)).alloc (.cells (cfgArr c) 23) = w4 := ⟨_, rfl⟩
 have HX4 : Hid (Blk w4 w2.heap.size 38 #[.string z.name, .string z.maker, .string z.tags, .int .i64 z.stock, .int .i64 z.price, .int .i64 z.born, .bool z.listed, .int .i64 z.now, .int .i64 z.age, .int .i64 z.fans, .bool z.follows, .bool z.done]) := zh (by rw [← hw4]; exact (Blk.new _ _ _).alloc _)
 have HC4 : Hid (Blk w4 (w2.heap.size + 1) 23 (cfgArr c)) := zh (by
  have h := Blk.new (w2.alloc (.cells #[.string z.name, .string z.maker, .string z.tags, .int .i64 z.stock, .int .i64 z.price, .int .i64 z.born, .bool z.listed, .int .i64 z.now, .int .i64 z.age, .int .i64 z.fans, .bool z.follows, .bool z.done] 38)) 23 (cfgArr c)
  rw [hw4] at h
  simpa using h)
 have HB4 : Hid (Below w.heap.size w w4) := zh (by
  have h3 := HB2.out.alloc HB2.out.size (.cells #[.string z.name, .string z.maker, .string z.tags, .int .i64 z.stock, .int .i64 z.price, .int .i64 z.born, .bool z.listed, .int .i64 z.now, .int .i64 z.age, .int .i64 z.fans, .bool z.follows, .bool z.done] 38)
  rw [← hw4]
  exact h3.alloc h3.size _)
 have HSC : Hid (∀ W, Below w4.heap.size w4 W → World.cell? W ⟨w2.heap.size, 0, none⟩ = some (.string z.name) ∧ World.cell? W ⟨w2.heap.size, 1, none⟩ = some (.string z.maker) ∧ World.cell? W ⟨w2.heap.size, 2, none⟩ = some (.string z.tags) ∧ World.cell? W ⟨w2.heap.size, 3, none⟩ = some (.int .i64 z.stock) ∧ World.cell? W ⟨w2.heap.size, 4, none⟩ = some (.int .i64 z.price) ∧ World.cell? W ⟨w2.heap.size, 5, none⟩ = some (.int .i64 z.born) ∧ World.cell? W ⟨w2.heap.size, 6, none⟩ = some (.bool z.listed) ∧ World.cell? W ⟨w2.heap.size, 7, none⟩ = some (.int .i64 z.now) ∧ World.cell? W ⟨w2.heap.size, 8, none⟩ = some (.int .i64 z.age) ∧ World.cell? W ⟨w2.heap.size, 9, none⟩ = some (.int .i64 z.fans) ∧ World.cell? W ⟨w2.heap.size, 10, none⟩ = some (.bool z.follows) ∧ World.cell? W ⟨w2.heap.size, 11, none⟩ = some (.bool z.done) ∧ World.cell? W ⟨w2.heap.size + 1, 0, none⟩ = some (.int .i64 c.half) ∧ World.cell? W ⟨w2.heap.size + 1, 1, none⟩ = some (.int .i64 c.width) ∧ World.cell? W ⟨w2.heap.size + 1, 2, none⟩ = some (.int .i64 c.gap) ∧ World.cell? W ⟨w2.heap.size + 1, 3, none⟩ = some (.int .i64 c.span) ∧ World.cell? W ⟨w2.heap.size + 1, 4, none⟩ = some (.int .i64 c.floor) ∧ World.cell? W ⟨w2.heap.size + 1, 5, none⟩ = some (.int .i64 c.crowd)) := zh (fun W hb => by
  have k : Blk W w2.heap.size 38 #[.string z.name, .string z.maker, .string z.tags, .int .i64 z.stock, .int .i64 z.price, .int .i64 z.born, .bool z.listed, .int .i64 z.now, .int .i64 z.age, .int .i64 z.fans, .bool z.follows, .bool z.done] := (hb.block _ HX4.out.lt).trans HX4.out
  have k' : Blk W (w2.heap.size + 1) 23 (cfgArr c) := (hb.block _ HC4.out.lt).trans HC4.out
  exact ⟨k.cell 0, k.cell 1, k.cell 2, k.cell 3, k.cell 4, k.cell 5, k.cell 6, k.cell 7, k.cell 8, k.cell 9, k.cell 10, k.cell 11, k'.cell 0, k'.cell 1, k'.cell 2, k'.cell 3, k'.cell 4, k'.cell 5⟩)
 have HBF : Hid (∀ W, Below w4.heap.size w4 W → Below w.heap.size w W) := zh (fun W hb => HB4.out.trans (hb.mono HB4.out.size))
 unfold cfgArr at hw4
 clear hb2 HCF
 go_upto_region 2 with fail
 clear hw4
 go_cut [13] (fun v wx => v = .bool (a || mu) ∧ Hid (Below w4.heap.size w4 wx))
 case first =>
  refine wp_plan (fun W => Below w4.heap.size w4 W) [(0, false), (2, false), (3, false), (1, true), (4, true), (5, false), (6, false), (8, false), (10, false), (11, false), (12, false), (7, true), (9, true), (13, true), (14, false), (15, false)] (by kernel_rfl) (by kernel_rfl) (below_drew (Below.refl _ _)) ?_
  simp only [planL, List.getElem?_cons_zero, List.getElem?_cons_succ]
  obtain ⟨wd, hwd⟩ : ∃ z, w4.drew = z := ⟨_, rfl⟩
  have HBD : Hid (Below w4.heap.size w4 wd) := zh (by rw [← hwd]; exact below_drew (Below.refl _ _))
  rw [hwd]
  clear hwd
  repeat (first | (refine plan_on _ (by rfl) (fun W hW => by (obtain ⟨y0, y1, y2, y3, y4, y5, y6, y7, y8, y9, y10, y11, z0, z1, z2, z3, z4, z5⟩ := HSC.out W hW; go_simp; try with_reducible rfl)) ?_; simp only [Act.put, xq1, xq2, xq3]) | (refine plan_off (by rfl) ?_; simp only [Act.put, xq1, xq2, xq3]))
  refine plan_turn ?_
  have HC := zh (crowdP_any (HWR.out.below (HBF.out wd HBD.out)))
  go_wp2_with fail
  refine HC.out.mono ?_
  rintro e w5 ⟨rfl, rfl⟩
  clear HC
  go_wp2_with fail
  refine ⟨HBD.out, ?_⟩
  refine plan_turn ?_
  have HC := zh (HHD.out wd (HBF.out wd HBD.out))
  go_wp2_with fail
  refine HC.out.mono ?_
  rintro e w5 ⟨rfl, hb5⟩
  have HB5 : Hid (Below w4.heap.size w4 w5) := zh (HBD.out.trans (hb5.mono HBD.out.size))
  clear hb5 HC
  cases a with
  | true =>
   go_wp2_with fail
   refine ⟨HB5.out, ?_⟩
   repeat (first | (refine plan_on _ (by rfl) (fun W hW => by (obtain ⟨y0, y1, y2, y3, y4, y5, y6, y7, y8, y9, y10, y11, z0, z1, z2, z3, z4, z5⟩ := HSC.out W hW; go_simp; try with_reducible rfl)) ?_; simp only [Act.put, xq1, xq2, xq3]) | (refine plan_off (by rfl) ?_; simp only [Act.put, xq1, xq2, xq3]))
   refine plan_turn ?_
   go_wp2_with fail
   refine ⟨HB5.out, ?_⟩
   refine plan_turn ?_
   go_wp2_with fail
   refine ⟨HB5.out, ?_⟩
   refine plan_turn ?_
   go_wp2_with fail
   refine ⟨HB5.out, ?_⟩
   repeat (first | (refine plan_on _ (by rfl) (fun W hW => by (obtain ⟨y0, y1, y2, y3, y4, y5, y6, y7, y8, y9, y10, y11, z0, z1, z2, z3, z4, z5⟩ := HSC.out W hW; go_simp; try with_reducible rfl)) ?_; simp only [Act.put, xq1, xq2, xq3]) | (refine plan_off (by rfl) ?_; simp only [Act.put, xq1, xq2, xq3]))
   refine plan_done ?_
   go_wp2_with fail
   go_meet
   exact ⟨rfl, HB5⟩
  | false =>
   go_wp2_with fail
   refine ⟨HB5.out, ?_⟩
   repeat (first | (refine plan_on _ (by rfl) (fun W hW => by (obtain ⟨y0, y1, y2, y3, y4, y5, y6, y7, y8, y9, y10, y11, z0, z1, z2, z3, z4, z5⟩ := HSC.out W hW; go_simp; try with_reducible rfl)) ?_; simp only [Act.put, xq1, xq2, xq3]) | (refine plan_off (by rfl) ?_; simp only [Act.put, xq1, xq2, xq3]))
   refine plan_turn ?_
   have HC := zh (crowdP_any (HWR.out.below (HBF.out w5 HB5.out)))
   go_wp2_with fail
   refine HC.out.mono ?_
   rintro e w6 ⟨rfl, rfl⟩
   clear HC
   go_wp2_with fail
   refine ⟨HB5.out, ?_⟩
   refine plan_turn ?_
   have HC := zh (HMU.out w5 (HBF.out w5 HB5.out))
   go_wp2_with fail
   refine HC.out.mono ?_
   rintro e w6 ⟨A6, c6, ks, rfl, h1, h2, h3, h4⟩
   have HB6 : Hid (Below w4.heap.size w4 w6) := zh (HB5.out.trans (h4.mono HB5.out.size))
   have HCT := zh (rin_any w6 w6.heap.size A6 ks ks.length c6 z.maker rfl h2 (by omega))
   rw [h1] at HCT
   clear h1 h2 h3 h4 HC
   go_wp2_with fail
   refine ⟨HB6.out, ?_⟩
   refine plan_turn ?_
   go_wp2_with fail
   refine HCT.out.mono ?_
   rintro e w7 ⟨rfl, rfl⟩
   clear HCT
   go_wp2_with fail
   refine ⟨HB6.out, ?_⟩
   repeat (first | (refine plan_on _ (by rfl) (fun W hW => by (obtain ⟨y0, y1, y2, y3, y4, y5, y6, y7, y8, y9, y10, y11, z0, z1, z2, z3, z4, z5⟩ := HSC.out W hW; go_simp; try with_reducible rfl)) ?_; simp only [Act.put, xq1, xq2, xq3]) | (refine plan_off (by rfl) ?_; simp only [Act.put, xq1, xq2, xq3]))
   refine plan_done ?_
   go_wp2_with fail
   go_meet
   exact ⟨rfl, HB6⟩
 case rest =>
 obtain ⟨rfl, HB5⟩ := hcut
 obtain ⟨w5, rfl⟩ : ∃ z : World, z = wc := ⟨_, rfl⟩
 obtain ⟨am, ham⟩ : ∃ am, (a || mu) = am := ⟨_, rfl⟩
 rw [ham] at HY ⊢
 obtain ⟨b, hb⟩ : ∃ b, decide (z.fans < c.crowd) = b := ⟨_, rfl⟩
 have HA := zh hb
 clear ham hb HHD HMU
 go_wp2_with fail
 refine wp_plan (fun W => Below w4.heap.size w4 W) [(0, false), (1, false), (2, false), (3, false), (4, false), (5, false), (6, false), (7, false), (8, false), (9, false), (10, false), (11, false), (12, false), (13, false), (14, false), (15, false), (16, false), (17, false), (18, false), (19, false), (20, false), (21, false), (22, false), (23, false), (24, false), (25, false), (26, false), (27, false), (28, true), (29, false), (30, false), (31, false), (32, true), (33, false)] (by kernel_rfl) (by kernel_rfl) (below_drew HB5.out) ?_
 simp only [planL, List.getElem?_cons_zero, List.getElem?_cons_succ]
 obtain ⟨wd, hwd⟩ : ∃ z, w5.drew = z := ⟨_, rfl⟩
 have HBD : Hid (Below w4.heap.size w4 wd) := zh (by rw [← hwd]; exact below_drew HB5.out)
 rw [hwd]
 clear hwd
 cases b with
 | false =>
  cases q with
  | none =>
   have hA := HA.out
   have HK : hk = true := HQ.out rfl
   subst HK
   have HYC : Hid (Y = fstW [!z.listed, z.stock == 0, am, z.done, false, false] 0) := zh (by rw [HY.out, HA.out]; rfl)
   repeat (first | (refine plan_on _ (by rfl) (fun W hW => by (obtain ⟨y0, y1, y2, y3, y4, y5, y6, y7, y8, y9, y10, y11, z0, z1, z2, z3, z4, z5⟩ := HSC.out W hW; go_simp; try with_reducible rfl)) ?_; simp only [Act.put, xq1, xq2, xq3]) | (refine plan_off (by rfl) ?_; simp only [Act.put, xq1, xq2, xq3]))
   refine plan_turn ?_
   go_wp2_with fail
   refine ⟨HBD.out, ?_⟩
   repeat (first | (refine plan_on _ (by rfl) (fun W hW => by (obtain ⟨y0, y1, y2, y3, y4, y5, y6, y7, y8, y9, y10, y11, z0, z1, z2, z3, z4, z5⟩ := HSC.out W hW; go_simp; try with_reducible rfl)) ?_; simp only [Act.put, xq1, xq2, xq3]) | (refine plan_off (by rfl) ?_; simp only [Act.put, xq1, xq2, xq3]))
   refine plan_turn ?_
   have HC := zh (first_any (!z.listed) (z.stock == 0) am z.done false false wd)
   rw [← HYC.out] at HC
   go_wp2_with fail
   refine HC.out.mono ?_
   rintro e w7 ⟨rfl, hb7⟩
   have HB7 : Hid (Below w4.heap.size w4 w7) := zh (HBD.out.trans (hb7.mono HBD.out.size))
   clear hb7 HC
   go_wp2_with fail
   refine ⟨HB7.out, ?_⟩
   repeat (first | (refine plan_on _ (by rfl) (fun W hW => by (obtain ⟨y0, y1, y2, y3, y4, y5, y6, y7, y8, y9, y10, y11, z0, z1, z2, z3, z4, z5⟩ := HSC.out W hW; go_simp; try with_reducible rfl)) ?_; simp only [Act.put, xq1, xq2, xq3]) | (refine plan_off (by rfl) ?_; simp only [Act.put, xq1, xq2, xq3]))
   refine plan_done ?_
   go_wp2_with fail
   go_ret
   exact ⟨rfl, HBF.out w7 HB7.out⟩
  | some ad =>
   have hA := HA.out
   obtain ⟨gq, oq, mq⟩ := ad
   have HYC : Hid (Y = fstW [!z.listed, z.stock == 0, am, z.done, false, (!hk)] 0) := zh (by rw [HY.out, HA.out]; rfl)
   repeat (first | (refine plan_on _ (by rfl) (fun W hW => by (obtain ⟨y0, y1, y2, y3, y4, y5, y6, y7, y8, y9, y10, y11, z0, z1, z2, z3, z4, z5⟩ := HSC.out W hW; go_simp; try with_reducible rfl)) ?_; simp only [Act.put, xq1, xq2, xq3]) | (refine plan_off (by rfl) ?_; simp only [Act.put, xq1, xq2, xq3]))
   refine plan_turn ?_
   have HC := zh (HHO.out wd (HBF.out wd HBD.out))
   unfold fzA at HC
   go_wp2_with fail
   refine HC.out.mono ?_
   rintro e w6 ⟨rfl, hb6⟩
   have HB6 : Hid (Below w4.heap.size w4 w6) := zh (HBD.out.trans (hb6.mono HBD.out.size))
   clear hb6 HC
   go_wp2_with fail
   refine ⟨HB6.out, ?_⟩
   repeat (first | (refine plan_on _ (by rfl) (fun W hW => by (obtain ⟨y0, y1, y2, y3, y4, y5, y6, y7, y8, y9, y10, y11, z0, z1, z2, z3, z4, z5⟩ := HSC.out W hW; go_simp; try with_reducible rfl)) ?_; simp only [Act.put, xq1, xq2, xq3]) | (refine plan_off (by rfl) ?_; simp only [Act.put, xq1, xq2, xq3]))
   refine plan_turn ?_
   have HC := zh (first_any (!z.listed) (z.stock == 0) am z.done false (!hk) w6)
   rw [← HYC.out] at HC
   go_wp2_with fail
   refine HC.out.mono ?_
   rintro e w7 ⟨rfl, hb7⟩
   have HB7 : Hid (Below w4.heap.size w4 w7) := zh (HB6.out.trans (hb7.mono HB6.out.size))
   clear hb7 HC
   go_wp2_with fail
   refine ⟨HB7.out, ?_⟩
   repeat (first | (refine plan_on _ (by rfl) (fun W hW => by (obtain ⟨y0, y1, y2, y3, y4, y5, y6, y7, y8, y9, y10, y11, z0, z1, z2, z3, z4, z5⟩ := HSC.out W hW; go_simp; try with_reducible rfl)) ?_; simp only [Act.put, xq1, xq2, xq3]) | (refine plan_off (by rfl) ?_; simp only [Act.put, xq1, xq2, xq3]))
   refine plan_done ?_
   go_wp2_with fail
   go_ret
   exact ⟨rfl, HBF.out w7 HB7.out⟩
 | true =>
  cases q with
  | none =>
   have hA := HA.out
   have HK : hk = true := HQ.out rfl
   subst HK
   have HYC : Hid (Y = fstW [!z.listed, z.stock == 0, am, z.done, (decide (c.span < z.age)), false] 0) := zh (by rw [HY.out, HA.out]; rfl)
   repeat (first | (refine plan_on _ (by rfl) (fun W hW => by (obtain ⟨y0, y1, y2, y3, y4, y5, y6, y7, y8, y9, y10, y11, z0, z1, z2, z3, z4, z5⟩ := HSC.out W hW; go_simp; try with_reducible rfl)) ?_; simp only [Act.put, xq1, xq2, xq3]) | (refine plan_off (by rfl) ?_; simp only [Act.put, xq1, xq2, xq3]))
   refine plan_turn ?_
   go_wp2_with fail
   refine ⟨HBD.out, ?_⟩
   repeat (first | (refine plan_on _ (by rfl) (fun W hW => by (obtain ⟨y0, y1, y2, y3, y4, y5, y6, y7, y8, y9, y10, y11, z0, z1, z2, z3, z4, z5⟩ := HSC.out W hW; go_simp; try with_reducible rfl)) ?_; simp only [Act.put, xq1, xq2, xq3]) | (refine plan_off (by rfl) ?_; simp only [Act.put, xq1, xq2, xq3]))
   refine plan_turn ?_
   have HC := zh (first_any (!z.listed) (z.stock == 0) am z.done (decide (c.span < z.age)) false wd)
   rw [← HYC.out] at HC
   go_wp2_with fail
   refine HC.out.mono ?_
   rintro e w7 ⟨rfl, hb7⟩
   have HB7 : Hid (Below w4.heap.size w4 w7) := zh (HBD.out.trans (hb7.mono HBD.out.size))
   clear hb7 HC
   go_wp2_with fail
   refine ⟨HB7.out, ?_⟩
   repeat (first | (refine plan_on _ (by rfl) (fun W hW => by (obtain ⟨y0, y1, y2, y3, y4, y5, y6, y7, y8, y9, y10, y11, z0, z1, z2, z3, z4, z5⟩ := HSC.out W hW; go_simp; try with_reducible rfl)) ?_; simp only [Act.put, xq1, xq2, xq3]) | (refine plan_off (by rfl) ?_; simp only [Act.put, xq1, xq2, xq3]))
   refine plan_done ?_
   go_wp2_with fail
   go_ret
   exact ⟨rfl, HBF.out w7 HB7.out⟩
  | some ad =>
   have hA := HA.out
   obtain ⟨gq, oq, mq⟩ := ad
   have HYC : Hid (Y = fstW [!z.listed, z.stock == 0, am, z.done, (decide (c.span < z.age)), (!hk)] 0) := zh (by rw [HY.out, HA.out]; rfl)
   repeat (first | (refine plan_on _ (by rfl) (fun W hW => by (obtain ⟨y0, y1, y2, y3, y4, y5, y6, y7, y8, y9, y10, y11, z0, z1, z2, z3, z4, z5⟩ := HSC.out W hW; go_simp; try with_reducible rfl)) ?_; simp only [Act.put, xq1, xq2, xq3]) | (refine plan_off (by rfl) ?_; simp only [Act.put, xq1, xq2, xq3]))
   refine plan_turn ?_
   have HC := zh (HHO.out wd (HBF.out wd HBD.out))
   unfold fzA at HC
   go_wp2_with fail
   refine HC.out.mono ?_
   rintro e w6 ⟨rfl, hb6⟩
   have HB6 : Hid (Below w4.heap.size w4 w6) := zh (HBD.out.trans (hb6.mono HBD.out.size))
   clear hb6 HC
   go_wp2_with fail
   refine ⟨HB6.out, ?_⟩
   repeat (first | (refine plan_on _ (by rfl) (fun W hW => by (obtain ⟨y0, y1, y2, y3, y4, y5, y6, y7, y8, y9, y10, y11, z0, z1, z2, z3, z4, z5⟩ := HSC.out W hW; go_simp; try with_reducible rfl)) ?_; simp only [Act.put, xq1, xq2, xq3]) | (refine plan_off (by rfl) ?_; simp only [Act.put, xq1, xq2, xq3]))
   refine plan_turn ?_
   have HC := zh (first_any (!z.listed) (z.stock == 0) am z.done (decide (c.span < z.age)) (!hk) w6)
   rw [← HYC.out] at HC
   go_wp2_with fail
   refine HC.out.mono ?_
   rintro e w7 ⟨rfl, hb7⟩
   have HB7 : Hid (Below w4.heap.size w4 w7) := zh (HB6.out.trans (hb7.mono HB6.out.size))
   clear hb7 HC
   go_wp2_with fail
   refine ⟨HB7.out, ?_⟩
   repeat (first | (refine plan_on _ (by rfl) (fun W hW => by (obtain ⟨y0, y1, y2, y3, y4, y5, y6, y7, y8, y9, y10, y11, z0, z1, z2, z3, z4, z5⟩ := HSC.out W hW; go_simp; try with_reducible rfl)) ?_; simp only [Act.put, xq1, xq2, xq3]) | (refine plan_off (by rfl) ?_; simp only [Act.put, xq1, xq2, xq3]))
   refine plan_done ?_
   go_wp2_with fail
   go_ret
   exact ⟨rfl, HBF.out w7 HB7.out⟩
end Go.Proofs.YthdmpcnnbminlaaGreatDoor
