/- Does a catalog tell as the document does? It does. -/
import Derived.Test.YtpnfnmpohacnoaaDoorRApply
import Derived.Test.YtpnfnmpohacnoaaDoorTexts
import Derived.Test.YtpnfnmpohacnoaaDoorPlan
namespace Go.Proofs.YtpnfnmpohacnoaaDoor
open Go.Shelf Go.RowKit Go.Maps
set_option linter.unusedVariables false

@[go_sem high] theorem eq_rit (a1 a2 a3 : ByteArray) (a4 a5 a6 : Int) (a7 : Bool) (b1 b2 b3 : ByteArray) (b4 b5 b6 : Int) (b7 : Bool) (w : World) :
    (Op.equalIn 10000 64 (.agg #[.string a1, .string a2, .string a3, .int .i64 a4, .int .i64 a5, .int .i64 a6, .bool a7]) (.agg #[.string b1, .string b2, .string b3, .int .i64 b4, .int .i64 b5, .int .i64 b6, .bool b7])).run Tryd.prog w = .ok (itB ⟨a1, a2, a3, a4, a5, a6, a7⟩ ⟨b1, b2, b3, b4, b5, b6, b7⟩) w := by
  by_cases h1 : a1 = b1
  rotate_left
  · simp [go_sem, str_eqB, itB, h1]
  by_cases h2 : a2 = b2
  rotate_left
  · simp [go_sem, str_eqB, itB, h1, h2]
  by_cases h3 : a3 = b3
  rotate_left
  · simp [go_sem, str_eqB, itB, h1, h2, h3]
  by_cases h4 : a4 = b4
  rotate_left
  · simp [go_sem, itB, h1, h2, h3, h4]
  by_cases h5 : a5 = b5
  rotate_left
  · simp [go_sem, itB, h1, h2, h3, h4, h5]
  by_cases h6 : a6 = b6
  rotate_left
  · simp [go_sem, itB, h1, h2, h3, h4, h5, h6]
  by_cases h7 : a7 = b7
  rotate_left
  · simp [go_sem, itB, h1, h2, h3, h4, h5, h6, h7]
  simp [go_sem, itB, h1, h2, h3, h4, h5, h6, h7]

def TwoIt (W : World) (b1 b2 : Nat) (x : It) : Prop := ((World.cell? W ⟨b1, 0, none⟩ = some (.string x.name) ∧ World.cell? W ⟨b1, 1, none⟩ = some (.string x.maker) ∧ World.cell? W ⟨b1, 2, none⟩ = some (.string x.tags) ∧ World.cell? W ⟨b1, 3, none⟩ = some (.int .i64 x.stock) ∧ World.cell? W ⟨b1, 4, none⟩ = some (.int .i64 x.price) ∧ World.cell? W ⟨b1, 5, none⟩ = some (.int .i64 x.born) ∧ World.cell? W ⟨b1, 6, none⟩ = some (.bool x.listed)) ∧ World.cell? W ⟨b2, 0, none⟩ = some (.string x.name) ∧ World.cell? W ⟨b2, 1, none⟩ = some (.string x.maker) ∧ World.cell? W ⟨b2, 2, none⟩ = some (.string x.tags) ∧ World.cell? W ⟨b2, 3, none⟩ = some (.int .i64 x.stock) ∧ World.cell? W ⟨b2, 4, none⟩ = some (.int .i64 x.price) ∧ World.cell? W ⟨b2, 5, none⟩ = some (.int .i64 x.born) ∧ World.cell? W ⟨b2, 6, none⟩ = some (.bool x.listed))
theorem TwoIt.keep {W W' : World} {b1 b2 : Nat} {x : It} (h : TwoIt W b1 b2 x) (hb : Below W.heap.size W W') (l1 : b1 < W.heap.size) (l2 : b2 < W.heap.size) : TwoIt W' b1 b2 x := by
  obtain ⟨⟨a0, a1, a2, a3, a4, a5, a6⟩, a7, a8, a9, a10, a11, a12, a13⟩ := h
  have k : ∀ g j, g < W.heap.size → W'.cell? ⟨g, j, none⟩ = W.cell? ⟨g, j, none⟩ := fun g j hl => hb.cell (p := ⟨g, j, none⟩) hl
  exact ⟨⟨(k _ _ l1).trans a0, (k _ _ l1).trans a1, (k _ _ l1).trans a2, (k _ _ l1).trans a3, (k _ _ l1).trans a4, (k _ _ l1).trans a5, (k _ _ l1).trans a6⟩, (k _ _ l2).trans a7, (k _ _ l2).trans a8, (k _ _ l2).trans a9, (k _ _ l2).trans a10, (k _ _ l2).trans a11, (k _ _ l2).trans a12, (k _ _ l2).trans a13⟩
theorem cat_kind {e : Ev} (h : catB e = true) : e.kind = 11 ∨ e.kind = 12 ∨ e.kind = 13 := by
  unfold catB at h
  rw [Bool.and_eq_true] at h
  exact of_decide_eq_true h.2
theorem told_same {es : List Ev} (h : Rising es) (nm : ByteArray) (t : Int) : rtoldP (rst es nm t) = toldP (atP es nm t) := by
  unfold rtoldP toldP
  rw [rx_at h, rst_some h]

set_option maxHeartbeats 8000000 in
set_option maxRecDepth 100000 in
theorem alike_any (cb : Nat) (F : Nat → Prop) (es : List Ev) (A : Option Addr) (n c : Nat) (nm wd : ByteArray) (t : Int) (w : World) (hc : CatAt w cb F es) (hn : es.length = n) (hl : EvsAt w w.heap.size A es) (hb : n ≤ 1000) (hfew : ∀ e ∈ es, EvFew e) (hg : GlobAt w) (hnm : nm.size ≤ 1000000) (hwd : wd.size ≤ 1000000) :
    Calls Tryd.prog 24 #[.pointer (some ⟨cb, 0, none⟩), .slice A n c, .string nm, .string wd, .int .i64 t] w fun e w' => e = .returned (.bool true) ∧ Below w.heap.size w w' := by
  have HRI := Lib.hid hc.rise
  have HSH := Lib.hid hc.sh
  have HKD : Hid (∀ e ∈ es, e.kind = 11 ∨ e.kind = 12 ∨ e.kind = 13) := Lib.hid (fun e he => cat_kind (hc.may e he))
  have HN := Lib.hid hn
  have HL := Lib.hid hl
  have HC := Lib.hid hc
  have HFW := Lib.hid hfew
  have HG := Lib.hid hg
  have HLE : Hid (es.length ≤ 1000000) := Lib.hid (by omega)
  have HAa := Lib.hid (at_any cb F es nm t w hc hnm HLE.out)
  have HTS := Lib.hid (told_same HRI.out nm t)
  clear hn hl hc hfew hg
  unfold toldP itA at HAa
  have HTV : Hid (toldP (atP es nm t) = .tuple #[.agg #[.string ((atP es nm t).getD it0).name, .string ((atP es nm t).getD it0).maker, .string ((atP es nm t).getD it0).tags, .int .i64 ((atP es nm t).getD it0).stock, .int .i64 ((atP es nm t).getD it0).price, .int .i64 ((atP es nm t).getD it0).born, .bool ((atP es nm t).getD it0).listed], .bool (atP es nm t).isSome]) := Lib.hid rfl
  rw [HTV.out] at HTS
  generalize (atP es nm t).getD it0 = xa at *
  generalize (atP es nm t).isSome = oka at *
  clear HTV
  have HXX := Lib.hid (itB_rfl xa)
  have hoo : (oka == oka) = true := by simp
  go_enter Tryd.func24, Tryd.ntmps24
  go_wp2_with fail
  refine HAa.out.mono ?_
  rintro e w1 ⟨rfl, hb1⟩
  clear HAa
  obtain ⟨w2, hw2⟩ : ∃ w2, w1.alloc (.cells #[.string xa.name, .string xa.maker, .string xa.tags, .int .i64 xa.stock, .int .i64 xa.price, .int .i64 xa.born, .bool xa.listed] 30) = w2 := ⟨_, rfl⟩
  have hb2 : Below w.heap.size w w2 := by rw [← hw2]; exact hb1.alloc hb1.size _
  have HIa : Hid (Blk w2 w1.heap.size 30 (itArr xa)) := Lib.hid (by rw [← hw2]; exact Blk.new _ _ _)
  have HB2 := Lib.hid hb2
  have HRA := Lib.hid (refat_any w2 w.heap.size A es n c nm t HN.out (HL.out.below hb2) hb2.size (by omega) HSH.out HKD.out)
  rw [HTS.out] at HRA
  have hl2 := HIa.out.lt
  clear hb2 hb1
  go_wp2_with fail
  clear hw2
  refine HRA.out.mono ?_
  rintro e w3 ⟨rfl, hb3⟩
  clear HRA
  obtain ⟨w4, hw4⟩ : ∃ w4, w3.alloc (.cells #[.string xa.name, .string xa.maker, .string xa.tags, .int .i64 xa.stock, .int .i64 xa.price, .int .i64 xa.born, .bool xa.listed] 64) = w4 := ⟨_, rfl⟩
  have HB3 : Hid (Below w.heap.size w w3) := Lib.hid (HB2.out.trans (hb3.mono HB2.out.size))
  have HB4 : Hid (Below w.heap.size w w4) := Lib.hid (by rw [← hw4]; exact HB3.out.alloc HB3.out.size _)
  have HI3 : Hid (Blk w3 w1.heap.size 30 (itArr xa)) := Lib.hid ((hb3.block _ HIa.out.lt).trans HIa.out)
  have HI4 : Hid (Blk w4 w1.heap.size 30 (itArr xa)) := Lib.hid (by rw [← hw4]; exact HI3.out.alloc _)
  have HJ4 : Hid (Blk w4 w3.heap.size 64 (itArr xa)) := Lib.hid (by rw [← hw4]; exact Blk.new _ _ _)
  have HL1 := Lib.hid HI4.out.lt
  have HL2 := Lib.hid HJ4.out.lt
  have HK4 : Hid (TwoIt w4 w1.heap.size w3.heap.size xa) := Lib.hid ⟨⟨HI4.out.cell 0, HI4.out.cell 1, HI4.out.cell 2, HI4.out.cell 3, HI4.out.cell 4, HI4.out.cell 5, HI4.out.cell 6⟩, HJ4.out.cell 0, HJ4.out.cell 1, HJ4.out.cell 2, HJ4.out.cell 3, HJ4.out.cell 4, HJ4.out.cell 5, HJ4.out.cell 6⟩
  have HKR : Hid ((World.cell? w4.drew ⟨w1.heap.size, 0, none⟩ = some (.string xa.name) ∧ World.cell? w4.drew ⟨w1.heap.size, 1, none⟩ = some (.string xa.maker) ∧ World.cell? w4.drew ⟨w1.heap.size, 2, none⟩ = some (.string xa.tags) ∧ World.cell? w4.drew ⟨w1.heap.size, 3, none⟩ = some (.int .i64 xa.stock) ∧ World.cell? w4.drew ⟨w1.heap.size, 4, none⟩ = some (.int .i64 xa.price) ∧ World.cell? w4.drew ⟨w1.heap.size, 5, none⟩ = some (.int .i64 xa.born) ∧ World.cell? w4.drew ⟨w1.heap.size, 6, none⟩ = some (.bool xa.listed)) ∧ World.cell? w4.drew ⟨w3.heap.size, 0, none⟩ = some (.string xa.name) ∧ World.cell? w4.drew ⟨w3.heap.size, 1, none⟩ = some (.string xa.maker) ∧ World.cell? w4.drew ⟨w3.heap.size, 2, none⟩ = some (.string xa.tags) ∧ World.cell? w4.drew ⟨w3.heap.size, 3, none⟩ = some (.int .i64 xa.stock) ∧ World.cell? w4.drew ⟨w3.heap.size, 4, none⟩ = some (.int .i64 xa.price) ∧ World.cell? w4.drew ⟨w3.heap.size, 5, none⟩ = some (.int .i64 xa.born) ∧ World.cell? w4.drew ⟨w3.heap.size, 6, none⟩ = some (.bool xa.listed)) := HK4
  have HTO : Hid (∀ W, Calls Tryd.prog 41 #[.agg #[.string xa.name, .string xa.maker, .string xa.tags, .int .i64 xa.stock, .int .i64 xa.price, .int .i64 xa.born, .bool xa.listed]] W fun e w' => e = .returned (.agg #[.string xa.name, .string xa.maker, .string xa.tags, .int .i64 xa.stock, .int .i64 xa.price, .int .i64 xa.born, .bool xa.listed]) ∧ Below W.heap.size W w') := Lib.hid (fun W => told_any xa W)
  have hxx := HXX.out
  have hcl1 : (chgP es nm).length ≤ 1000000 := by have h1 := chgL_len ((rowOf es nm).map (·.tick)); have h2 := rowOf_le es nm; have h3 := HLE.out; rw [List.length_map] at h1; unfold chgP; omega
  have HNB : Hid (∀ W : World, Below w.heap.size w W → EvsAt W w.heap.size A es ∧ w.heap.size ≤ W.heap.size ∧ CatAt W cb F es ∧ GlobAt W) := Lib.hid (fun W h => ⟨HL.out.below h, h.size, HC.out.below h, HG.out.keep h (Nat.le_refl _)⟩)
  go_wp2_with fail
  clear hw4 hb3 HI3 HI4 HJ4 HIa HB2 HB3
  have HS0 : Hid (Below w4.heap.size w4 w4.drew) := Lib.hid ⟨rfl, rfl, rfl, Nat.le_refl _, fun _ _ => rfl⟩
  have HSC : Hid (∀ W, Below w4.heap.size w4 W → TwoIt W w1.heap.size w3.heap.size xa) := Lib.hid (fun W hW => TwoIt.keep HK4.out hW HL1.out HL2.out)
  refine wp_plan (fun W => Below w4.heap.size w4 W) [(0, false), (2, false), (1, true), (3, false), (4, false), (5, false), (6, false), (7, false), (8, false), (9, false), (10, false), (11, false), (13, false), (14, false), (12, true), (15, true), (16, true), (17, false), (18, false), (19, false), (20, false), (21, false), (23, false), (24, false), (25, false), (22, true), (26, true), (27, true), (28, false), (29, false), (30, false), (31, false), (32, false), (34, false), (35, false), (36, false), (33, true), (37, true), (38, true), (39, false), (40, false), (41, false), (42, false), (44, false), (45, false), (43, true), (46, true), (47, true), (48, false), (49, false)] (by kernel_rfl) (by kernel_rfl) HS0.out ?_
  simp only [planL, List.getElem?_cons_zero, List.getElem?_cons_succ]
  refine plan_on _ (by rfl) (fun W hW => by (obtain ⟨⟨x0, x1, x2, x3, x4, x5, x6⟩, y0, y1, y2, y3, y4, y5, y6⟩ := HSC.out W hW; go_simp; try with_reducible rfl)) ?_
  simp only [Act.put, List.setIfInBounds_toArray, List.set_cons_zero, List.set_cons_succ]
  refine plan_on _ (by rfl) (fun W hW => by (obtain ⟨⟨x0, x1, x2, x3, x4, x5, x6⟩, y0, y1, y2, y3, y4, y5, y6⟩ := HSC.out W hW; go_simp; try with_reducible rfl)) ?_
  simp only [Act.put, List.setIfInBounds_toArray, List.set_cons_zero, List.set_cons_succ]
  refine plan_turn ?_
  go_wp2_with fail
  refine (HTO.out _).mono ?_
  rintro e w10 ⟨rfl, hb10⟩
  have hbk : Below w4.heap.size w4 w10 := ⟨hb10.os, hb10.tape, hb10.output, hb10.size, hb10.block⟩
  have HS10 : Hid (Below w4.heap.size w4 w10) := Lib.hid (hbk)
  have HB10 : Hid (Below w.heap.size w w10) := Lib.hid (HB4.out.trans (HS10.out.mono HB4.out.size))
  obtain ⟨el, es', ec, eg⟩ := HNB.out w10 HB10.out
  have HEL10 := Lib.hid el
  have HES10 := Lib.hid es'
  have HEC10 := Lib.hid ec
  have HEG10 := Lib.hid eg
  clear el es' ec eg hbk
  go_wp2_with fail
  refine ⟨HS10.out, ?_⟩
  repeat (first | (refine plan_on _ (by rfl) (fun W hW => by (go_simp; try with_reducible rfl)) ?_; simp only [Act.put, List.setIfInBounds_toArray, List.set_cons_zero, List.set_cons_succ]) | (refine plan_off (by rfl) ?_; simp only [Act.put, List.setIfInBounds_toArray, List.set_cons_zero, List.set_cons_succ]))
  refine plan_turn ?_
  go_wp2_with fail
  refine (names_any cb F es t w10 HEC10.out HLE.out).mono ?_
  rintro e w11 ⟨A11, c11, k11, rfl, hi11, hl11, hr11, hb11⟩
  have hbk : Below w10.heap.size w10 w11 := hb11
  have HS11 : Hid (Below w4.heap.size w4 w11) := Lib.hid (HS10.out.trans (hbk.mono HS10.out.size))
  have HB11 : Hid (Below w.heap.size w w11) := Lib.hid (HB4.out.trans (HS11.out.mono HB4.out.size))
  obtain ⟨el, es', ec, eg⟩ := HNB.out w11 HB11.out
  have HEL11 := Lib.hid el
  have HES11 := Lib.hid es'
  have HEC11 := Lib.hid ec
  have HEG11 := Lib.hid eg
  have HI11 := Lib.hid hi11
  have HR11 := Lib.hid hr11
  clear hi11 hr11
  clear el es' ec eg hbk
  go_wp2_with fail
  refine ⟨HS11.out, ?_⟩
  repeat (first | (refine plan_on _ (by rfl) (fun W hW => by (go_simp; try with_reducible rfl)) ?_; simp only [Act.put, List.setIfInBounds_toArray, List.set_cons_zero, List.set_cons_succ]) | (refine plan_off (by rfl) ?_; simp only [Act.put, List.setIfInBounds_toArray, List.set_cons_zero, List.set_cons_succ]))
  refine plan_turn ?_
  go_wp2_with fail
  refine (refnames_any w11 w.heap.size A es n c t HN.out HEL11.out HES11.out (by omega) HSH.out HKD.out).mono ?_
  rintro e w12 ⟨A12, c12, k12, rfl, hi12, hl12, hr12, hb12⟩
  have hbk : Below w11.heap.size w11 w12 := hb12
  have HS12 : Hid (Below w4.heap.size w4 w12) := Lib.hid (HS11.out.trans (hbk.mono HS11.out.size))
  have HB12 : Hid (Below w.heap.size w w12) := Lib.hid (HB4.out.trans (HS12.out.mono HB4.out.size))
  obtain ⟨el, es', ec, eg⟩ := HNB.out w12 HB12.out
  have HEL12 := Lib.hid el
  have HES12 := Lib.hid es'
  have HEC12 := Lib.hid ec
  have HEG12 := Lib.hid eg
  have HEQ12 : Hid (k11 = k12) := Lib.hid (HI11.out.one hi12 (fun nn => (rl_wh HRI.out t nn).symm))
  have HRP11 : Hid (RowIn w12 w11.heap.size 1 A11 k11.length (k11.map .string)) := Lib.hid (HR11.out.below hb12)
  have HR12 := Lib.hid (RowIn.of_own hr12)
  clear hi12 hr12
  clear el es' ec eg hbk
  go_wp2_with fail
  refine ⟨HS12.out, ?_⟩
  repeat (first | (refine plan_on _ (by rfl) (fun W hW => by (go_simp; try with_reducible rfl)) ?_; simp only [Act.put, List.setIfInBounds_toArray, List.set_cons_zero, List.set_cons_succ]) | (refine plan_off (by rfl) ?_; simp only [Act.put, List.setIfInBounds_toArray, List.set_cons_zero, List.set_cons_succ]))
  refine plan_turn ?_
  go_wp2_with fail
  refine (texts_any w12 A11 A12 k11 k12 k11.length k12.length c11 c12 _ _ rfl rfl HRP11.out HR12.out (Nat.le_trans hl11 HLE.out)).mono ?_
  rintro e w13 ⟨bt, rfl, hbt, q13, hw13⟩
  have hbk : Below w12.heap.size w12 w13 := (by rw [hw13]; exact below_drewN (Below.refl _ _) _)
  have HS13 : Hid (Below w4.heap.size w4 w13) := Lib.hid (HS12.out.trans (hbk.mono HS12.out.size))
  have HB13 : Hid (Below w.heap.size w w13) := Lib.hid (HB4.out.trans (HS13.out.mono HB4.out.size))
  obtain ⟨el, es', ec, eg⟩ := HNB.out w13 HB13.out
  have HEL13 := Lib.hid el
  have HES13 := Lib.hid es'
  have HEC13 := Lib.hid ec
  have HEG13 := Lib.hid eg
  obtain rfl : bt = true := hbt.2 HEQ12.out
  clear hbt hw13
  clear el es' ec eg hbk
  go_wp2_with fail
  refine ⟨HS13.out, ?_⟩
  repeat (first | (refine plan_on _ (by rfl) (fun W hW => by (go_simp; try with_reducible rfl)) ?_; simp only [Act.put, List.setIfInBounds_toArray, List.set_cons_zero, List.set_cons_succ]) | (refine plan_off (by rfl) ?_; simp only [Act.put, List.setIfInBounds_toArray, List.set_cons_zero, List.set_cons_succ]))
  refine plan_turn ?_
  go_wp2_with fail
  refine (bymaker_any cb F es wd t w13 HEC13.out HEG13.out HLE.out).mono ?_
  rintro e w14 ⟨A14, c14, k14, rfl, hi14, hl14, hr14, hb14⟩
  have hbk : Below w13.heap.size w13 w14 := hb14
  have HS14 : Hid (Below w4.heap.size w4 w14) := Lib.hid (HS13.out.trans (hbk.mono HS13.out.size))
  have HB14 : Hid (Below w.heap.size w w14) := Lib.hid (HB4.out.trans (HS14.out.mono HB4.out.size))
  obtain ⟨el, es', ec, eg⟩ := HNB.out w14 HB14.out
  have HEL14 := Lib.hid el
  have HES14 := Lib.hid es'
  have HEC14 := Lib.hid ec
  have HEG14 := Lib.hid eg
  have HI14 := Lib.hid hi14
  have HR14 := Lib.hid hr14
  clear hi14 hr14
  clear el es' ec eg hbk
  go_wp2_with fail
  refine ⟨HS14.out, ?_⟩
  repeat (first | (refine plan_on _ (by rfl) (fun W hW => by (go_simp; try with_reducible rfl)) ?_; simp only [Act.put, List.setIfInBounds_toArray, List.set_cons_zero, List.set_cons_succ]) | (refine plan_off (by rfl) ?_; simp only [Act.put, List.setIfInBounds_toArray, List.set_cons_zero, List.set_cons_succ]))
  refine plan_turn ?_
  go_wp2_with fail
  refine (rbymaker_any w14 w.heap.size A es n c wd t HN.out HEL14.out HES14.out (by omega) HFW.out HKD.out HRI.out).mono ?_
  rintro e w15 ⟨A15, c15, k15, rfl, hi15, hl15, hr15, hb15⟩
  have hbk : Below w14.heap.size w14 w15 := hb15
  have HS15 : Hid (Below w4.heap.size w4 w15) := Lib.hid (HS14.out.trans (hbk.mono HS14.out.size))
  have HB15 : Hid (Below w.heap.size w w15) := Lib.hid (HB4.out.trans (HS15.out.mono HB4.out.size))
  obtain ⟨el, es', ec, eg⟩ := HNB.out w15 HB15.out
  have HEL15 := Lib.hid el
  have HES15 := Lib.hid es'
  have HEC15 := Lib.hid ec
  have HEG15 := Lib.hid eg
  have HEQ15 : Hid (k14 = k15) := Lib.hid (HI14.out.one hi15 (fun nn => rfl))
  have HRP14 : Hid (RowIn w15 w14.heap.size 1 A14 k14.length (k14.map .string)) := Lib.hid (HR14.out.below hb15)
  have HR15 := Lib.hid (id hr15)
  clear hi15 hr15
  clear el es' ec eg hbk
  go_wp2_with fail
  refine ⟨HS15.out, ?_⟩
  repeat (first | (refine plan_on _ (by rfl) (fun W hW => by (go_simp; try with_reducible rfl)) ?_; simp only [Act.put, List.setIfInBounds_toArray, List.set_cons_zero, List.set_cons_succ]) | (refine plan_off (by rfl) ?_; simp only [Act.put, List.setIfInBounds_toArray, List.set_cons_zero, List.set_cons_succ]))
  refine plan_turn ?_
  go_wp2_with fail
  refine (texts_any w15 A14 A15 k14 k15 k14.length k15.length c14 c15 _ _ rfl rfl HRP14.out HR15.out (Nat.le_trans hl14 HLE.out)).mono ?_
  rintro e w16 ⟨bt, rfl, hbt, q16, hw16⟩
  have hbk : Below w15.heap.size w15 w16 := (by rw [hw16]; exact below_drewN (Below.refl _ _) _)
  have HS16 : Hid (Below w4.heap.size w4 w16) := Lib.hid (HS15.out.trans (hbk.mono HS15.out.size))
  have HB16 : Hid (Below w.heap.size w w16) := Lib.hid (HB4.out.trans (HS16.out.mono HB4.out.size))
  obtain ⟨el, es', ec, eg⟩ := HNB.out w16 HB16.out
  have HEL16 := Lib.hid el
  have HES16 := Lib.hid es'
  have HEC16 := Lib.hid ec
  have HEG16 := Lib.hid eg
  obtain rfl : bt = true := hbt.2 HEQ15.out
  clear hbt hw16
  clear el es' ec eg hbk
  go_wp2_with fail
  refine ⟨HS16.out, ?_⟩
  repeat (first | (refine plan_on _ (by rfl) (fun W hW => by (go_simp; try with_reducible rfl)) ?_; simp only [Act.put, List.setIfInBounds_toArray, List.set_cons_zero, List.set_cons_succ]) | (refine plan_off (by rfl) ?_; simp only [Act.put, List.setIfInBounds_toArray, List.set_cons_zero, List.set_cons_succ]))
  refine plan_turn ?_
  go_wp2_with fail
  refine (bytag_any cb F es wd t w16 HEC16.out HEG16.out HLE.out).mono ?_
  rintro e w17 ⟨A17, c17, k17, rfl, hi17, hl17, hr17, hb17⟩
  have hbk : Below w16.heap.size w16 w17 := hb17
  have HS17 : Hid (Below w4.heap.size w4 w17) := Lib.hid (HS16.out.trans (hbk.mono HS16.out.size))
  have HB17 : Hid (Below w.heap.size w w17) := Lib.hid (HB4.out.trans (HS17.out.mono HB4.out.size))
  obtain ⟨el, es', ec, eg⟩ := HNB.out w17 HB17.out
  have HEL17 := Lib.hid el
  have HES17 := Lib.hid es'
  have HEC17 := Lib.hid ec
  have HEG17 := Lib.hid eg
  have HI17 := Lib.hid hi17
  have HR17 := Lib.hid hr17
  clear hi17 hr17
  clear el es' ec eg hbk
  go_wp2_with fail
  refine ⟨HS17.out, ?_⟩
  repeat (first | (refine plan_on _ (by rfl) (fun W hW => by (go_simp; try with_reducible rfl)) ?_; simp only [Act.put, List.setIfInBounds_toArray, List.set_cons_zero, List.set_cons_succ]) | (refine plan_off (by rfl) ?_; simp only [Act.put, List.setIfInBounds_toArray, List.set_cons_zero, List.set_cons_succ]))
  refine plan_turn ?_
  go_wp2_with fail
  refine (rbytag_any w17 w.heap.size A es n c wd t HN.out HEL17.out HES17.out (by omega) HFW.out HKD.out HRI.out).mono ?_
  rintro e w18 ⟨A18, c18, k18, rfl, hi18, hl18, hr18, hb18⟩
  have hbk : Below w17.heap.size w17 w18 := hb18
  have HS18 : Hid (Below w4.heap.size w4 w18) := Lib.hid (HS17.out.trans (hbk.mono HS17.out.size))
  have HB18 : Hid (Below w.heap.size w w18) := Lib.hid (HB4.out.trans (HS18.out.mono HB4.out.size))
  obtain ⟨el, es', ec, eg⟩ := HNB.out w18 HB18.out
  have HEL18 := Lib.hid el
  have HES18 := Lib.hid es'
  have HEC18 := Lib.hid ec
  have HEG18 := Lib.hid eg
  have HEQ18 : Hid (k17 = k18) := Lib.hid (HI17.out.one hi18 (fun nn => rfl))
  have HRP17 : Hid (RowIn w18 w17.heap.size 1 A17 k17.length (k17.map .string)) := Lib.hid (HR17.out.below hb18)
  have HR18 := Lib.hid (id hr18)
  clear hi18 hr18
  clear el es' ec eg hbk
  go_wp2_with fail
  refine ⟨HS18.out, ?_⟩
  repeat (first | (refine plan_on _ (by rfl) (fun W hW => by (go_simp; try with_reducible rfl)) ?_; simp only [Act.put, List.setIfInBounds_toArray, List.set_cons_zero, List.set_cons_succ]) | (refine plan_off (by rfl) ?_; simp only [Act.put, List.setIfInBounds_toArray, List.set_cons_zero, List.set_cons_succ]))
  refine plan_turn ?_
  go_wp2_with fail
  refine (texts_any w18 A17 A18 k17 k18 k17.length k18.length c17 c18 _ _ rfl rfl HRP17.out HR18.out (Nat.le_trans hl17 HLE.out)).mono ?_
  rintro e w19 ⟨bt, rfl, hbt, q19, hw19⟩
  have hbk : Below w18.heap.size w18 w19 := (by rw [hw19]; exact below_drewN (Below.refl _ _) _)
  have HS19 : Hid (Below w4.heap.size w4 w19) := Lib.hid (HS18.out.trans (hbk.mono HS18.out.size))
  have HB19 : Hid (Below w.heap.size w w19) := Lib.hid (HB4.out.trans (HS19.out.mono HB4.out.size))
  obtain ⟨el, es', ec, eg⟩ := HNB.out w19 HB19.out
  have HEL19 := Lib.hid el
  have HES19 := Lib.hid es'
  have HEC19 := Lib.hid ec
  have HEG19 := Lib.hid eg
  obtain rfl : bt = true := hbt.2 HEQ18.out
  clear hbt hw19
  clear el es' ec eg hbk
  go_wp2_with fail
  refine ⟨HS19.out, ?_⟩
  repeat (first | (refine plan_on _ (by rfl) (fun W hW => by (go_simp; try with_reducible rfl)) ?_; simp only [Act.put, List.setIfInBounds_toArray, List.set_cons_zero, List.set_cons_succ]) | (refine plan_off (by rfl) ?_; simp only [Act.put, List.setIfInBounds_toArray, List.set_cons_zero, List.set_cons_succ]))
  refine plan_turn ?_
  go_wp2_with fail
  refine (changes_any cb F es nm w19 HEC19.out hnm HLE.out).mono ?_
  rintro e w20 ⟨A20, c20, rfl, hr20, hb20⟩
  have hbk : Below w19.heap.size w19 w20 := hb20
  have HS20 : Hid (Below w4.heap.size w4 w20) := Lib.hid (HS19.out.trans (hbk.mono HS19.out.size))
  have HB20 : Hid (Below w.heap.size w w20) := Lib.hid (HB4.out.trans (HS20.out.mono HB4.out.size))
  obtain ⟨el, es', ec, eg⟩ := HNB.out w20 HB20.out
  have HEL20 := Lib.hid el
  have HES20 := Lib.hid es'
  have HEC20 := Lib.hid ec
  have HEG20 := Lib.hid eg
  have HR20 := Lib.hid hr20
  clear hr20
  clear el es' ec eg hbk
  go_wp2_with fail
  refine ⟨HS20.out, ?_⟩
  repeat (first | (refine plan_on _ (by rfl) (fun W hW => by (go_simp; try with_reducible rfl)) ?_; simp only [Act.put, List.setIfInBounds_toArray, List.set_cons_zero, List.set_cons_succ]) | (refine plan_off (by rfl) ?_; simp only [Act.put, List.setIfInBounds_toArray, List.set_cons_zero, List.set_cons_succ]))
  refine plan_turn ?_
  go_wp2_with fail
  refine (rchanges_any w20 w.heap.size A es n c nm HN.out HEL20.out HES20.out (by omega)).mono ?_
  rintro e w21 ⟨A21, c21, rfl, hr21, hb21⟩
  have hbk : Below w20.heap.size w20 w21 := hb21
  have HS21 : Hid (Below w4.heap.size w4 w21) := Lib.hid (HS20.out.trans (hbk.mono HS20.out.size))
  have HB21 : Hid (Below w.heap.size w w21) := Lib.hid (HB4.out.trans (HS21.out.mono HB4.out.size))
  obtain ⟨el, es', ec, eg⟩ := HNB.out w21 HB21.out
  have HEL21 := Lib.hid el
  have HES21 := Lib.hid es'
  have HEC21 := Lib.hid ec
  have HEG21 := Lib.hid eg
  have HRP20 : Hid (RowIn w21 w20.heap.size 1 A20 (chgP es nm).length ((chgP es nm).map (.int .i64))) := Lib.hid (HR20.out.below hb21)
  have HR21 := Lib.hid hr21
  clear hr21
  clear el es' ec eg hbk
  go_wp2_with fail
  refine ⟨HS21.out, ?_⟩
  repeat (first | (refine plan_on _ (by rfl) (fun W hW => by (go_simp; try with_reducible rfl)) ?_; simp only [Act.put, List.setIfInBounds_toArray, List.set_cons_zero, List.set_cons_succ]) | (refine plan_off (by rfl) ?_; simp only [Act.put, List.setIfInBounds_toArray, List.set_cons_zero, List.set_cons_succ]))
  refine plan_turn ?_
  go_wp2_with fail
  refine (ints_any w21 A20 A21 (chgP es nm) (rchg es nm) _ _ c20 c21 _ _ rfl rfl HRP20.out HR21.out hcl1).mono ?_
  rintro e w22 ⟨bt, rfl, hbt, q22, hw22⟩
  have hbk : Below w21.heap.size w21 w22 := (by rw [hw22]; exact below_drewN (Below.refl _ _) _)
  have HS22 : Hid (Below w4.heap.size w4 w22) := Lib.hid (HS21.out.trans (hbk.mono HS21.out.size))
  have HB22 : Hid (Below w.heap.size w w22) := Lib.hid (HB4.out.trans (HS22.out.mono HB4.out.size))
  obtain ⟨el, es', ec, eg⟩ := HNB.out w22 HB22.out
  have HEL22 := Lib.hid el
  have HES22 := Lib.hid es'
  have HEC22 := Lib.hid ec
  have HEG22 := Lib.hid eg
  obtain rfl : bt = true := hbt.2 (rchg_is es nm).symm
  clear hbt hw22
  clear el es' ec eg hbk
  go_wp2_with fail
  refine ⟨HS22.out, ?_⟩
  repeat (first | (refine plan_on _ (by rfl) (fun W hW => by (go_simp; try with_reducible rfl)) ?_; simp only [Act.put, List.setIfInBounds_toArray, List.set_cons_zero, List.set_cons_succ]) | (refine plan_off (by rfl) ?_; simp only [Act.put, List.setIfInBounds_toArray, List.set_cons_zero, List.set_cons_succ]))
  refine plan_done ?_
  go_wp2_with fail
  go_ret
  exact ⟨rfl, HB22.out⟩

end Go.Proofs.YtpnfnmpohacnoaaDoor
