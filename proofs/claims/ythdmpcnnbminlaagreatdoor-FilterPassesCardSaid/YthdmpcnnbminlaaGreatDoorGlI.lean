/- The law's facts. -/
import Derived.Test.YthdmpcnnbminlaaGreatDoorBt
namespace Go.Proofs.YthdmpcnnbminlaaGreatDoor
open Go.Shelf Go.RowKit Go.Maps
open Ru (Fz fzA FAC load_fz)
set_option linter.unusedVariables false
set_option maxHeartbeats 8000000 in
set_option maxRecDepth 100000 in
theorem lfacts_any (w : World) (wb ct cr : Nat) (c : Cfg) (E : List Ev) (p i : ByteArray) (now : Int) (h : WrAt w wb ct cr c E) (hall : ∀ e ∈ E, EvOk e) (hlen : E.length ≤ 1000) (hp : p.size ≤ 300) (hi : i.size ≤ 300) (hnow : InR now) :
  Calls Tryz.prog 23 #[.pointer (some ⟨wb, 0, none⟩), .string p, .string i, .int .i64 now] w (FactsR E p i now w) := by
 obtain ⟨X, hX⟩ : ∃ X, (Ct.atP (thgs E) i now).getD Ct.it0 = X := ⟨_, rfl⟩
 obtain ⟨ok, hok⟩ : ∃ ok, (Ct.atP (thgs E) i now).isSome = ok := ⟨_, rfl⟩
 obtain ⟨fans, hfans⟩ : ∃ z : Int, (fansN (rowsW E) i : Int) = z := ⟨_, rfl⟩
 obtain ⟨done, hdone⟩ : ∃ z, doneB (rowsW E) p i = z := ⟨_, rfl⟩
 obtain ⟨fol, hfol⟩ : ∃ z, decide (folO (rowsW E) p X.maker = some true) = z := ⟨_, rfl⟩
 have HZ : Hid (fzOf E p i now = ⟨X.name, X.maker, X.tags, X.stock, X.price, X.born, X.listed, now, if ok then now - X.born else 0, fans, ok && fol, done⟩) := zh (by unfold fzOf; rw [hX, hok, hfans, hdone, hfol])
 have HAGE : Hid (ok = true → IntKind.i64.wrap (now - X.born) = now - X.born) := zh (fun ho => by
  cases ha : Ct.atP (thgs E) i now with
  | none => rw [ha] at hok; rw [← hok] at ho; cases ho
  | some x =>
   rw [ha] at hX
   obtain rfl : x = X := hX
   exact age_ok (m := 300) (fun e he => (hall e he).1) (fun e he => (hall e he).2) hi ha hnow.2)
 have HOFF : Hid (ok = false → X = Ct.it0) := zh (fun ho => by
  cases ha : Ct.atP (thgs E) i now with
  | none => rw [ha] at hX; exact hX.symm
  | some x => rw [ha] at hok; rw [← hok] at ho; cases ho)
 have hrl := rowsW_len E
 have htl := thgs_len E
 obtain ⟨w1, hw1⟩ : ∃ w1, w.alloc (.cells #[.string ⟨#[]⟩, .string ⟨#[]⟩, .string ⟨#[]⟩, .int .i64 0, .int .i64 0, .int .i64 0, .bool false, .int .i64 0, .int .i64 0, .int .i64 0, .bool false, .bool false] 38) = w1 := ⟨_, rfl⟩
 have HX1 : Hid (Blk w1 w.heap.size 38 #[.string ⟨#[]⟩, .string ⟨#[]⟩, .string ⟨#[]⟩, .int .i64 0, .int .i64 0, .int .i64 0, .bool false, .int .i64 0, .int .i64 0, .int .i64 0, .bool false, .bool false]) := zh (by rw [← hw1]; exact Blk.new _ _ _)
 have HB1 : Hid (Below w.heap.size w w1) := zh (by rw [← hw1]; exact (Below.refl _ _).alloc (Nat.le_refl _) _)
 have HR1 := zh (h.below HB1.out)
 have HC1 := zh (crowdP_any HR1.out)
 obtain ⟨U, hU⟩ := HR1.out.crw
 have HF1 := zh (fansG_any cr (halfP c.half) U (rowsW E) i w1 hU (by unfold maxLen; omega))
 rw [hfans] at HF1
 have HIS := zh (show p.size ≤ 300 ∧ i.size ≤ 300 from ⟨hp, hi⟩)
 have HD : Hid (∀ W, Below w1.heap.size w1 W → Calls Tryz.prog 37 #[.pointer (some ⟨cr, 0, none⟩), .string p, .string i] W fun e w' => e = .returned (.bool done) ∧ Below W.heap.size W w') := zh (fun W hb => by rw [← hdone]; exact doneG_any cr (halfP c.half) U (rowsW E) p i W (hU.below hb) (by unfold maxLen; omega) (by unfold maxLen; omega))
 have HAT : Hid (∀ W, Below w1.heap.size w1 W → Calls Tryz.prog 32 #[.pointer (some ⟨ct, 0, none⟩), .string i, .int .i64 now] W fun e w' => e = .returned (.tuple #[.agg #[.string X.name, .string X.maker, .string X.tags, .int .i64 X.stock, .int .i64 X.price, .int .i64 X.born, .bool X.listed], .bool ok]) ∧ Below W.heap.size W w') := zh (fun W hb => by
  obtain ⟨F, hF⟩ := (HR1.out.below hb).cat
  have := Ct.at_any ct F (thgs E) i now W hF (by omega) (by omega)
  unfold Ct.toldP Ct.itA at this
  rw [hX, hok] at this
  exact this)
 have HFO : Hid (∀ W, Below w1.heap.size w1 W → Calls Tryz.prog 61 #[.pointer (some ⟨cr, 0, none⟩), .string p] W fun e w' => ∃ (A : Option Addr) (c : Nat) (ks : List ByteArray), e = .returned (.slice A ks.length c) ∧ memB X.maker ks = fol ∧ RowIn w' w'.heap.size 1 A ks.length (ks.map .string) ∧ ks.length ≤ 1000 ∧ Below W.heap.size W w') := zh (fun W hb => by
  refine (follows_any cr (halfP c.half) U (rowsW E) p W (hU.below hb) (by unfold maxLen; omega) (by omega)).mono ?_
  rintro e w' ⟨A, c, ks, rfl, h1, h2, h3, h4⟩
  exact ⟨A, c, ks, rfl, by rw [names_mem h1, hfol], RowIn.of_own h2, h3, h4⟩)
 have HCA := zh (catalogP_any HR1.out)
 have HFB : Hid (∀ W, Below w1.heap.size w1 W → Calls Tryz.prog 59 #[.pointer (some ⟨cr, 0, none⟩), .string i] W fun e w' => e = .returned (.int .i64 fans) ∧ Below W.heap.size W w') := zh (fun W hb => by rw [← hfans]; exact fansG_any cr (halfP c.half) U (rowsW E) i W (hU.below hb) (by unfold maxLen; omega))
 clear HF1 HC1 HIS
 clear h hall hlen hp hi hnow hU hX hok hfans hdone hfol hrl htl
 go_enter Tryz.func23, Tryz.ntmps23
 go_wp2_with fail
 refine HCA.out.mono ?_
 rintro e w2 ⟨rfl, rfl⟩
 have HC := zh (HAT.out w1 (Below.refl _ _))
 clear HCA
 go_wp2_with fail
 refine HC.out.mono ?_
 rintro e w2 ⟨rfl, hb2⟩
 have HB2 := zh hb2
 obtain ⟨w3, hw3⟩ : ∃ w3, w2.alloc (.cells #[.string X.name, .string X.maker, .string X.tags, .int .i64 X.stock, .int .i64 X.price, .int .i64 X.born, .bool X.listed] 36) = w3 := ⟨_, rfl⟩
 have HI3 : Hid (Blk w3 w2.heap.size 36 #[.string X.name, .string X.maker, .string X.tags, .int .i64 X.stock, .int .i64 X.price, .int .i64 X.born, .bool X.listed]) := zh (by rw [← hw3]; exact Blk.new _ _ _)
 have HB3 : Hid (Below w1.heap.size w1 w3) := zh (by rw [← hw3]; exact HB2.out.alloc HB2.out.size _)
 have HCR : Hid (∀ W, Below w3.heap.size w3 W → Calls Tryz.prog 33 #[.pointer (some ⟨wb, 0, none⟩)] W fun e w' => e = .returned (.pointer (some ⟨cr, 0, none⟩)) ∧ W = w') := zh (fun W hb => crowdP_any (HR1.out.below (HB3.out.trans (hb.mono HB3.out.size))))
 have HFN : Hid (∀ W, Below w3.heap.size w3 W → Calls Tryz.prog 59 #[.pointer (some ⟨cr, 0, none⟩), .string i] W fun e w' => e = .returned (.int .i64 fans) ∧ Below W.heap.size W w') := zh (fun W hb => HFB.out W (HB3.out.trans (hb.mono HB3.out.size)))
 have HDN : Hid (∀ W, Below w3.heap.size w3 W → Calls Tryz.prog 37 #[.pointer (some ⟨cr, 0, none⟩), .string p, .string i] W fun e w' => e = .returned (.bool done) ∧ Below W.heap.size W w') := zh (fun W hb => HD.out W (HB3.out.trans (hb.mono HB3.out.size)))
 have HSC : Hid (∀ W, Below w3.heap.size w3 W → World.cell? W ⟨w2.heap.size, 0, none⟩ = some (.string X.name) ∧ World.cell? W ⟨w2.heap.size, 1, none⟩ = some (.string X.maker) ∧ World.cell? W ⟨w2.heap.size, 2, none⟩ = some (.string X.tags) ∧ World.cell? W ⟨w2.heap.size, 3, none⟩ = some (.int .i64 X.stock) ∧ World.cell? W ⟨w2.heap.size, 4, none⟩ = some (.int .i64 X.price) ∧ World.cell? W ⟨w2.heap.size, 5, none⟩ = some (.int .i64 X.born) ∧ World.cell? W ⟨w2.heap.size, 6, none⟩ = some (.bool X.listed)) := zh (fun W hb => by
  have k : Blk W w2.heap.size 36 #[.string X.name, .string X.maker, .string X.tags, .int .i64 X.stock, .int .i64 X.price, .int .i64 X.born, .bool X.listed] := (hb.block _ HI3.out.lt).trans HI3.out
  exact ⟨k.cell 0, k.cell 1, k.cell 2, k.cell 3, k.cell 4, k.cell 5, k.cell 6⟩)
 clear hb2 HC HAT HD HFB hw1
 go_upto_region 2 with fail
 clear hw3
 go_cut [11] (fun v wx => ∃ gb, v = .pointer (some ⟨gb, 0, none⟩) ∧ Hid (Blk wx gb 38 #[.string X.name, .string X.maker, .string X.tags, .int .i64 X.stock, .int .i64 X.price, .int .i64 X.born, .bool X.listed, .int .i64 now, .int .i64 0, .int .i64 fans, .bool false, .bool done]) ∧ Hid (w3.heap.size ≤ gb) ∧ Hid (Below w3.heap.size w3 wx))
 case first =>
  refine wp_planT (fun W => Below w3.heap.size w3 W) (.take 0 (.take 1 (.take 2 (.take 4 (.take 6 (.take 8 (.take 9 (.fork 3 (.fork 5 (.fork 7 (.fork 10 (.take 11 (.turn 12 (.turn 13 .done))) 12 (.turn 10 (.take 11 (.turn 13 .done)))) 12 (.turn 7 (.turn 10 (.take 11 (.turn 13 .done))))) 12 (.turn 5 (.turn 7 (.turn 10 (.take 11 (.turn 13 .done)))))) 12 (.turn 3 (.turn 5 (.turn 7 (.turn 10 (.take 11 (.turn 13 .done)))))))))))))) (by kernel_rfl) (by kernel_rfl) (below_drew (Below.refl _ _)) ?_
  simp only [planTL, List.getElem?_cons_zero, List.getElem?_cons_succ]
  obtain ⟨wd, hwd⟩ : ∃ z, w3.drew = z := ⟨_, rfl⟩
  have HBD : Hid (Below w3.heap.size w3 wd) := zh (by rw [← hwd]; exact below_drew (Below.refl _ _))
  rw [hwd]
  clear hwd
  repeat (first | (refine planT_on _ (by rfl) (fun W hW => by (obtain ⟨x0, x1, x2, x3, x4, x5, x6⟩ := HSC.out W hW; go_simp; try with_reducible rfl)) ?_; simp only [Act.put, xq1, xq2, xq3]) | (refine planT_off (by rfl) ?_; simp only [Act.put, xq1, xq2, xq3]))
  refine planT_fork ?_ ?_
  ·have HCv1 := zh (HCR.out wd HBD.out)
   go_wp2_with fail
   refine HCv1.out.mono ?_
   rintro e v1 ⟨rfl, rfl⟩
   clear HCv1
   go_wp2_with fail
   refine ⟨HBD.out, ?_⟩
   repeat (first | (refine planT_on _ (by rfl) (fun W hW => by (obtain ⟨x0, x1, x2, x3, x4, x5, x6⟩ := HSC.out W hW; go_simp; try with_reducible rfl)) ?_; simp only [Act.put, xq1, xq2, xq3]) | (refine planT_off (by rfl) ?_; simp only [Act.put, xq1, xq2, xq3]))
   refine planT_fork ?_ ?_
   ·have HCv2 := zh (HFN.out wd HBD.out)
    go_wp2_with fail
    refine HCv2.out.mono ?_
    rintro e v2 ⟨rfl, hbv2⟩
    have HEv2 : Hid (Below w3.heap.size w3 v2) := zh (HBD.out.trans (hbv2.mono HBD.out.size))
    clear hbv2 HCv2
    go_wp2_with fail
    refine ⟨HEv2.out, ?_⟩
    repeat (first | (refine planT_on _ (by rfl) (fun W hW => by (obtain ⟨x0, x1, x2, x3, x4, x5, x6⟩ := HSC.out W hW; go_simp; try with_reducible rfl)) ?_; simp only [Act.put, xq1, xq2, xq3]) | (refine planT_off (by rfl) ?_; simp only [Act.put, xq1, xq2, xq3]))
    refine planT_fork ?_ ?_
    ·have HCv3 := zh (HCR.out v2 HEv2.out)
     go_wp2_with fail
     refine HCv3.out.mono ?_
     rintro e v3 ⟨rfl, rfl⟩
     clear HCv3
     go_wp2_with fail
     refine ⟨HEv2.out, ?_⟩
     repeat (first | (refine planT_on _ (by rfl) (fun W hW => by (obtain ⟨x0, x1, x2, x3, x4, x5, x6⟩ := HSC.out W hW; go_simp; try with_reducible rfl)) ?_; simp only [Act.put, xq1, xq2, xq3]) | (refine planT_off (by rfl) ?_; simp only [Act.put, xq1, xq2, xq3]))
     refine planT_fork ?_ ?_
     ·have HCv4 := zh (HDN.out v2 HEv2.out)
      go_wp2_with fail
      refine HCv4.out.mono ?_
      rintro e v4 ⟨rfl, hbv4⟩
      have HEv4 : Hid (Below w3.heap.size w3 v4) := zh (HEv2.out.trans (hbv4.mono HEv2.out.size))
      clear hbv4 HCv4
      go_wp2_with fail
      refine ⟨HEv4.out, ?_⟩
      repeat (first | (refine planT_on _ (by rfl) (fun W hW => by (obtain ⟨x0, x1, x2, x3, x4, x5, x6⟩ := HSC.out W hW; go_simp; try with_reducible rfl)) ?_; simp only [Act.put, xq1, xq2, xq3]) | (refine planT_off (by rfl) ?_; simp only [Act.put, xq1, xq2, xq3]))
      refine planT_turn ?_
      obtain ⟨gv5, hgv5⟩ : ∃ g, v4.heap.size = g := ⟨_, rfl⟩
      obtain ⟨v5, hav5⟩ : ∃ W, v4.alloc (.cells #[.string ⟨#[]⟩, .string ⟨#[]⟩, .string ⟨#[]⟩, .int .i64 0, .int .i64 0, .int .i64 0, .bool false, .int .i64 0, .int .i64 0, .int .i64 0, .bool false, .bool false] 38) = W := ⟨_, rfl⟩
      have HXv5 : Hid (Blk v5 gv5 38 #[.string ⟨#[]⟩, .string ⟨#[]⟩, .string ⟨#[]⟩, .int .i64 0, .int .i64 0, .int .i64 0, .bool false, .int .i64 0, .int .i64 0, .int .i64 0, .bool false, .bool false]) := zh (by rw [← hav5, ← hgv5]; exact Blk.new _ _ _)
      have HEv5 : Hid (Below w3.heap.size w3 v5) := zh (by rw [← hav5]; exact HEv4.out.alloc HEv4.out.size _)
      have HGv5 : Hid (w3.heap.size ≤ gv5) := zh (by rw [← hgv5]; exact HEv4.out.size)
      go_wp2_with fail
      try rw [hgv5]
      try rw [hav5]
      clear hgv5 hav5
      refine ⟨HEv5.out, ?_⟩
      repeat (first | (refine planT_on _ (by rfl) (fun W hW => by (obtain ⟨x0, x1, x2, x3, x4, x5, x6⟩ := HSC.out W hW; go_simp; try with_reducible rfl)) ?_; simp only [Act.put, xq1, xq2, xq3]) | (refine planT_off (by rfl) ?_; simp only [Act.put, xq1, xq2, xq3]))
      refine planT_turn ?_
      refine wpList_store_blk v5 rfl 38 _ _ rfl 0 #[.string X.name, .string X.maker, .string X.tags, .int .i64 X.stock, .int .i64 X.price, .int .i64 X.born, .bool X.listed, .int .i64 now, .int .i64 0, .int .i64 fans, .bool false, .bool done] rfl rfl HXv5.out (by show 0 + 12 ≤ 12; omega) fac_info (by simp [Value.oneCell']) ?_
      intro v6 hbv6 hkv6 hzv6
      simp only [putA, List.setIfInBounds_toArray, List.set_cons_zero, List.set_cons_succ] at hbv6
      have HXv6 : Hid (Blk v6 gv5 38 #[.string X.name, .string X.maker, .string X.tags, .int .i64 X.stock, .int .i64 X.price, .int .i64 X.born, .bool X.listed, .int .i64 now, .int .i64 0, .int .i64 fans, .bool false, .bool done]) := zh hbv6
      have HEv6 : Hid (Below w3.heap.size w3 v6) := zh (HEv5.out.trans (hkv6.toBelow (fun i hi => by rw [hi]; exact HGv5.out) HEv5.out.size))
      clear hbv6 hkv6 hzv6
      go_wp2_with fail
      refine ⟨HEv6.out, ?_⟩
      refine planT_done ?_
      go_wp2_with fail
      go_meet
      exact ⟨gv5, rfl, HXv6, HGv5, HEv6⟩
     ·obtain ⟨gv7, hgv7⟩ : ∃ g, v2.heap.size = g := ⟨_, rfl⟩
      obtain ⟨v7, hav7⟩ : ∃ W, v2.alloc (.cells #[.string ⟨#[]⟩, .string ⟨#[]⟩, .string ⟨#[]⟩, .int .i64 0, .int .i64 0, .int .i64 0, .bool false, .int .i64 0, .int .i64 0, .int .i64 0, .bool false, .bool false] 38) = W := ⟨_, rfl⟩
      have HXv7 : Hid (Blk v7 gv7 38 #[.string ⟨#[]⟩, .string ⟨#[]⟩, .string ⟨#[]⟩, .int .i64 0, .int .i64 0, .int .i64 0, .bool false, .int .i64 0, .int .i64 0, .int .i64 0, .bool false, .bool false]) := zh (by rw [← hav7, ← hgv7]; exact Blk.new _ _ _)
      have HEv7 : Hid (Below w3.heap.size w3 v7) := zh (by rw [← hav7]; exact HEv2.out.alloc HEv2.out.size _)
      have HGv7 : Hid (w3.heap.size ≤ gv7) := zh (by rw [← hgv7]; exact HEv2.out.size)
      go_wp2_with fail
      try rw [hgv7]
      try rw [hav7]
      clear hgv7 hav7
      refine ⟨HEv7.out, ?_⟩
      repeat (first | (refine planT_on _ (by rfl) (fun W hW => by (obtain ⟨x0, x1, x2, x3, x4, x5, x6⟩ := HSC.out W hW; go_simp; try with_reducible rfl)) ?_; simp only [Act.put, xq1, xq2, xq3]) | (refine planT_off (by rfl) ?_; simp only [Act.put, xq1, xq2, xq3]))
      refine planT_turn ?_
      have HCv8 := zh (HDN.out v7 HEv7.out)
      go_wp2_with fail
      refine HCv8.out.mono ?_
      rintro e v8 ⟨rfl, hbv8⟩
      have HEv8 : Hid (Below w3.heap.size w3 v8) := zh (HEv7.out.trans (hbv8.mono HEv7.out.size))
      have HXv8 : Hid (Blk v8 gv7 38 #[.string ⟨#[]⟩, .string ⟨#[]⟩, .string ⟨#[]⟩, .int .i64 0, .int .i64 0, .int .i64 0, .bool false, .int .i64 0, .int .i64 0, .int .i64 0, .bool false, .bool false]) := zh ((hbv8.block _ HXv7.out.lt).trans HXv7.out)
      clear hbv8 HCv8
      go_wp2_with fail
      refine ⟨HEv8.out, ?_⟩
      repeat (first | (refine planT_on _ (by rfl) (fun W hW => by (obtain ⟨x0, x1, x2, x3, x4, x5, x6⟩ := HSC.out W hW; go_simp; try with_reducible rfl)) ?_; simp only [Act.put, xq1, xq2, xq3]) | (refine planT_off (by rfl) ?_; simp only [Act.put, xq1, xq2, xq3]))
      refine planT_turn ?_
      refine wpList_store_blk v8 rfl 38 _ _ rfl 0 #[.string X.name, .string X.maker, .string X.tags, .int .i64 X.stock, .int .i64 X.price, .int .i64 X.born, .bool X.listed, .int .i64 now, .int .i64 0, .int .i64 fans, .bool false, .bool done] rfl rfl HXv8.out (by show 0 + 12 ≤ 12; omega) fac_info (by simp [Value.oneCell']) ?_
      intro v9 hbv9 hkv9 hzv9
      simp only [putA, List.setIfInBounds_toArray, List.set_cons_zero, List.set_cons_succ] at hbv9
      have HXv9 : Hid (Blk v9 gv7 38 #[.string X.name, .string X.maker, .string X.tags, .int .i64 X.stock, .int .i64 X.price, .int .i64 X.born, .bool X.listed, .int .i64 now, .int .i64 0, .int .i64 fans, .bool false, .bool done]) := zh hbv9
      have HEv9 : Hid (Below w3.heap.size w3 v9) := zh (HEv8.out.trans (hkv9.toBelow (fun i hi => by rw [hi]; exact HGv7.out) HEv8.out.size))
      clear hbv9 hkv9 hzv9
      go_wp2_with fail
      refine ⟨HEv9.out, ?_⟩
      refine planT_done ?_
      go_wp2_with fail
      go_meet
      exact ⟨gv7, rfl, HXv9, HGv7, HEv9⟩
    ·obtain ⟨gv10, hgv10⟩ : ∃ g, v2.heap.size = g := ⟨_, rfl⟩
     obtain ⟨v10, hav10⟩ : ∃ W, v2.alloc (.cells #[.string ⟨#[]⟩, .string ⟨#[]⟩, .string ⟨#[]⟩, .int .i64 0, .int .i64 0, .int .i64 0, .bool false, .int .i64 0, .int .i64 0, .int .i64 0, .bool false, .bool false] 38) = W := ⟨_, rfl⟩
     have HXv10 : Hid (Blk v10 gv10 38 #[.string ⟨#[]⟩, .string ⟨#[]⟩, .string ⟨#[]⟩, .int .i64 0, .int .i64 0, .int .i64 0, .bool false, .int .i64 0, .int .i64 0, .int .i64 0, .bool false, .bool false]) := zh (by rw [← hav10, ← hgv10]; exact Blk.new _ _ _)
     have HEv10 : Hid (Below w3.heap.size w3 v10) := zh (by rw [← hav10]; exact HEv2.out.alloc HEv2.out.size _)
     have HGv10 : Hid (w3.heap.size ≤ gv10) := zh (by rw [← hgv10]; exact HEv2.out.size)
     go_wp2_with fail
     try rw [hgv10]
     try rw [hav10]
     clear hgv10 hav10
     refine ⟨HEv10.out, ?_⟩
     repeat (first | (refine planT_on _ (by rfl) (fun W hW => by (obtain ⟨x0, x1, x2, x3, x4, x5, x6⟩ := HSC.out W hW; go_simp; try with_reducible rfl)) ?_; simp only [Act.put, xq1, xq2, xq3]) | (refine planT_off (by rfl) ?_; simp only [Act.put, xq1, xq2, xq3]))
     refine planT_turn ?_
     have HCv11 := zh (HCR.out v10 HEv10.out)
     go_wp2_with fail
     refine HCv11.out.mono ?_
     rintro e v11 ⟨rfl, rfl⟩
     clear HCv11
     go_wp2_with fail
     refine ⟨HEv10.out, ?_⟩
     repeat (first | (refine planT_on _ (by rfl) (fun W hW => by (obtain ⟨x0, x1, x2, x3, x4, x5, x6⟩ := HSC.out W hW; go_simp; try with_reducible rfl)) ?_; simp only [Act.put, xq1, xq2, xq3]) | (refine planT_off (by rfl) ?_; simp only [Act.put, xq1, xq2, xq3]))
     refine planT_turn ?_
     have HCv12 := zh (HDN.out v10 HEv10.out)
     go_wp2_with fail
     refine HCv12.out.mono ?_
     rintro e v12 ⟨rfl, hbv12⟩
     have HEv12 : Hid (Below w3.heap.size w3 v12) := zh (HEv10.out.trans (hbv12.mono HEv10.out.size))
     have HXv12 : Hid (Blk v12 gv10 38 #[.string ⟨#[]⟩, .string ⟨#[]⟩, .string ⟨#[]⟩, .int .i64 0, .int .i64 0, .int .i64 0, .bool false, .int .i64 0, .int .i64 0, .int .i64 0, .bool false, .bool false]) := zh ((hbv12.block _ HXv10.out.lt).trans HXv10.out)
     clear hbv12 HCv12
     go_wp2_with fail
     refine ⟨HEv12.out, ?_⟩
     repeat (first | (refine planT_on _ (by rfl) (fun W hW => by (obtain ⟨x0, x1, x2, x3, x4, x5, x6⟩ := HSC.out W hW; go_simp; try with_reducible rfl)) ?_; simp only [Act.put, xq1, xq2, xq3]) | (refine planT_off (by rfl) ?_; simp only [Act.put, xq1, xq2, xq3]))
     refine planT_turn ?_
     refine wpList_store_blk v12 rfl 38 _ _ rfl 0 #[.string X.name, .string X.maker, .string X.tags, .int .i64 X.stock, .int .i64 X.price, .int .i64 X.born, .bool X.listed, .int .i64 now, .int .i64 0, .int .i64 fans, .bool false, .bool done] rfl rfl HXv12.out (by show 0 + 12 ≤ 12; omega) fac_info (by simp [Value.oneCell']) ?_
     intro v13 hbv13 hkv13 hzv13
     simp only [putA, List.setIfInBounds_toArray, List.set_cons_zero, List.set_cons_succ] at hbv13
     have HXv13 : Hid (Blk v13 gv10 38 #[.string X.name, .string X.maker, .string X.tags, .int .i64 X.stock, .int .i64 X.price, .int .i64 X.born, .bool X.listed, .int .i64 now, .int .i64 0, .int .i64 fans, .bool false, .bool done]) := zh hbv13
     have HEv13 : Hid (Below w3.heap.size w3 v13) := zh (HEv12.out.trans (hkv13.toBelow (fun i hi => by rw [hi]; exact HGv10.out) HEv12.out.size))
     clear hbv13 hkv13 hzv13
     go_wp2_with fail
     refine ⟨HEv13.out, ?_⟩
     refine planT_done ?_
     go_wp2_with fail
     go_meet
     exact ⟨gv10, rfl, HXv13, HGv10, HEv13⟩
   ·obtain ⟨gv14, hgv14⟩ : ∃ g, wd.heap.size = g := ⟨_, rfl⟩
    obtain ⟨v14, hav14⟩ : ∃ W, wd.alloc (.cells #[.string ⟨#[]⟩, .string ⟨#[]⟩, .string ⟨#[]⟩, .int .i64 0, .int .i64 0, .int .i64 0, .bool false, .int .i64 0, .int .i64 0, .int .i64 0, .bool false, .bool false] 38) = W := ⟨_, rfl⟩
    have HXv14 : Hid (Blk v14 gv14 38 #[.string ⟨#[]⟩, .string ⟨#[]⟩, .string ⟨#[]⟩, .int .i64 0, .int .i64 0, .int .i64 0, .bool false, .int .i64 0, .int .i64 0, .int .i64 0, .bool false, .bool false]) := zh (by rw [← hav14, ← hgv14]; exact Blk.new _ _ _)
    have HEv14 : Hid (Below w3.heap.size w3 v14) := zh (by rw [← hav14]; exact HBD.out.alloc HBD.out.size _)
    have HGv14 : Hid (w3.heap.size ≤ gv14) := zh (by rw [← hgv14]; exact HBD.out.size)
    go_wp2_with fail
    try rw [hgv14]
    try rw [hav14]
    clear hgv14 hav14
    refine ⟨HEv14.out, ?_⟩
    repeat (first | (refine planT_on _ (by rfl) (fun W hW => by (obtain ⟨x0, x1, x2, x3, x4, x5, x6⟩ := HSC.out W hW; go_simp; try with_reducible rfl)) ?_; simp only [Act.put, xq1, xq2, xq3]) | (refine planT_off (by rfl) ?_; simp only [Act.put, xq1, xq2, xq3]))
    refine planT_turn ?_
    have HCv15 := zh (HFN.out v14 HEv14.out)
    go_wp2_with fail
    refine HCv15.out.mono ?_
    rintro e v15 ⟨rfl, hbv15⟩
    have HEv15 : Hid (Below w3.heap.size w3 v15) := zh (HEv14.out.trans (hbv15.mono HEv14.out.size))
    have HXv15 : Hid (Blk v15 gv14 38 #[.string ⟨#[]⟩, .string ⟨#[]⟩, .string ⟨#[]⟩, .int .i64 0, .int .i64 0, .int .i64 0, .bool false, .int .i64 0, .int .i64 0, .int .i64 0, .bool false, .bool false]) := zh ((hbv15.block _ HXv14.out.lt).trans HXv14.out)
    clear hbv15 HCv15
    go_wp2_with fail
    refine ⟨HEv15.out, ?_⟩
    repeat (first | (refine planT_on _ (by rfl) (fun W hW => by (obtain ⟨x0, x1, x2, x3, x4, x5, x6⟩ := HSC.out W hW; go_simp; try with_reducible rfl)) ?_; simp only [Act.put, xq1, xq2, xq3]) | (refine planT_off (by rfl) ?_; simp only [Act.put, xq1, xq2, xq3]))
    refine planT_turn ?_
    have HCv16 := zh (HCR.out v15 HEv15.out)
    go_wp2_with fail
    refine HCv16.out.mono ?_
    rintro e v16 ⟨rfl, rfl⟩
    clear HCv16
    go_wp2_with fail
    refine ⟨HEv15.out, ?_⟩
    repeat (first | (refine planT_on _ (by rfl) (fun W hW => by (obtain ⟨x0, x1, x2, x3, x4, x5, x6⟩ := HSC.out W hW; go_simp; try with_reducible rfl)) ?_; simp only [Act.put, xq1, xq2, xq3]) | (refine planT_off (by rfl) ?_; simp only [Act.put, xq1, xq2, xq3]))
    refine planT_turn ?_
    have HCv17 := zh (HDN.out v15 HEv15.out)
    go_wp2_with fail
    refine HCv17.out.mono ?_
    rintro e v17 ⟨rfl, hbv17⟩
    have HEv17 : Hid (Below w3.heap.size w3 v17) := zh (HEv15.out.trans (hbv17.mono HEv15.out.size))
    have HXv17 : Hid (Blk v17 gv14 38 #[.string ⟨#[]⟩, .string ⟨#[]⟩, .string ⟨#[]⟩, .int .i64 0, .int .i64 0, .int .i64 0, .bool false, .int .i64 0, .int .i64 0, .int .i64 0, .bool false, .bool false]) := zh ((hbv17.block _ HXv15.out.lt).trans HXv15.out)
    clear hbv17 HCv17
    go_wp2_with fail
    refine ⟨HEv17.out, ?_⟩
    repeat (first | (refine planT_on _ (by rfl) (fun W hW => by (obtain ⟨x0, x1, x2, x3, x4, x5, x6⟩ := HSC.out W hW; go_simp; try with_reducible rfl)) ?_; simp only [Act.put, xq1, xq2, xq3]) | (refine planT_off (by rfl) ?_; simp only [Act.put, xq1, xq2, xq3]))
    refine planT_turn ?_
    refine wpList_store_blk v17 rfl 38 _ _ rfl 0 #[.string X.name, .string X.maker, .string X.tags, .int .i64 X.stock, .int .i64 X.price, .int .i64 X.born, .bool X.listed, .int .i64 now, .int .i64 0, .int .i64 fans, .bool false, .bool done] rfl rfl HXv17.out (by show 0 + 12 ≤ 12; omega) fac_info (by simp [Value.oneCell']) ?_
    intro v18 hbv18 hkv18 hzv18
    simp only [putA, List.setIfInBounds_toArray, List.set_cons_zero, List.set_cons_succ] at hbv18
    have HXv18 : Hid (Blk v18 gv14 38 #[.string X.name, .string X.maker, .string X.tags, .int .i64 X.stock, .int .i64 X.price, .int .i64 X.born, .bool X.listed, .int .i64 now, .int .i64 0, .int .i64 fans, .bool false, .bool done]) := zh hbv18
    have HEv18 : Hid (Below w3.heap.size w3 v18) := zh (HEv17.out.trans (hkv18.toBelow (fun i hi => by rw [hi]; exact HGv14.out) HEv17.out.size))
    clear hbv18 hkv18 hzv18
    go_wp2_with fail
    refine ⟨HEv18.out, ?_⟩
    refine planT_done ?_
    go_wp2_with fail
    go_meet
    exact ⟨gv14, rfl, HXv18, HGv14, HEv18⟩
  ·obtain ⟨gv19, hgv19⟩ : ∃ g, wd.heap.size = g := ⟨_, rfl⟩
   obtain ⟨v19, hav19⟩ : ∃ W, wd.alloc (.cells #[.string ⟨#[]⟩, .string ⟨#[]⟩, .string ⟨#[]⟩, .int .i64 0, .int .i64 0, .int .i64 0, .bool false, .int .i64 0, .int .i64 0, .int .i64 0, .bool false, .bool false] 38) = W := ⟨_, rfl⟩
   have HXv19 : Hid (Blk v19 gv19 38 #[.string ⟨#[]⟩, .string ⟨#[]⟩, .string ⟨#[]⟩, .int .i64 0, .int .i64 0, .int .i64 0, .bool false, .int .i64 0, .int .i64 0, .int .i64 0, .bool false, .bool false]) := zh (by rw [← hav19, ← hgv19]; exact Blk.new _ _ _)
   have HEv19 : Hid (Below w3.heap.size w3 v19) := zh (by rw [← hav19]; exact HBD.out.alloc HBD.out.size _)
   have HGv19 : Hid (w3.heap.size ≤ gv19) := zh (by rw [← hgv19]; exact HBD.out.size)
   go_wp2_with fail
   try rw [hgv19]
   try rw [hav19]
   clear hgv19 hav19
   refine ⟨HEv19.out, ?_⟩
   repeat (first | (refine planT_on _ (by rfl) (fun W hW => by (obtain ⟨x0, x1, x2, x3, x4, x5, x6⟩ := HSC.out W hW; go_simp; try with_reducible rfl)) ?_; simp only [Act.put, xq1, xq2, xq3]) | (refine planT_off (by rfl) ?_; simp only [Act.put, xq1, xq2, xq3]))
   refine planT_turn ?_
   have HCv20 := zh (HCR.out v19 HEv19.out)
   go_wp2_with fail
   refine HCv20.out.mono ?_
   rintro e v20 ⟨rfl, rfl⟩
   clear HCv20
   go_wp2_with fail
   refine ⟨HEv19.out, ?_⟩
   repeat (first | (refine planT_on _ (by rfl) (fun W hW => by (obtain ⟨x0, x1, x2, x3, x4, x5, x6⟩ := HSC.out W hW; go_simp; try with_reducible rfl)) ?_; simp only [Act.put, xq1, xq2, xq3]) | (refine planT_off (by rfl) ?_; simp only [Act.put, xq1, xq2, xq3]))
   refine planT_turn ?_
   have HCv21 := zh (HFN.out v19 HEv19.out)
   go_wp2_with fail
   refine HCv21.out.mono ?_
   rintro e v21 ⟨rfl, hbv21⟩
   have HEv21 : Hid (Below w3.heap.size w3 v21) := zh (HEv19.out.trans (hbv21.mono HEv19.out.size))
   have HXv21 : Hid (Blk v21 gv19 38 #[.string ⟨#[]⟩, .string ⟨#[]⟩, .string ⟨#[]⟩, .int .i64 0, .int .i64 0, .int .i64 0, .bool false, .int .i64 0, .int .i64 0, .int .i64 0, .bool false, .bool false]) := zh ((hbv21.block _ HXv19.out.lt).trans HXv19.out)
   clear hbv21 HCv21
   go_wp2_with fail
   refine ⟨HEv21.out, ?_⟩
   repeat (first | (refine planT_on _ (by rfl) (fun W hW => by (obtain ⟨x0, x1, x2, x3, x4, x5, x6⟩ := HSC.out W hW; go_simp; try with_reducible rfl)) ?_; simp only [Act.put, xq1, xq2, xq3]) | (refine planT_off (by rfl) ?_; simp only [Act.put, xq1, xq2, xq3]))
   refine planT_turn ?_
   have HCv22 := zh (HCR.out v21 HEv21.out)
   go_wp2_with fail
   refine HCv22.out.mono ?_
   rintro e v22 ⟨rfl, rfl⟩
   clear HCv22
   go_wp2_with fail
   refine ⟨HEv21.out, ?_⟩
   repeat (first | (refine planT_on _ (by rfl) (fun W hW => by (obtain ⟨x0, x1, x2, x3, x4, x5, x6⟩ := HSC.out W hW; go_simp; try with_reducible rfl)) ?_; simp only [Act.put, xq1, xq2, xq3]) | (refine planT_off (by rfl) ?_; simp only [Act.put, xq1, xq2, xq3]))
   refine planT_turn ?_
   have HCv23 := zh (HDN.out v21 HEv21.out)
   go_wp2_with fail
   refine HCv23.out.mono ?_
   rintro e v23 ⟨rfl, hbv23⟩
   have HEv23 : Hid (Below w3.heap.size w3 v23) := zh (HEv21.out.trans (hbv23.mono HEv21.out.size))
   have HXv23 : Hid (Blk v23 gv19 38 #[.string ⟨#[]⟩, .string ⟨#[]⟩, .string ⟨#[]⟩, .int .i64 0, .int .i64 0, .int .i64 0, .bool false, .int .i64 0, .int .i64 0, .int .i64 0, .bool false, .bool false]) := zh ((hbv23.block _ HXv21.out.lt).trans HXv21.out)
   clear hbv23 HCv23
   go_wp2_with fail
   refine ⟨HEv23.out, ?_⟩
   repeat (first | (refine planT_on _ (by rfl) (fun W hW => by (obtain ⟨x0, x1, x2, x3, x4, x5, x6⟩ := HSC.out W hW; go_simp; try with_reducible rfl)) ?_; simp only [Act.put, xq1, xq2, xq3]) | (refine planT_off (by rfl) ?_; simp only [Act.put, xq1, xq2, xq3]))
   refine planT_turn ?_
   refine wpList_store_blk v23 rfl 38 _ _ rfl 0 #[.string X.name, .string X.maker, .string X.tags, .int .i64 X.stock, .int .i64 X.price, .int .i64 X.born, .bool X.listed, .int .i64 now, .int .i64 0, .int .i64 fans, .bool false, .bool done] rfl rfl HXv23.out (by show 0 + 12 ≤ 12; omega) fac_info (by simp [Value.oneCell']) ?_
   intro v24 hbv24 hkv24 hzv24
   simp only [putA, List.setIfInBounds_toArray, List.set_cons_zero, List.set_cons_succ] at hbv24
   have HXv24 : Hid (Blk v24 gv19 38 #[.string X.name, .string X.maker, .string X.tags, .int .i64 X.stock, .int .i64 X.price, .int .i64 X.born, .bool X.listed, .int .i64 now, .int .i64 0, .int .i64 fans, .bool false, .bool done]) := zh hbv24
   have HEv24 : Hid (Below w3.heap.size w3 v24) := zh (HEv23.out.trans (hkv24.toBelow (fun i hi => by rw [hi]; exact HGv19.out) HEv23.out.size))
   clear hbv24 hkv24 hzv24
   go_wp2_with fail
   refine ⟨HEv24.out, ?_⟩
   refine planT_done ?_
   go_wp2_with fail
   go_meet
   exact ⟨gv19, rfl, HXv24, HGv19, HEv24⟩
 case rest =>
 obtain ⟨gb, rfl, HX4, HGB, HB4⟩ := hcut
 obtain ⟨w4, rfl⟩ : ∃ z : World, z = wc := ⟨_, rfl⟩
 have HB14 : Hid (Below w1.heap.size w1 w4) := zh (HB3.out.trans (HB4.out.mono HB3.out.size))
 have HI4 : Hid (Blk w4 w2.heap.size 36 #[.string X.name, .string X.maker, .string X.tags, .int .i64 X.stock, .int .i64 X.price, .int .i64 X.born, .bool X.listed]) := zh ((HB4.out.block _ HI3.out.lt).trans HI3.out)
 have HY4 : Hid (Blk w4 w.heap.size 38 #[.string ⟨#[]⟩, .string ⟨#[]⟩, .string ⟨#[]⟩, .int .i64 0, .int .i64 0, .int .i64 0, .bool false, .int .i64 0, .int .i64 0, .int .i64 0, .bool false, .bool false]) := zh ((HB14.out.block _ HX1.out.lt).trans HX1.out)
 have hwg : w.heap.size < gb := by have := HX1.out.lt; have := HGB.out; have := HB3.out.size; omega
 have hig : w2.heap.size < gb := by have := HI3.out.lt; have := HGB.out; omega
 have HGB1 : Hid (w1.heap.size ≤ gb) := zh (by have := HGB.out; have := HB3.out.size; omega)
 clear HSC HCR HFN HDN HI3 HGB
 cases ok with
 | false =>
  obtain rfl := HOFF.out rfl
  have y0 : w4.cell? ⟨gb, 0, none⟩ = some (.string Ct.it0.name) := HX4.out.cell 0
  have y1 : w4.cell? ⟨gb, 1, none⟩ = some (.string Ct.it0.maker) := HX4.out.cell 1
  have y2 : w4.cell? ⟨gb, 2, none⟩ = some (.string Ct.it0.tags) := HX4.out.cell 2
  have y3 : w4.cell? ⟨gb, 3, none⟩ = some (.int .i64 Ct.it0.stock) := HX4.out.cell 3
  have y4 : w4.cell? ⟨gb, 4, none⟩ = some (.int .i64 Ct.it0.price) := HX4.out.cell 4
  have y5 : w4.cell? ⟨gb, 5, none⟩ = some (.int .i64 Ct.it0.born) := HX4.out.cell 5
  have y6 : w4.cell? ⟨gb, 6, none⟩ = some (.bool Ct.it0.listed) := HX4.out.cell 6
  have y7 : w4.cell? ⟨gb, 7, none⟩ = some (.int .i64 now) := HX4.out.cell 7
  have y8 : w4.cell? ⟨gb, 8, none⟩ = some (.int .i64 0) := HX4.out.cell 8
  have y9 : w4.cell? ⟨gb, 9, none⟩ = some (.int .i64 fans) := HX4.out.cell 9
  have y10 : w4.cell? ⟨gb, 10, none⟩ = some (.bool false) := HX4.out.cell 10
  have y11 : w4.cell? ⟨gb, 11, none⟩ = some (.bool done) := HX4.out.cell 11
  go_wp2_with (first
   | (refine wpList_store_blk _ rfl 38 (.tmp 8) (.tmp 46) rfl 0 #[.string Ct.it0.name, .string Ct.it0.maker, .string Ct.it0.tags, .int .i64 Ct.it0.stock, .int .i64 Ct.it0.price, .int .i64 Ct.it0.born, .bool Ct.it0.listed, .int .i64 now, .int .i64 0, .int .i64 fans, .bool false, .bool done] rfl rfl HY4.out (by show 0 + 12 ≤ 12; omega) fac_info (by simp [Value.oneCell']) ?_; intro w7 hb7 hk7 hs7)
   | fail)
  (try simp only [Exit.inBlock, Exit.then])
  simp only [putA, List.setIfInBounds_toArray, List.set_cons_zero, List.set_cons_succ] at hb7
  have hz : fzA (fzOf E p i now) = #[.string Ct.it0.name, .string Ct.it0.maker, .string Ct.it0.tags, .int .i64 Ct.it0.stock, .int .i64 Ct.it0.price, .int .i64 Ct.it0.born, .bool Ct.it0.listed, .int .i64 now, .int .i64 0, .int .i64 fans, .bool false, .bool done] := by
   rw [HZ.out]; simp [fzA]
  have hx : Blk w7 w.heap.size 38 (fzA (fzOf E p i now)) := by rw [hz]; exact hb7
  refine bodyPost_ret (results_c1 (rb := w.heap.size) rfl rfl (load_fz hx)) rfl ?_
  exact ⟨rfl, (HB1.out.trans (HB14.out.mono HB1.out.size)).trans (hk7.toBelow (fun i hi => by rw [hi]; exact Nat.le_refl _) (Nat.le_trans HB1.out.size HB14.out.size))⟩
 | true =>
  have hage := HAGE.out rfl
  have y5 : w4.cell? ⟨w2.heap.size, 5, none⟩ = some (.int .i64 X.born) := HI4.out.cell 5
  have y8 : w4.cell? ⟨gb, 8, none⟩ = some (.int .i64 0) := HX4.out.cell 8
  have g8 : w4.frozen? ⟨gb, 8, none⟩ = false := HX4.out.frozen 8
  have HHG := zh (And.intro hwg hig)
  clear hwg hig
  go_upto_region 5 with fail
  obtain ⟨hwg, hig⟩ := HHG.out
  obtain ⟨w8, hw8⟩ : ∃ z, w4.setCell ⟨gb, 8, none⟩ (.int .i64 (now - X.born)) = z := ⟨_, rfl⟩
  rw [hw8]
  have k78 : Kept (fun q => q = gb) w4 w8 := by rw [← hw8]; exact pset_kept
  have HX8 : Hid (Blk w8 gb 38 #[.string X.name, .string X.maker, .string X.tags, .int .i64 X.stock, .int .i64 X.price, .int .i64 X.born, .bool X.listed, .int .i64 now, .int .i64 (now - X.born), .int .i64 fans, .bool false, .bool done]) := zh (by rw [← hw8]; exact HX4.out.set_ 8 _)
  have HI8 : Hid (Blk w8 w2.heap.size 36 #[.string X.name, .string X.maker, .string X.tags, .int .i64 X.stock, .int .i64 X.price, .int .i64 X.born, .bool X.listed]) := zh (HI4.out.kept k78 (by omega))
  have HY8 : Hid (Blk w8 w.heap.size 38 #[.string ⟨#[]⟩, .string ⟨#[]⟩, .string ⟨#[]⟩, .int .i64 0, .int .i64 0, .int .i64 0, .bool false, .int .i64 0, .int .i64 0, .int .i64 0, .bool false, .bool false]) := zh (HY4.out.kept k78 (by omega))
  have HB8 : Hid (Below w1.heap.size w1 w8) := zh (HB14.out.trans (k78.toBelow (fun i hi => by rw [hi]; exact HGB1.out) HB14.out.size))
  clear hw8 k78 y5 y8 g8 HX4 HI4 HY4
  obtain ⟨wd, hwd⟩ : ∃ z, w8.drew = z := ⟨_, rfl⟩
  have HBD : Hid (Below w8.heap.size w8 wd) := zh (by rw [← hwd]; exact below_drew (Below.refl _ _))
  have HSM : Hid (∀ W, Below w8.heap.size w8 W → World.cell? W ⟨w2.heap.size, 1, none⟩ = some (.string X.maker)) := zh (fun W hb => by
   have h1 : Blk W w2.heap.size 36 #[.string X.name, .string X.maker, .string X.tags, .int .i64 X.stock, .int .i64 X.price, .int .i64 X.born, .bool X.listed] := (hb.block _ HI8.out.lt).trans HI8.out
   exact h1.cell 1)
  have HC1 := zh (crowdP_any (HR1.out.below (HB8.out.trans (HBD.out.mono HB8.out.size))))
  have HFC := zh (HFO.out wd (HB8.out.trans (HBD.out.mono HB8.out.size)))
  refine wp_planN (fun W => World.cell? W ⟨w2.heap.size, 1, none⟩ = some (.string X.maker)) [(0, 1), (2, 1), (4, 1), (5, 1), (1, 2), (3, 2), (6, 2), (7, 1), (8, 3)] (by kernel_rfl) (by kernel_rfl) (by rw [hwd]; exact HSM.out wd HBD.out) ?_
  simp only [planNL, List.getElem?_cons_zero, List.getElem?_cons_succ]
  rw [hwd]
  clear hwd
  repeat (first | (refine planN_on _ (by rfl) (fun W hW => by (have y1 := hW; go_simp; try with_reducible rfl)) ?_; simp only [Act.put, xq1, xq2, xq3]) | (refine planN_off (by rfl) ?_; simp only [Act.put, xq1, xq2, xq3]) | (refine planN_on0 _ (by rfl) (fun W hW => by (go_simp; try with_reducible rfl)) ?_; simp only [Act.put, xq1, xq2, xq3]))
  refine planN_turn ?_
  go_wp2_with fail
  refine HC1.out.mono ?_
  rintro e w9 ⟨rfl, rfl⟩
  go_wp2_with fail
  refine ⟨HSM.out wd HBD.out, ?_⟩
  refine planN_turn ?_
  go_wp2_with fail
  refine HFC.out.mono ?_
  rintro e w9 ⟨A9, c9, ks, rfl, h1, h2, h3, h4⟩
  have HB9 : Hid (Below w8.heap.size w8 w9) := zh (HBD.out.trans (h4.mono HBD.out.size))
  have HCT := zh (rin_any w9 w9.heap.size A9 ks ks.length c9 X.maker rfl h2 (by omega))
  rw [h1] at HCT
  clear h1 h2 h3 h4 HFC HC1
  go_wp2_with fail
  refine ⟨HSM.out w9 HB9.out, ?_⟩
  refine planN_turn ?_
  go_wp2_with fail
  refine HCT.out.mono ?_
  rintro e w10 ⟨rfl, rfl⟩
  have HX9 : Hid (Blk w9 gb 38 #[.string X.name, .string X.maker, .string X.tags, .int .i64 X.stock, .int .i64 X.price, .int .i64 X.born, .bool X.listed, .int .i64 now, .int .i64 (now - X.born), .int .i64 fans, .bool false, .bool done]) := zh ((HB9.out.block _ HX8.out.lt).trans HX8.out)
  have HY9 : Hid (Blk w9 w.heap.size 38 #[.string ⟨#[]⟩, .string ⟨#[]⟩, .string ⟨#[]⟩, .int .i64 0, .int .i64 0, .int .i64 0, .bool false, .int .i64 0, .int .i64 0, .int .i64 0, .bool false, .bool false]) := zh ((HB9.out.block _ HY8.out.lt).trans HY8.out)
  have y10 : w9.cell? ⟨gb, 10, none⟩ = some (.bool false) := HX9.out.cell 10
  have g10 : w9.frozen? ⟨gb, 10, none⟩ = false := HX9.out.frozen 10
  clear HCT HX8 HY8
  go_wp2_with fail
  refine ⟨HSM.out w9 HB9.out, ?_⟩
  repeat (first | (refine planN_on _ (by rfl) (fun W hW => by (have y1 := hW; go_simp; try with_reducible rfl)) ?_; simp only [Act.put, xq1, xq2, xq3]) | (refine planN_off (by rfl) ?_; simp only [Act.put, xq1, xq2, xq3]) | (refine planN_on0 _ (by rfl) (fun W hW => by (go_simp; try with_reducible rfl)) ?_; simp only [Act.put, xq1, xq2, xq3]))
  refine planN_last ?_
  go_wp2_with fail
  obtain ⟨w11, hw11⟩ : ∃ z, w9.setCell ⟨gb, 10, none⟩ (.bool fol) = z := ⟨_, rfl⟩
  rw [hw11]
  have k9 : Kept (fun q => q = gb) w9 w11 := by rw [← hw11]; exact pset_kept
  have HX11 : Hid (Blk w11 gb 38 #[.string X.name, .string X.maker, .string X.tags, .int .i64 X.stock, .int .i64 X.price, .int .i64 X.born, .bool X.listed, .int .i64 now, .int .i64 (now - X.born), .int .i64 fans, .bool fol, .bool done]) := zh (by rw [← hw11]; exact HX9.out.set_ 10 _)
  have HY11 : Hid (Blk w11 w.heap.size 38 #[.string ⟨#[]⟩, .string ⟨#[]⟩, .string ⟨#[]⟩, .int .i64 0, .int .i64 0, .int .i64 0, .bool false, .int .i64 0, .int .i64 0, .int .i64 0, .bool false, .bool false]) := zh (HY9.out.kept k9 (by omega))
  have HB11 : Hid (Below w1.heap.size w1 w11) := zh ((HB8.out.trans (HB9.out.mono HB8.out.size)).trans (k9.toBelow (fun i hi => by rw [hi]; exact HGB1.out) (HB8.out.trans (HB9.out.mono HB8.out.size)).size))
  clear hw11 k9 y10 g10 HX9 HY9
  have y0 : w11.cell? ⟨gb, 0, none⟩ = some (.string X.name) := HX11.out.cell 0
  have y1 : w11.cell? ⟨gb, 1, none⟩ = some (.string X.maker) := HX11.out.cell 1
  have y2 : w11.cell? ⟨gb, 2, none⟩ = some (.string X.tags) := HX11.out.cell 2
  have y3 : w11.cell? ⟨gb, 3, none⟩ = some (.int .i64 X.stock) := HX11.out.cell 3
  have y4 : w11.cell? ⟨gb, 4, none⟩ = some (.int .i64 X.price) := HX11.out.cell 4
  have y5 : w11.cell? ⟨gb, 5, none⟩ = some (.int .i64 X.born) := HX11.out.cell 5
  have y6 : w11.cell? ⟨gb, 6, none⟩ = some (.bool X.listed) := HX11.out.cell 6
  have y7 : w11.cell? ⟨gb, 7, none⟩ = some (.int .i64 now) := HX11.out.cell 7
  have y8 : w11.cell? ⟨gb, 8, none⟩ = some (.int .i64 (now - X.born)) := HX11.out.cell 8
  have y9 : w11.cell? ⟨gb, 9, none⟩ = some (.int .i64 fans) := HX11.out.cell 9
  have y10 : w11.cell? ⟨gb, 10, none⟩ = some (.bool fol) := HX11.out.cell 10
  have y11 : w11.cell? ⟨gb, 11, none⟩ = some (.bool done) := HX11.out.cell 11
  refine planN_done ?_
  go_wp2_with (first
   | (refine wpList_store_blk _ rfl 38 (.tmp 8) (.tmp 46) rfl 0 #[.string X.name, .string X.maker, .string X.tags, .int .i64 X.stock, .int .i64 X.price, .int .i64 X.born, .bool X.listed, .int .i64 now, .int .i64 (now - X.born), .int .i64 fans, .bool fol, .bool done] rfl rfl HY11.out (by show 0 + 12 ≤ 12; omega) fac_info (by simp [Value.oneCell']) ?_; intro w12 hb12 hk12 hs12)
   | fail)
  (try simp only [Exit.inBlock, Exit.then])
  simp only [putA, List.setIfInBounds_toArray, List.set_cons_zero, List.set_cons_succ] at hb12
  have hz : fzA (fzOf E p i now) = #[.string X.name, .string X.maker, .string X.tags, .int .i64 X.stock, .int .i64 X.price, .int .i64 X.born, .bool X.listed, .int .i64 now, .int .i64 (now - X.born), .int .i64 fans, .bool fol, .bool done] := by
   rw [HZ.out]; simp [fzA]
  have hx : Blk w12 w.heap.size 38 (fzA (fzOf E p i now)) := by rw [hz]; exact hb12
  refine bodyPost_ret (results_c1 (rb := w.heap.size) rfl rfl (load_fz hx)) rfl ?_
  exact ⟨rfl, (HB1.out.trans (HB11.out.mono HB1.out.size)).trans (hk12.toBelow (fun i hi => by rw [hi]; exact Nat.le_refl _) (Nat.le_trans HB1.out.size HB11.out.size))⟩
end Go.Proofs.YthdmpcnnbminlaaGreatDoor
