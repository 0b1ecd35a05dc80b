/- A part of the joined base. -/
import Derived.Test.YthdmpcnnbminlaaGreatDoorR01
import Derived.Test.YthdmpcnnbminlaaGreatDoorR28
set_option linter.unusedVariables false
set_option maxHeartbeats 8000000
set_option maxRecDepth 100000
namespace Go.Proofs.YthdmpcnnbminlaaGreatDoor
open Go.Shelf Go.RowKit Go.Maps
theorem count_crowd (w : World) (wb base : Nat) (c : Cfg) (v : Value) (a : Bool) (last : Ev) (b : Wb) (τ : Nat → Nat) (n : Nat) (es' ad : List Ev) (S : ByteArray → Bool) (es : List Ev) (e : Ev) (h : WdG w wb base c v a last b τ n es' ad S (thgs es) (rowsW es)) (hnx : NextE es e) (hok : EvOk e) (hall : ∀ x ∈ es, EvOk x) (hlen : es.length ≤ 10000) (hn : n ≤ 800000) (hg : GlobAt w) (hk : e.kind < 11) :
  Calls Tryz.prog 106 #[.pointer (some ⟨wb, 0, none⟩), evA e] w (CountR τ w wb base c v a last b n es' ad S (es ++ [e])) := by
 obtain ⟨w1, hw1⟩ : ∃ w1, w.alloc (.cells (evArr e) 31) = w1 := ⟨_, rfl⟩
 have HE1 : Hid (Blk w1 w.heap.size 31 (evArr e)) := zh (by rw [← hw1]; exact Blk.new _ _ _)
 have HB1 : Hid (Below w.heap.size w w1) := zh (by rw [← hw1]; exact (Below.refl _ _).alloc (Nat.le_refl _) _)
 have HI1 : Hid (WdG w1 wb base c v a last b τ n es' ad S (thgs es) (rowsW es)) := zh (h.below HB1.out)
 have HG1 : Hid (GlobAt w1) := zh (hg.keep HB1.out (Nat.le_refl _))
 have HSC : Hid (∀ W, Below w1.heap.size w1 W → CnS W wb 18 w.heap.size (.pointer (some ⟨b.ct, 0, none⟩)) e) := zh (fun W hb => cns_of ((hb.block _ HI1.out.blk.lt).trans HI1.out.blk) rfl ((hb.block _ HE1.out.lt).trans HE1.out))
 obtain ⟨F, hF, hFt⟩ := HI1.out.cat
 have HF := zh hF
 have htl := thgs_len es
 have HFEW := zh (tags_few hall hok)
 have HOK := zh hok
 have HTAGS := zh (tags_is es e)
 have hitl : e.item.size ≤ 1000000 := hok.sh.2.2.1
 obtain ⟨x, hx⟩ : ∃ x, Ct.atP (thgs es) e.item e.tick = x := ⟨_, rfl⟩
 obtain ⟨X, hX⟩ : ∃ X, x.getD Ct.it0 = X := ⟨_, rfl⟩
 obtain ⟨ok, hokx⟩ : ∃ ok, x.isSome = ok := ⟨_, rfl⟩
 rw [hx, hX, hokx] at HTAGS
 rw [hx, hX] at HFEW
 have HAT : Hid (∀ W, Below w1.heap.size w1 W → Calls Tryz.prog 32 #[.pointer (some ⟨b.ct, 0, none⟩), .string e.item, .int .i64 e.tick] W fun e w' => e = .returned (.tuple #[.agg #[.string X.name, .string X.maker, .string X.tags, .int .i64 X.stock, .int .i64 X.price, .int .i64 X.born, .bool X.listed], .bool ok]) ∧ Below W.heap.size W w') := zh (fun W hb => by
  have := Ct.at_any b.ct F (thgs es) e.item e.tick W (HF.out.below hb) hitl (by omega)
  unfold Ct.toldP Ct.itA at this
  rw [hx, hX, hokx] at this
  exact this)
 have HRW : Hid (rowsW (es ++ [e]) = rowsW es ++ [⟨e, tagsP (tagsOf es e)⟩]) := zh (by rw [rowsW_snoc]; unfold rwStep; rw [if_pos hk])
 have HTH : Hid (thgs (es ++ [e]) = thgs es) := zh (thgs_same (by unfold isCat; exact decide_eq_false (by omega)))
 have HTK : Hid (takesC (rowsW es) e = true) := zh (takes_crowd hnx hok.1 hk)
 have HRL : Hid ((rowsW es).length ≤ 10000) := zh (Nat.le_trans (rowsW_len es) hlen)
 have e3 : w1.cell? ⟨w.heap.size, 3, none⟩ = some (.int .i64 e.kind) := HE1.out.cell 3
 have z11 : (e.kind == 11) = false := by simp; omega
 have z12 : (e.kind == 12) = false := by simp; omega
 have z13 : (e.kind == 13) = false := by simp; omega
 have z14 : (e.kind == 14) = false := by simp; omega
 have HEB : Hid (τ w.heap.size = 0) := zh (by
  by_cases hz : τ w.heap.size = 0
  ·exact hz
  ·have := (h.low _ hz).2; omega)
 clear h hF hFt hnx hok hall hlen hg hk htl hx hX hokx hitl
 unfold evA
 unfold evArr at hw1
 go_enter Tryz.func106, Tryz.ntmps106
 go_upto_region 8 with fail
 go_cut [5, 6] (fun v5 v6 wx => Hid (AtBox w1 v5 X wx) ∧ v6 = .bool ok)
 case first =>
  refine wp_planT (fun W => Below w1.heap.size w1 W) (.take 0 (.take 1 (.take 2 (.take 3 (.take 4 (.take 5 (.take 6 (.take 7 (.fork 8 (.take 9 (.take 10 (.take 11 (.turn 12 (.turn 13 (.take 14 .done)))))) 12 (.turn 8 (.take 9 (.take 10 (.take 11 (.turn 13 (.take 14 .done))))))))))))))) (by kernel_rfl) (by kernel_rfl) (below_drew (Below.refl _ _)) ?_
  simp only [planTL, List.getElem?_cons_zero, List.getElem?_cons_succ]
  obtain ⟨wd, hwd⟩ : ∃ wd, w1.drew = wd := ⟨_, rfl⟩
  have HBD : Hid (Below w1.heap.size w1 wd) := zh (by rw [← hwd]; exact below_drew (Below.refl _ _))
  rw [hwd]
  clear hwd
  repeat (first | (refine planT_on _ (by rfl) (fun W hW => by (obtain ⟨x8, x0, x1, x2, x3, x4, x5, x6, x7⟩ := HSC.out W hW; go_simp; try with_reducible rfl)) ?_; simp only [Act.put, xq1, xq2, xq3]) | (refine planT_off (by rfl) ?_; simp only [Act.put, xq1, xq2, xq3]))
  refine planT_fork ?_ ?_
  case refine_1 =>
   have HC := zh (HAT.out wd HBD.out)
   go_wp2_with fail
   refine HC.out.mono ?_
   rintro e' w2 ⟨rfl, hb2⟩
   have HB2 : Hid (Below w1.heap.size w1 w2) := zh (HBD.out.trans (hb2.mono HBD.out.size))
   clear hb2 HC
   go_wp2_with fail
   refine ⟨HB2.out, ?_⟩
   repeat (first | (refine planT_on _ (by rfl) (fun W hW => by (obtain ⟨x8, x0, x1, x2, x3, x4, x5, x6, x7⟩ := HSC.out W hW; go_simp; try with_reducible rfl)) ?_; simp only [Act.put, xq1, xq2, xq3]) | (refine planT_off (by rfl) ?_; simp only [Act.put, xq1, xq2, xq3]))
   refine planT_turn ?_
   go_wp2_with fail
   obtain ⟨w3, hw3⟩ : ∃ w3, w2.alloc (.cells #[.string ⟨#[]⟩, .string ⟨#[]⟩, .string ⟨#[]⟩, .int .i64 0, .int .i64 0, .int .i64 0, .bool false] 36) = w3 := ⟨_, rfl⟩
   rw [hw3]
   have HB3 : Hid (Below w1.heap.size w1 w3) := zh (by rw [← hw3]; exact HB2.out.alloc HB2.out.size _)
   have HX3 : Hid (Blk w3 w2.heap.size 36 #[.string ⟨#[]⟩, .string ⟨#[]⟩, .string ⟨#[]⟩, .int .i64 0, .int .i64 0, .int .i64 0, .bool false]) := zh (by rw [← hw3]; exact Blk.new _ _ _)
   have hz2 := HB2.out.size
   clear hw3
   refine ⟨HB3.out, ?_⟩
   refine planT_turn ?_
   refine wpList_store_blk w3 rfl 36 _ _ rfl 0 #[.string X.name, .string X.maker, .string X.tags, .int .i64 X.stock, .int .i64 X.price, .int .i64 X.born, .bool X.listed] rfl rfl HX3.out (by simp) it_info (by simp [Value.oneCell']) ?_
   intro w4 hb4 hk4 hs4
   have HX4 : Hid (Blk w4 w2.heap.size 36 #[.string X.name, .string X.maker, .string X.tags, .int .i64 X.stock, .int .i64 X.price, .int .i64 X.born, .bool X.listed]) := zh hb4
   have HB4 : Hid (Below w1.heap.size w1 w4) := zh (HB3.out.trans (hk4.toBelow (fun i hi => by rw [hi]; exact hz2) HB3.out.size))
   clear hb4 hk4 hs4
   go_wp2_with fail
   refine ⟨HB4.out, ?_⟩
   repeat (first | (refine planT_on _ (by rfl) (fun W hW => by (obtain ⟨x8, x0, x1, x2, x3, x4, x5, x6, x7⟩ := HSC.out W hW; go_simp; try with_reducible rfl)) ?_; simp only [Act.put, xq1, xq2, xq3]) | (refine planT_off (by rfl) ?_; simp only [Act.put, xq1, xq2, xq3]))
   refine planT_done ?_
   go_wp2_with fail
   go_meet
   exact ⟨zh ⟨_, rfl, HX4.out, HB4.out⟩, rfl⟩
  case refine_2 =>
   go_wp2_with fail
   obtain ⟨w3, hw3⟩ : ∃ w3, wd.alloc (.cells #[.string ⟨#[]⟩, .string ⟨#[]⟩, .string ⟨#[]⟩, .int .i64 0, .int .i64 0, .int .i64 0, .bool false] 36) = w3 := ⟨_, rfl⟩
   rw [hw3]
   have HB3 : Hid (Below w1.heap.size w1 w3) := zh (by rw [← hw3]; exact HBD.out.alloc HBD.out.size _)
   have HX3 : Hid (Blk w3 wd.heap.size 36 #[.string ⟨#[]⟩, .string ⟨#[]⟩, .string ⟨#[]⟩, .int .i64 0, .int .i64 0, .int .i64 0, .bool false]) := zh (by rw [← hw3]; exact Blk.new _ _ _)
   have hz2 := HBD.out.size
   clear hw3
   refine ⟨HB3.out, ?_⟩
   have HC := zh (HAT.out w3 HB3.out)
   refine planT_turn ?_
   go_wp2_with fail
   refine HC.out.mono ?_
   rintro e' w4 ⟨rfl, hb4⟩
   have HB4 : Hid (Below w1.heap.size w1 w4) := zh (HB3.out.trans (hb4.mono HB3.out.size))
   have HX4 : Hid (Blk w4 wd.heap.size 36 #[.string ⟨#[]⟩, .string ⟨#[]⟩, .string ⟨#[]⟩, .int .i64 0, .int .i64 0, .int .i64 0, .bool false]) := zh ((hb4.block _ HX3.out.lt).trans HX3.out)
   clear hb4 HC
   go_wp2_with fail
   refine ⟨HB4.out, ?_⟩
   repeat (first | (refine planT_on _ (by rfl) (fun W hW => by (obtain ⟨x8, x0, x1, x2, x3, x4, x5, x6, x7⟩ := HSC.out W hW; go_simp; try with_reducible rfl)) ?_; simp only [Act.put, xq1, xq2, xq3]) | (refine planT_off (by rfl) ?_; simp only [Act.put, xq1, xq2, xq3]))
   refine planT_turn ?_
   refine wpList_store_blk w4 rfl 36 _ _ rfl 0 #[.string X.name, .string X.maker, .string X.tags, .int .i64 X.stock, .int .i64 X.price, .int .i64 X.born, .bool X.listed] rfl rfl HX4.out (by simp) it_info (by simp [Value.oneCell']) ?_
   intro w5 hb5 hk5 hs5
   have HX5 : Hid (Blk w5 wd.heap.size 36 #[.string X.name, .string X.maker, .string X.tags, .int .i64 X.stock, .int .i64 X.price, .int .i64 X.born, .bool X.listed]) := zh hb5
   have HB5 : Hid (Below w1.heap.size w1 w5) := zh (HB4.out.trans (hk5.toBelow (fun i hi => by rw [hi]; exact hz2) HB4.out.size))
   clear hb5 hk5 hs5
   go_wp2_with fail
   refine ⟨HB5.out, ?_⟩
   repeat (first | (refine planT_on _ (by rfl) (fun W hW => by (obtain ⟨x8, x0, x1, x2, x3, x4, x5, x6, x7⟩ := HSC.out W hW; go_simp; try with_reducible rfl)) ?_; simp only [Act.put, xq1, xq2, xq3]) | (refine planT_off (by rfl) ?_; simp only [Act.put, xq1, xq2, xq3]))
   refine planT_done ?_
   go_wp2_with fail
   go_meet
   exact ⟨zh ⟨_, rfl, HX5.out, HB5.out⟩, rfl⟩
 case rest =>
 obtain ⟨hat, rfl⟩ := hcut
 obtain ⟨w2, rfl⟩ : ∃ w2 : World, w2 = wc := ⟨_, rfl⟩
 obtain ⟨ib, rfl, hib, hb2⟩ := hat.out
 have HIB := zh hib
 have HB2 := zh hb2
 have HG2 : Hid (GlobAt w2) := zh (HG1.out.keep hb2 (Nat.le_refl _))
 have i2 : w2.cell? ⟨ib, 2, none⟩ = some (.string X.tags) := hib.cell 2
 clear hat hib hb2 HAT HSC e3 hw1 z11 z12 z13 z14
 have hfew1 := HFEW.out.1
 have hfew2 : X.tags.size ≤ 301 := by
  rw [ByteArray.size_append] at hfew1
  omega
 go_upto_if 34 with fail
 go_cut [4] (fun v4 wx => Hid (TagBox w1 v4 (tagsOf es e) wx))
 case first =>
  cases ok
  ·go_wp2_with fail
   go_meet
   have ht : tagsOf es e = [] := by rw [HTAGS.out]; rfl
   exact zh ⟨none, 0, by rw [ht]; rfl, by rw [ht]; exact RowIn.nil _ _ _ _, fun _ h => (by cases h), HB2.out⟩
  ·have ht : Hid (tagsOf es e = evTags ((⟨#[59]⟩ : ByteArray) ++ X.tags)) := zh (by rw [HTAGS.out]; rfl)
   have HT := zh (evtagsN_any ((⟨#[59]⟩ : ByteArray) ++ X.tags) w2 (by omega) HG2.out)
   have hs1 : (⟨#[59]⟩ : ByteArray).size = 1 := rfl
   go_wp2_with fail
   refine HT.out.mono ?_
   rintro e' w3 ⟨A, cc, rfl, hr, _, hnew, hb3⟩
   have HR := zh hr
   have HN := zh hnew
   have HB3 := zh hb3
   clear hr hnew hb3 HT
   go_wp2_with fail
   go_meet
   have hz := HB2.out.size
   exact zh ⟨A, cc, by rw [ht.out], by rw [ht.out]; exact HR.out, fun ad had => Nat.le_trans hz (HN.out ad had), HB2.out.trans (HB3.out.mono hz)⟩
 case rest =>
 obtain ⟨w3, rfl⟩ : ∃ w3 : World, w3 = wc := ⟨_, rfl⟩
 obtain ⟨A, cc, rfl, hrow, hnew, hb3⟩ := hcut.out
 obtain ⟨L, hL⟩ : ∃ L, (tagsOf es e).length = L := ⟨_, rfl⟩
 rw [hL] at hrow
 have hL4 : L ≤ 400 := by rw [← hL]; exact HFEW.out.2.1
 have HB3 := zh hb3
 have HI3 : Hid (WdG w3 wb base c v a last b τ n es' ad S (thgs es) (rowsW es)) := zh (HI1.out.below hb3)
 have HE3 : Hid (Blk w3 w.heap.size 31 (evArr e)) := zh ((hb3.block _ HE1.out.lt).trans HE1.out)
 have HG3 : Hid (GlobAt w3) := zh (HG1.out.keep hb3 (Nat.le_refl _))
 obtain ⟨U, hU, hUt⟩ := HI3.out.crw
 have HU := zh hU
 have HUT := zh hUt
 have HRL2 := HRL.out
 have HAP := zh (apply_any w3.drew b.cr (halfP c.half) U (rowsW es) e A (tagsOf es e) L cc (hU.kept ((Kept.refl (fun _ => False) w3).drew) (fun _ _ h => h)) HOK.out.sh hL hrow.drew (fun t ht => by have := HFEW.out.2.2 t ht; unfold maxLen; omega) HG3.out.drew (by omega) (by omega) (fun _ ad had hu => by
  have h1 := hnew ad had
  have h2 := (HI1.out.low ad.block (by rw [hUt _ hu]; omega)).2
  omega))
 have HS3 : Hid (CnS w3.drew wb 19 w.heap.size (.pointer (some ⟨b.cr, 0, none⟩)) e) := zh (cns_of HI3.out.blk.drew rfl HE3.out.drew)
 unfold evA at HAP
 rw [hL]
 clear hU hUt hrow hnew hb3 hcut i2
 go_wp2_with fail
 refine wp_planN (fun W => CnS W wb 19 w.heap.size (.pointer (some ⟨b.cr, 0, none⟩)) e) [(0, 1), (1, 1), (2, 1), (3, 1), (4, 1), (5, 1), (6, 3)] (by kernel_rfl) (by kernel_rfl) HS3.out ?_
 simp only [planNL, List.getElem?_cons_zero, List.getElem?_cons_succ]
 repeat (first | (refine planN_on _ (by rfl) (fun W hW => by (obtain ⟨x8, x0, x1, x2, x3, x4, x5, x6, x7⟩ := hW; go_simp; try with_reducible rfl)) ?_; simp only [Act.put, xq1, xq2, xq3]) | (refine planN_off (by rfl) ?_; simp only [Act.put, xq1, xq2, xq3]) | (refine planN_on0 _ (by rfl) (fun W hW => by (go_simp; try with_reducible rfl)) ?_; simp only [Act.put, xq1, xq2, xq3]))
 refine planN_last ?_
 go_wp2_with fail
 refine HAP.out.mono ?_
 rintro e' w4 ⟨rfl, U', h1, _, h3, h4⟩
 have k34 : Kept U w3 w4 := ((Kept.refl U w3).drew).trans h4
 have HK34 := zh k34
 have HI4 : Hid (WdG w4 wb base c v a last b (tauM τ w3.heap.size w4.heap.size 5) n es' ad S (thgs es) (rowsW (es ++ [e]))) := zh (HI3.out.new5 HUT.out HU.out.lt (by
  have : aftC (rowsW es) ⟨e, tagsOf es e⟩ = rowsW (es ++ [e]) := by
   unfold aftC
   rw [show takesC (rowsW es) (⟨e, tagsOf es e⟩ : Rw).e = true from HTK.out, if_pos rfl, HRW.out]
  rw [← this]
  exact h1) h3 k34)
 have HE4 : Hid (Blk w4 w.heap.size 31 (evArr e)) := zh (HE3.out.kept k34 (fun hu => by have := HUT.out _ hu; rw [HEB.out] at this; cases this))
 have HKB4 : Hid (Kept (fun q => τ q ≠ 0) w w4) := zh (((below_kept HB1.out (Nat.le_refl _)).trans (below_kept HB3.out (Nat.le_refl _))).trans (k34.mono (fun i _ hi => by rw [HUT.out i hi]; omega)))
 have HT4 : Hid (tauM τ w3.heap.size w4.heap.size 5 w.heap.size = 0) := zh (by rw [tauM_old HE3.out.lt]; exact HEB.out)
 have HO4 : Hid (∀ q, q < w.heap.size → tauM τ w3.heap.size w4.heap.size 5 q = τ q) := zh (fun q hq => tauM_old (Nat.lt_trans hq HE3.out.lt))
 obtain ⟨τ4, hτ4⟩ : ∃ τ4, tauM τ w3.heap.size w4.heap.size 5 = τ4 := ⟨_, rfl⟩
 rw [hτ4] at HI4 HT4 HO4
 have HW := zh (worth_any e w4)
 have d0 : w4.cell? ⟨w.heap.size, 0, none⟩ = some (.string e.src) := HE4.out.cell 0
 have d1 : w4.cell? ⟨w.heap.size, 1, none⟩ = some (.int .i64 e.num) := HE4.out.cell 1
 have d2 : w4.cell? ⟨w.heap.size, 2, none⟩ = some (.int .i64 e.tick) := HE4.out.cell 2
 have d3 : w4.cell? ⟨w.heap.size, 3, none⟩ = some (.int .i64 e.kind) := HE4.out.cell 3
 have d4 : w4.cell? ⟨w.heap.size, 4, none⟩ = some (.string e.person) := HE4.out.cell 4
 have d5 : w4.cell? ⟨w.heap.size, 5, none⟩ = some (.string e.item) := HE4.out.cell 5
 have d6 : w4.cell? ⟨w.heap.size, 6, none⟩ = some (.int .i64 e.value) := HE4.out.cell 6
 have d7 : w4.cell? ⟨w.heap.size, 7, none⟩ = some (.string e.text) := HE4.out.cell 7
 unfold evA at HW
 clear h1 h3 h4 k34 HAP hτ4 HIB HB2 HG2 HFEW hfew1 hfew2
 go_wp2_with fail
 refine planN_done ?_
 go_wp2_with fail
 refine HW.out.mono ?_
 rintro e' w5 ⟨rfl, hb5⟩
 have HI5 : Hid (WdG w5 wb base c v a last b τ4 n es' ad S (thgs es) (rowsW (es ++ [e]))) := zh (HI4.out.below hb5)
 have HE5 : Hid (Blk w5 w.heap.size 31 (evArr e)) := zh ((hb5.block _ HE4.out.lt).trans HE4.out)
 have HKB5 : Hid (Kept (fun q => τ q ≠ 0) w w5) := zh (HKB4.out.trans (below_kept hb5 (Nat.le_refl _)))
 clear hb5 HW d0 d1 d2 d3 d4 d5 d6 d7 HI4 HE4 HKB4
 by_cases hw0 : 0 < worthP e
 rotate_left
 ·have q0 : decide (0 < worthP e) = false := decide_eq_false hw0
  clear hw0
  go_wp2_with fail
  go_end0
  exact ⟨rfl, τ4, by rw [HTH.out]; exact HI5.out.mono (by omega), HKB5.out, HO4.out⟩
 have HMD := zh (may_deed HOK.out.1 hw0)
 have HTK5 := zh (may_parts HOK.out.1).2.2.1
 have HW1 : Hid (1 ≤ worthP e ∧ worthP e ≤ 1048576) := zh (by have := HMD.out.2.2; omega)
 obtain ⟨wt, hwt⟩ : ∃ wt, worthP e = wt := ⟨_, rfl⟩
 rw [hwt] at HW1 hw0
 rw [hwt]
 have q0 : decide (0 < wt) = true := decide_eq_true hw0
 clear hwt hw0
 obtain ⟨B6, h6, h6t⟩ := HI5.out.pop
 have H6 := zh h6
 have H6T := zh h6t
 have HC6 := zh (dadd_any w5.drew b.dc B6 n (h6.kept ((Kept.refl (fun _ => False) w5).drew) (fun _ _ h => h)) e.item e.tick wt HMD.out.1 HTK5.out ⟨by have := HW1.out.1; omega, HW1.out.2⟩ (by omega))
 have HS5 : Hid (CnS w5.drew wb 20 w.heap.size (.pointer (some ⟨b.dc, 0, none⟩)) e) := zh (cns_of HI5.out.blk.drew rfl HE5.out.drew)
 clear h6 h6t
 go_wp2_with fail
 refine wp_planN (fun W => CnS W wb 20 w.heap.size (.pointer (some ⟨b.dc, 0, none⟩)) e) [(0, 1), (1, 1), (2, 1), (3, 1), (4, 1), (5, 1), (6, 1), (7, 1), (8, 1), (9, 3)] (by kernel_rfl) (by kernel_rfl) HS5.out ?_
 simp only [planNL, List.getElem?_cons_zero, List.getElem?_cons_succ]
 repeat (first | (refine planN_on _ (by rfl) (fun W hW => by (obtain ⟨x8, x0, x1, x2, x3, x4, x5, x6, x7⟩ := hW; go_simp; try with_reducible rfl)) ?_; simp only [Act.put, xq1, xq2, xq3]) | (refine planN_off (by rfl) ?_; simp only [Act.put, xq1, xq2, xq3]) | (refine planN_on0 _ (by rfl) (fun W hW => by (go_simp; try with_reducible rfl)) ?_; simp only [Act.put, xq1, xq2, xq3]))
 refine planN_last ?_
 go_wp2_with fail
 refine HC6.out.mono ?_
 rintro e' w6 ⟨rfl, F6, a6, g6, k6⟩
 have k56 : Kept B6 w5 w6 := ((Kept.refl B6 w5).drew).trans k6
 have HI6 : Hid (WdG w6 wb base c v a last b (tauM τ4 w5.heap.size w6.heap.size 6) (n + 2) es' ad S (thgs es) (rowsW (es ++ [e]))) := zh (HI5.out.new6 (by omega) H6T.out H6.out.lt a6 g6.new k56)
 have HE6 : Hid (Blk w6 w.heap.size 31 (evArr e)) := zh (HE5.out.kept k56 (fun hu => by have := H6T.out _ hu; rw [HT4.out] at this; cases this))
 have HKB6 : Hid (Kept (fun q => τ q ≠ 0) w w6) := zh (HKB5.out.trans' k56 (fun i hi hB => by rw [← HO4.out i hi, H6T.out i hB]; omega))
 have HT6 : Hid (tauM τ4 w5.heap.size w6.heap.size 6 w.heap.size = 0) := zh (by rw [tauM_old HE5.out.lt]; exact HT4.out)
 have HO6 : Hid (∀ q, q < w.heap.size → tauM τ4 w5.heap.size w6.heap.size 6 q = τ q) := zh (fun q hq => by rw [tauM_old (Nat.lt_trans hq HE5.out.lt)]; exact HO4.out q hq)
 obtain ⟨τ6, hτ6⟩ : ∃ τ6, tauM τ4 w5.heap.size w6.heap.size 6 = τ6 := ⟨_, rfl⟩
 rw [hτ6] at HI6 HT6 HO6
 obtain ⟨B7, h7, h7t⟩ := HI6.out.pan
 have H7 := zh h7
 have H7T := zh h7t
 have HC7 := zh (padd_any w6.drew b.pn B7 (n + 2) (h7.kept ((Kept.refl (fun _ => False) w6).drew) (fun _ _ h => h)) e.item e.tick wt HMD.out.1 HTK5.out HW1.out (by omega))
 have HS6 : Hid (CnS w6.drew wb 21 w.heap.size (.pointer (some ⟨b.pn, 0, none⟩)) e) := zh (cns_of HI6.out.blk.drew rfl HE6.out.drew)
 clear h7 h7t a6 g6 k6 k56 hτ6 HC6 HI5 HE5 HKB5
 go_wp2_with fail
 refine planN_done ?_
 go_wp2_with fail
 refine wp_planN (fun W => CnS W wb 21 w.heap.size (.pointer (some ⟨b.pn, 0, none⟩)) e) [(0, 1), (1, 1), (2, 1), (3, 1), (4, 1), (5, 1), (6, 1), (7, 1), (8, 1), (9, 3)] (by kernel_rfl) (by kernel_rfl) HS6.out ?_
 simp only [planNL, List.getElem?_cons_zero, List.getElem?_cons_succ]
 repeat (first | (refine planN_on _ (by rfl) (fun W hW => by (obtain ⟨x8, x0, x1, x2, x3, x4, x5, x6, x7⟩ := hW; go_simp; try with_reducible rfl)) ?_; simp only [Act.put, xq1, xq2, xq3]) | (refine planN_off (by rfl) ?_; simp only [Act.put, xq1, xq2, xq3]) | (refine planN_on0 _ (by rfl) (fun W hW => by (go_simp; try with_reducible rfl)) ?_; simp only [Act.put, xq1, xq2, xq3]))
 refine planN_last ?_
 go_wp2_with fail
 refine HC7.out.mono ?_
 rintro e' w7 ⟨rfl, F7, a7, g7, k7⟩
 have k67 : Kept B7 w6 w7 := ((Kept.refl B7 w6).drew).trans k7
 have HI7 : Hid (WdG w7 wb base c v a last b (tauM τ6 w6.heap.size w7.heap.size 7) (n + 2 + 3) es' ad S (thgs es) (rowsW (es ++ [e]))) := zh (HI6.out.new7 (by omega) H7T.out H7.out.lt a7 g7.new k67)
 have HE7 : Hid (Blk w7 w.heap.size 31 (evArr e)) := zh (HE6.out.kept k67 (fun hu => by have := H7T.out _ hu; rw [HT6.out] at this; cases this))
 have HKB7 : Hid (Kept (fun q => τ q ≠ 0) w w7) := zh (HKB6.out.trans' k67 (fun i hi hB => by rw [← HO6.out i hi, H7T.out i hB]; omega))
 have HT7 : Hid (tauM τ6 w6.heap.size w7.heap.size 7 w.heap.size = 0) := zh (by rw [tauM_old HE6.out.lt]; exact HT6.out)
 have HO7 : Hid (∀ q, q < w.heap.size → tauM τ6 w6.heap.size w7.heap.size 7 q = τ q) := zh (fun q hq => by rw [tauM_old (Nat.lt_trans hq HE6.out.lt)]; exact HO6.out q hq)
 obtain ⟨τ7, hτ7⟩ : ∃ τ7, tauM τ6 w6.heap.size w7.heap.size 7 = τ7 := ⟨_, rfl⟩
 rw [hτ7] at HI7 HT7 HO7
 obtain ⟨B8, h8, h8t⟩ := HI7.out.ses
 have H8 := zh h8
 have H8T := zh h8t
 have HC8 := zh (sadd_any w7.drew b.ss B8 (n + 2 + 3) (h8.kept ((Kept.refl (fun _ => False) w7).drew) (fun _ _ h => h)) e.person e.item e.tick HMD.out.2.1 HMD.out.1 HTK5.out (by omega))
 have HS7 : Hid (CnS w7.drew wb 22 w.heap.size (.pointer (some ⟨b.ss, 0, none⟩)) e) := zh (cns_of HI7.out.blk.drew rfl HE7.out.drew)
 clear h8 h8t a7 g7 k7 k67 hτ7 HC7 HI6 HE6 HKB6
 go_wp2_with fail
 refine planN_done ?_
 go_wp2_with fail
 refine wp_planN (fun W => CnS W wb 22 w.heap.size (.pointer (some ⟨b.ss, 0, none⟩)) e) [(0, 1), (1, 1), (2, 1), (3, 1), (4, 1), (5, 1), (6, 1), (7, 1), (8, 1), (9, 1), (10, 3)] (by kernel_rfl) (by kernel_rfl) HS7.out ?_
 simp only [planNL, List.getElem?_cons_zero, List.getElem?_cons_succ]
 repeat (first | (refine planN_on _ (by rfl) (fun W hW => by (obtain ⟨x8, x0, x1, x2, x3, x4, x5, x6, x7⟩ := hW; go_simp; try with_reducible rfl)) ?_; simp only [Act.put, xq1, xq2, xq3]) | (refine planN_off (by rfl) ?_; simp only [Act.put, xq1, xq2, xq3]) | (refine planN_on0 _ (by rfl) (fun W hW => by (go_simp; try with_reducible rfl)) ?_; simp only [Act.put, xq1, xq2, xq3]))
 refine planN_last ?_
 go_wp2_with fail
 refine HC8.out.mono ?_
 rintro e' w8 ⟨rfl, F8, a8, g8, k8⟩
 have k78 : Kept B8 w7 w8 := ((Kept.refl B8 w7).drew).trans k8
 have HI8 : Hid (WdG w8 wb base c v a last b (tauM τ7 w7.heap.size w8.heap.size 8) (n + 2 + 3 + 3) es' ad S (thgs es) (rowsW (es ++ [e]))) := zh (HI7.out.new8 (by omega) H8T.out H8.out.lt a8 g8.new k78)
 have HKB8 : Hid (Kept (fun q => τ q ≠ 0) w w8) := zh (HKB7.out.trans' k78 (fun i hi hB => by rw [← HO7.out i hi, H8T.out i hB]; omega))
 have c23 : w8.cell? ⟨wb, 23, none⟩ = some (.pointer none) := HI8.out.blk.cell 23
 have f23 : w8.frozen? ⟨wb, 23, none⟩ = false := HI8.out.blk.frozen 23
 clear a8 g8 k8 k78 HC8 HI7 HKB7
 go_wp2_with fail
 refine planN_done ?_
 go_wp2_with fail
 go_end0
 have kz : Kept (fun q => q = wb) w8 (w8.setCell ⟨wb, 23, none⟩ (.pointer none)) := pset_kept
 have hwb : τ wb ≠ 0 := by rw [HI1.out.tw]; omega
 refine ⟨rfl, _, by rw [HTH.out]; exact (HI8.out.new1 (a' := a) (last' := last) (HI8.out.blk.set_ 23 _) kz), HKB8.out.trans (kz.mono (fun i _ hi => by rw [hi]; exact hwb)), fun q hq => by rw [tauM_old (Nat.lt_of_lt_of_le hq HKB8.out.size), tauM_old (Nat.lt_trans hq HE7.out.lt)]; exact HO7.out q hq⟩
end Go.Proofs.YthdmpcnnbminlaaGreatDoor
