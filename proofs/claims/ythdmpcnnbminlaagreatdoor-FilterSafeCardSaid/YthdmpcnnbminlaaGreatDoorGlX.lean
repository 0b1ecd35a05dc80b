/- FilterSafe: the walk. -/
import Derived.Test.YthdmpcnnbminlaaGreatDoorGlU
import Derived.Test.YthdmpcnnbminlaaGreatDoorGms
namespace Go.Proofs.YthdmpcnnbminlaaGreatDoor
open Go.Shelf Go.RowKit Go.Maps
open Ru (Fz fzA fzX Nd holdsR RuleV ruleT Says errOf ErrAt TabAt)
set_option linter.unusedVariables false
theorem ltN_irr (a : ByteArray) : ¬ ltN a a := List.lt_irrefl _
theorem IsNames.nodup {f : ByteArray → Bool} {ks : List ByteArray} (h : IsNames f ks) : ks.Nodup := by
 rw [List.nodup_iff_pairwise_ne]
 exact h.1.imp (fun hab e => by subst e; exact ltN_irr _ hab)
theorem str_eqB (x y : ByteArray) : (x.toList == y.toList) = decide (x = y) := by
 by_cases h : x = y
 ·subst h; simp
 ·rw [Bool.eq_false_iff.2 (fun e => h ((beq_list x y).1 e))]; simp [h]
theorem named_is {E : List Ev} (hall : ∀ e ∈ E, EvOk e) {now : Int} {x : ByteArray} (h : Ct.whB (thgs E) now (fun _ => true) x = true) : x.size ≤ 300 ∧ ∃ it, Ct.atP (thgs E) x now = some it ∧ it.listed = true := by
 unfold Ct.whB at h
 cases ha : Ct.atP (thgs E) x now with
 | none => rw [ha] at h; cases h
 | some it =>
  rw [ha] at h
  have hr : Ct.rowOf (thgs E) x ≠ [] := fun e => by unfold Ct.atP at ha; rw [e] at ha; cases ha
  obtain ⟨e, he, rfl⟩ := Ct.row_ne hr
  refine ⟨(hall e (thgs_mem.1 he).1).2.2.2.1, it, rfl, ?_⟩
  simpa using h
set_option maxHeartbeats 8000000 in
set_option maxRecDepth 100000 in
theorem filterSafe_walk (c : Cfg) (A : Option Addr) (n cp : Nat) (l : List Ev) (p : ByteArray) (now : Int) (s : ByteArray) (w : World) (h : LawIn w c A n cp l) (hp : p.size ≤ 281474976710656) (hnow : InR now) (hs : s.size ≤ 281474976710656) :
  Calls Tryz.prog 8 #[cfgA c, .slice A n cp, .string p, .int .i64 now, .string s] w (TrueR w) := by
 obtain ⟨w1, hw1⟩ : ∃ w1, w.alloc (.cells (cfgArr c) 23) = w1 := ⟨_, rfl⟩
 have be1 : Hid (Blk w1 w.heap.size 23 (cfgArr c)) := zh (by rw [← hw1]; exact Blk.new _ _ _)
 have HB1 : Hid (Below w.heap.size w w1) := zh (by rw [← hw1]; exact (Below.refl _ _).alloc (Nat.le_refl _) _)
 have HLV := zh (lives_any w1 (h.lib.keep HB1.out) (h.nm.keep HB1.out))
 have HL := zh h.lib
 have HNM := zh h.nm
 obtain ⟨hn, hl, hb, _, hbd⟩ := h.arg
 have HAR := zh (And.intro hn (And.intro hl (And.intro hb hbd)))
 have HNOW := zh hnow
 have HS := zh hs
 unfold cfgA
 unfold cfgArr at hw1
 clear h hn hl hb hbd hnow hs
 go_enter Tryz.func8, Tryz.ntmps8
 go_wp2_with fail
 refine HLV.out.mono ?_
 rintro e w2 ⟨rfl, hb2⟩
 have HB2 : Hid (Below w.heap.size w w2) := zh (HB1.out.trans (hb2.mono HB1.out.size))
 have HE2 : Hid (Blk w2 w.heap.size 23 (cfgArr c)) := zh ((hb2.block _ be1.out.lt).trans be1.out)
 have hld := load_cfg HE2.out
 have y0 : w2.cell? ⟨w.heap.size, 0, none⟩ = some (.int .i64 c.half) := HE2.out.cell 0
 have y1 : w2.cell? ⟨w.heap.size, 1, none⟩ = some (.int .i64 c.width) := HE2.out.cell 1
 have y2 : w2.cell? ⟨w.heap.size, 2, none⟩ = some (.int .i64 c.gap) := HE2.out.cell 2
 have y3 : w2.cell? ⟨w.heap.size, 3, none⟩ = some (.int .i64 c.span) := HE2.out.cell 3
 have y4 : w2.cell? ⟨w.heap.size, 4, none⟩ = some (.int .i64 c.floor) := HE2.out.cell 4
 have y5 : w2.cell? ⟨w.heap.size, 5, none⟩ = some (.int .i64 c.crowd) := HE2.out.cell 5
 have HMD := zh (made_any c w2 w.heap.size A l n cp HAR.out.1 (HAR.out.2.1.below HB2.out) HB2.out.size HAR.out.2.2.1 HAR.out.2.2.2 (fun V hV => by have k := HL.out.keep (HB2.out.trans (hV.mono HB2.out.size)); exact ⟨k.g, k.k, k.t⟩))
 unfold cfgA at HMD
 clear hb2 HLV hw1 be1 hld
 go_wp2_with fail
 refine HMD.out.mono ?_
 rintro e w3 ⟨hm3, hb3⟩
 have HB3 : Hid (Below w.heap.size w w3) := zh (HB2.out.trans (hb3.mono HB2.out.size))
 have HPA := zh (parsed_any s w3 HS.out (HL.out.keep HB3.out))
 have HE3 : Hid (Blk w3 w.heap.size 23 (cfgArr c)) := zh ((hb3.block _ HE2.out.lt).trans HE2.out)
 clear hb3 HMD y0 y1 y2 y3 y4 y5 HE2
 rcases hm3 with rfl | ⟨wb, base, E, rfl, ha, hwa, hba, hco, hl40, hok⟩
 ·go_wp2_with fail
  refine HPA.out.mono ?_
  rintro e w4 ⟨q, b, rfl, _, hb4⟩
  have HB4 : Hid (Below w.heap.size w w4) := zh (HB3.out.trans (hb4.mono HB3.out.size))
  clear hb4 HPA
  go_wp2_with fail
  go_ret
  exact ⟨rfl, HB4.out⟩
 have HWS := zh (WsAt.of hwa ha hl40 hok)
 clear ha hwa hba hco hl40 hok
 go_wp2_with fail
 refine HPA.out.mono ?_
 rintro e w4 ⟨q, b, rfl, hR, hb4⟩
 have HB4 : Hid (Below w.heap.size w w4) := zh (HB3.out.trans (hb4.mono HB3.out.size))
 have HW4 := zh (HWS.out.below hb4)
 have HE4 : Hid (Blk w4 w.heap.size 23 (cfgArr c)) := zh ((hb4.block _ HE3.out.lt).trans HE3.out)
 have HR := zh hR
 clear hb4 HPA hR
 cases b with
 | false =>
  go_wp2_with fail
  go_ret
  exact ⟨rfl, HB4.out⟩
 | true =>
 obtain ⟨R, hR⟩ := HR.out rfl
 by_cases h3 : (300 : Int) < (p.size : Int)
 ·clear hR
  go_wp2_with fail
  go_ret
  exact ⟨rfl, HB4.out⟩
 have d3 : decide ((300 : Int) < (p.size : Int)) = false := decide_eq_false h3
 have HP : Hid (p.size ≤ 300) := zh (by omega)
 have HRR := zh hR
 have HBF : Hid (∀ W, Below w4.heap.size w4 W → Below w.heap.size w W) := zh (fun W hb => HB4.out.trans (hb.mono HB4.out.size))
 have HOF : Hid (∀ x : ByteArray, x.size ≤ 300 → ∀ W, Below w4.heap.size w4 W → OfIs wb p now q (whyF E p now c R) x W) := zh (fun x hx W hb => of_law (HW4.out.below hb) (HRR.out.below hb) (HL.out.keep (HBF.out W hb)).g HP.out HNOW.out hx)
 have HQ : Hid (∀ z, q = none → okP R z = true) := zh (fun z e => by
  cases R with
  | none => rfl
  | some r => exact absurd e HRR.out.1)
 have HOK := zh HW4.out.ok
 obtain ⟨ct, cr, hwr⟩ := HW4.out.at_
 have hfw := HW4.out.few
 have hrl := rowsW_len E
 have htl := thgs_len E
 have HWR := zh hwr
 obtain ⟨CF, hCF⟩ := hwr.cat
 obtain ⟨U, hU⟩ := hwr.crw
 have HCU := zh hU
 have HFW : Hid (E.length ≤ 40) := zh hfw
 have HCP := zh (catalogP_any hwr)
 have HNA := zh (Ct.names_any ct CF (thgs E) now w4 hCF (by omega))
 clear hR h3 HR HWS hwr hCF hU
 go_wp2_with fail
 refine HCP.out.mono ?_
 rintro e w5 ⟨rfl, rfl⟩
 go_wp2_with fail
 refine HNA.out.mono ?_
 rintro e w5 ⟨Ai, ci, nl, rfl, hin, hnl, hri, hb5⟩
 have HB5 : Hid (Below w4.heap.size w4 w5) := zh hb5
 obtain ⟨nn, hnn⟩ : ∃ nn, nl.length = nn := ⟨_, rfl⟩
 rw [hnn] at hnl hri ⊢
 have HNN := zh hnn
 have HNL : Hid (∀ x ∈ nl, x.size ≤ 300 ∧ ∃ it, Ct.atP (thgs E) x now = some it ∧ it.listed = true) := zh (fun x hx => named_is HOK.out ((hin.2 x).1 hx))
 have HND : Hid nl.Nodup := zh hin.nodup
 have HRI := zh hri
 have hn40 : nn ≤ 40 := by omega
 obtain ⟨F, hF⟩ : ∃ F, whyF E p now c R = F := ⟨_, rfl⟩
 have HFF := zh hF
 have HPS := zh (pass_any w5 wb p now q F w5.heap.size Ai nl nn ci hnn hri (Nat.le_refl _) (by omega) (fun x hx W hb => by rw [← hF]; exact HOF.out x (HNL.out x hx).1 W (HB5.out.trans (hb.mono HB5.out.size))))
 unfold PassR at HPS
 clear hin hnl hri hb5 hnn hF HCP HNA hfw hrl htl
 go_wp2_with fail
 refine HPS.out.mono ?_
 rintro e w6 ⟨Ap, cp6, rfl, hpl, hb6⟩
 have HB6 : Hid (Below w4.heap.size w4 w6) := zh (HB5.out.trans (hb6.mono HB5.out.size))
 obtain ⟨np, hnp⟩ : ∃ np, (passL F nl).length = np := ⟨_, rfl⟩
 rw [hnp] at hpl ⊢
 have HNP := zh hnp
 have hp40 : np ≤ 40 := by have := passL_len F nl; rw [hnp, HNN.out] at this; omega
 have HRP : Hid (RowIn w6 w6.heap.size 1 Ap np ((passL F nl).map .string)) := zh (RowIn.of_own hpl)
 have HRI6 : Hid (RowIn w6 w6.heap.size 1 Ai nn (nl.map .string)) := zh ((HRI.out.below hb6).more hb6.size)
 have HE6 : Hid (Blk w6 w.heap.size 23 (cfgArr c)) := zh ((HB6.out.block _ HE4.out.lt).trans HE4.out)
 have H46 : Hid (∀ W, Below w6.heap.size w6 W → Below w4.heap.size w4 W) := zh (fun W hb => HB6.out.trans (hb.mono HB6.out.size))
 have HCA : Hid (∀ W, Below w6.heap.size w6 W → Calls Tryz.prog 30 #[.pointer (some ⟨wb, 0, none⟩)] W fun e w' => e = .returned (.pointer (some ⟨ct, 0, none⟩)) ∧ W = w') := zh (fun W hb => catalogP_any (HWR.out.below (H46.out W hb)))
 have HCR6 : Hid (∀ W, Below w6.heap.size w6 W → Calls Tryz.prog 33 #[.pointer (some ⟨wb, 0, none⟩)] W fun e w' => e = .returned (.pointer (some ⟨cr, 0, none⟩)) ∧ W = w') := zh (fun W hb => crowdP_any (HWR.out.below (H46.out W hb)))
 have HAT : Hid (∀ x it, x.size ≤ 300 → Ct.atP (thgs E) x now = some it → ∀ W, Below w6.heap.size w6 W → Calls Tryz.prog 32 #[.pointer (some ⟨ct, 0, none⟩), .string x, .int .i64 now] W fun e w' => e = .returned (.tuple #[.agg #[.string it.name, .string it.maker, .string it.tags, .int .i64 it.stock, .int .i64 it.price, .int .i64 it.born, .bool it.listed], .bool true]) ∧ Below W.heap.size W w') := zh (fun x it hx hit W hb => by
  obtain ⟨F, hF⟩ := (HWR.out.below (H46.out W hb)).cat
  have htl := thgs_len E
  have hfw := HFW.out
  have := Ct.at_any ct F (thgs E) x now W hF (by omega) (by omega)
  unfold Ct.toldP Ct.itA at this
  rw [hit] at this
  exact this)
 clear hpl hb6 hnp HPS HRI
 go_wp2_with fail
 go_loopw [16, 17] (fun kv iv wr => ∃ k j : Nat, k ≤ nn ∧ j ≤ np ∧ iv = .int .i64 k ∧ kv = .int .i64 j ∧ Hid ((passL F (nl.take k)).length = j) ∧ Hid (Below w6.heap.size w6 wr)) (fun _ iv _ => nn - (intOf iv).toNat)
 case atStart => exact ⟨0, 0, Nat.zero_le _, Nat.zero_le _, rfl, rfl, zh rfl, zh (Below.refl _ _)⟩
 case round =>
  obtain ⟨k, j, hk, hj, rfl, rfl, hjl, hbw⟩ := hrel
  have hwz := hbw.out.size
  by_cases hlt : k < nn
  ·obtain ⟨x, hx⟩ : ∃ x, nl[k]? = some x := ⟨nl[k]'(by rw [HNN.out]; exact hlt), List.getElem?_eq_getElem _⟩
   obtain ⟨hx3, it, hit, hli⟩ := HNL.out x (List.mem_of_getElem? hx)
   obtain ⟨g, o, rfl, hgB, hc⟩ := HRI6.out.at (by omega)
   have HNC : Hid (∀ W, Below w6.heap.size w6 W → World.cell? W ⟨g, o + k, none⟩ = some (Value.string x)) := zh (fun W hW => (hW.cell (p := ⟨g, o + k, none⟩) hgB).trans (hc k _ (by simp [hx])))
   have HPA := zh (passL_at (F := F) HND.out hx)
   have HPN := zh (passL_snoc F hx)
   have hk8 : (k : Int) < (nn : Int) := by omega
   have hk9 : (0 : Int) ≤ (k : Int) := by omega
   obtain ⟨fans, hfans⟩ : ∃ z : Int, (fansN (rowsW E) x : Int) = z := ⟨_, rfl⟩
   obtain ⟨dn, hdn⟩ : ∃ z, doneB (rowsW E) p x = z := ⟨_, rfl⟩
   obtain ⟨fol, hfol⟩ : ∃ z, decide (folO (rowsW E) p it.maker = some true) = z := ⟨_, rfl⟩
   obtain ⟨a, ha⟩ : ∃ a, (hidO (rowsW E) p x).getD false = a := ⟨_, rfl⟩
   obtain ⟨mu, hmu⟩ : ∃ mu, decide (mutO (rowsW E) p it.maker = some true) = mu := ⟨_, rfl⟩
   have hz : fzOf E p x now = ⟨it.name, it.maker, it.tags, it.stock, it.price, it.born, it.listed, now, now - it.born, fans, fol, dn⟩ := by
    unfold fzOf
    rw [hit, hfans, hdn]
    simp [hfol]
   have hhd : hidP E p x now = (a || mu) := by
    unfold hidP
    rw [hit, ha]
    exact congrArg _ hmu
   obtain ⟨hk, hok⟩ : ∃ hk, okP R (fzOf E p x now) = hk := ⟨_, rfl⟩
   have hik := at_ok (m := 300) (fun e he => (HOK.out e he).1) (fun e he => (HOK.out e he).2) hx3 hit
   have hage := age_ok (m := 300) (fun e he => (HOK.out e he).1) (fun e he => (HOK.out e he).2) hx3 hit HNOW.out.2
   obtain ⟨s0, hs0⟩ : ∃ b, decide (0 < it.stock) = b := ⟨_, rfl⟩
   obtain ⟨fc, hfc⟩ : ∃ b, decide (c.crowd ≤ fans) = b := ⟨_, rfl⟩
   obtain ⟨ag, has⟩ : ∃ b, decide (now - it.born ≤ c.span) = b := ⟨_, rfl⟩
   obtain ⟨b, hb⟩ : ∃ b, decide (F x = 0) = b := ⟨_, rfl⟩
   have HST := zh hs0
   have HFC := zh hfc
   have HAS := zh has
   have HG : Hid (b = (s0 && (!(a || mu) && (!dn && (hk && (fc || ag)))))) := zh (by
    rw [← hb, ← HFF.out, ← hs0, ← hfc, ← has]
    show decide (whyP (fzOf E p x now) (hidP E p x now) c.crowd c.span (okP R (fzOf E p x now)) = 0) = _
    rw [whyP_zero (by rw [hz]; exact hli) (by rw [hz]; exact hik.stock.1), hok, hhd, hz])
   have HBX := zh hb
   have HLI := zh hli
   have HQK : Hid (q = none → hk = true) := zh (fun e => by rw [← hok]; exact HQ.out _ e)
   have HHO6 : Hid (∀ W, Below w6.heap.size w6 W → Calls Tryz.prog 28 #[.pointer q, .agg #[.string it.name, .string it.maker, .string it.tags, .int .i64 it.stock, .int .i64 it.price, .int .i64 it.born, .bool it.listed, .int .i64 now, .int .i64 (now - it.born), .int .i64 fans, .bool fol, .bool dn]] W (Ru.ROf hk W)) := zh (fun W hb => by
    have h1 := (HRR.out.below (H46.out W hb)).holds (HL.out.keep (HBF.out W (H46.out W hb))).g (fzOf E p x now) (fz_tags HOK.out hx3)
    rw [hok, hz] at h1
    exact h1)
   have HAX := zh (HAT.out x it hx3 hit)
   have HFA : Hid (∀ W, Below w6.heap.size w6 W → Calls Tryz.prog 19 #[.pointer (some ⟨wb, 0, none⟩), .string p, .string x, .int .i64 now] W fun e w' => e = .returned (.agg #[.string it.name, .string it.maker, .string it.tags, .int .i64 it.stock, .int .i64 it.price, .int .i64 it.born, .bool it.listed, .int .i64 now, .int .i64 (now - it.born), .int .i64 fans, .bool fol, .bool dn]) ∧ Below W.heap.size W w') := zh (fun W hb => by
    have h1 := facts_law (HW4.out.below (H46.out W hb)) HP.out HNOW.out hx3
    unfold FactsR at h1
    rw [hz] at h1
    exact h1)
   have HHD6 : Hid (∀ W, Below w6.heap.size w6 W → Calls Tryz.prog 34 #[.pointer (some ⟨cr, 0, none⟩), .string p, .string x] W fun e w' => e = .returned (.bool a) ∧ Below W.heap.size W w') := zh (fun W hb => by
    have h0 := HP.out
    rw [← ha]
    exact hiddenG_any cr (halfP c.half) U (rowsW E) p x W (HCU.out.below (H46.out W hb)) (by unfold maxLen; omega) (by unfold maxLen; omega))
   have HDN6 : Hid (∀ W, Below w6.heap.size w6 W → Calls Tryz.prog 37 #[.pointer (some ⟨cr, 0, none⟩), .string p, .string x] W fun e w' => e = .returned (.bool dn) ∧ Below W.heap.size W w') := zh (fun W hb => by
    have h0 := HP.out
    rw [← hdn]
    exact doneG_any cr (halfP c.half) U (rowsW E) p x W (HCU.out.below (H46.out W hb)) (by unfold maxLen; omega) (by unfold maxLen; omega))
   have HMU6 : Hid (∀ W, Below w6.heap.size w6 W → Calls Tryz.prog 36 #[.pointer (some ⟨cr, 0, none⟩), .string p] W fun e w' => ∃ (A : Option Addr) (c : Nat) (ks : List ByteArray), e = .returned (.slice A ks.length c) ∧ memB it.maker ks = mu ∧ RowIn w' w'.heap.size 1 A ks.length (ks.map .string) ∧ ks.length ≤ 1000 ∧ Below W.heap.size W w') := zh (fun W hb => by
    have h0 := HP.out
    have h00 := HFW.out
    have hrl := rowsW_len E
    refine (mutes_any cr (halfP c.half) U (rowsW E) p W (HCU.out.below (H46.out W hb)) (by unfold maxLen; omega) (by omega)).mono ?_
    rintro e w' ⟨A, c, ks, rfl, h1, h2, h3, h4⟩
    exact ⟨A, c, ks, rfl, by rw [names_mem h1, hmu], RowIn.of_own h2, h3, h4⟩)
   clear hc hx hit hli hfans hdn hfol ha hmu hz hhd hok hik hs0 hfc has hb hx3
   go_upto_region 13 with fail
   go_cut [18] (fun v wx => ∃ gb, v = .pointer (some ⟨gb, 0, none⟩) ∧ Hid (Blk wx gb 36 #[.string it.name, .string it.maker, .string it.tags, .int .i64 it.stock, .int .i64 it.price, .int .i64 it.born, .bool it.listed]) ∧ Hid (w6.heap.size ≤ gb) ∧ Hid (Below w6.heap.size w6 wx))
   case first =>
    as_aux_lemma =>
    refine wp_planT (fun W => Below w6.heap.size w6 W) (.take 0 (.take 2 (.take 3 (.take 4 (.take 5 (.take 6 (.fork 1 (.fork 7 (.take 8 (.take 9 (.take 10 (.turn 11 (.turn 12 (.take 13 .done)))))) 11 (.turn 7 (.take 8 (.take 9 (.take 10 (.turn 12 (.take 13 .done))))))) 11 (.turn 1 (.turn 7 (.take 8 (.take 9 (.take 10 (.turn 12 (.take 13 .done)))))))))))))) (by kernel_rfl) (by kernel_rfl) (below_drew hbw.out) ?_
    simp only [planTL, List.getElem?_cons_zero, List.getElem?_cons_succ]
    obtain ⟨wd, hwd⟩ : ∃ z, wr.drew = z := ⟨_, rfl⟩
    have HBD : Hid (Below w6.heap.size w6 wd) := zh (by rw [← hwd]; exact below_drew hbw.out)
    rw [hwd]
    clear hwd
    repeat (first | (refine planT_on _ (by rfl) (fun W hW => by (have x0 := HNC.out W hW; go_simp; try with_reducible rfl)) ?_; simp only [Act.put, xq1, xq2, xq3]) | (refine planT_off (by rfl) ?_; simp only [Act.put, xq1, xq2, xq3]))
    refine planT_fork ?_ ?_
    ·have HCv1 := zh (HCA.out wd HBD.out)
     go_wp2_with fail
     refine HCv1.out.mono ?_
     rintro e v1 ⟨rfl, rfl⟩
     clear HCv1
     go_wp2_with fail
     refine ⟨HBD.out, ?_⟩
     repeat (first | (refine planT_on _ (by rfl) (fun W hW => by (have x0 := HNC.out W hW; go_simp; try with_reducible rfl)) ?_; simp only [Act.put, xq1, xq2, xq3]) | (refine planT_off (by rfl) ?_; simp only [Act.put, xq1, xq2, xq3]))
     refine planT_fork ?_ ?_
     ·have HCv2 := zh (HAX.out wd HBD.out)
      go_wp2_with fail
      refine HCv2.out.mono ?_
      rintro e v2 ⟨rfl, hbv2⟩
      have HEv2 : Hid (Below w6.heap.size w6 v2) := zh (HBD.out.trans (hbv2.mono HBD.out.size))
      clear hbv2 HCv2
      go_wp2_with fail
      refine ⟨HEv2.out, ?_⟩
      repeat (first | (refine planT_on _ (by rfl) (fun W hW => by (have x0 := HNC.out W hW; go_simp; try with_reducible rfl)) ?_; simp only [Act.put, xq1, xq2, xq3]) | (refine planT_off (by rfl) ?_; simp only [Act.put, xq1, xq2, xq3]))
      refine planT_turn ?_
      obtain ⟨gv3, hgv3⟩ : ∃ g, v2.heap.size = g := ⟨_, rfl⟩
      obtain ⟨v3, hav3⟩ : ∃ W, v2.alloc (.cells #[.string ⟨#[]⟩, .string ⟨#[]⟩, .string ⟨#[]⟩, .int .i64 0, .int .i64 0, .int .i64 0, .bool false] 36) = W := ⟨_, rfl⟩
      have HXv3 : Hid (Blk v3 gv3 36 #[.string ⟨#[]⟩, .string ⟨#[]⟩, .string ⟨#[]⟩, .int .i64 0, .int .i64 0, .int .i64 0, .bool false]) := zh (by rw [← hav3, ← hgv3]; exact Blk.new _ _ _)
      have HEv3 : Hid (Below w6.heap.size w6 v3) := zh (by rw [← hav3]; exact HEv2.out.alloc HEv2.out.size _)
      have HGv3 : Hid (w6.heap.size ≤ gv3) := zh (by rw [← hgv3]; exact HEv2.out.size)
      go_wp2_with fail
      try rw [hgv3]
      try rw [hav3]
      clear hgv3 hav3
      refine ⟨HEv3.out, ?_⟩
      repeat (first | (refine planT_on _ (by rfl) (fun W hW => by (have x0 := HNC.out W hW; go_simp; try with_reducible rfl)) ?_; simp only [Act.put, xq1, xq2, xq3]) | (refine planT_off (by rfl) ?_; simp only [Act.put, xq1, xq2, xq3]))
      refine planT_turn ?_
      refine wpList_store_blk v3 rfl 36 _ _ rfl 0 #[.string it.name, .string it.maker, .string it.tags, .int .i64 it.stock, .int .i64 it.price, .int .i64 it.born, .bool it.listed] rfl rfl HXv3.out (by show 0 + 7 ≤ 7; omega) ite_size (by simp [Value.oneCell']) ?_
      intro v4 hbv4 hkv4 hzv4
      simp only [putA, List.setIfInBounds_toArray, List.set_cons_zero, List.set_cons_succ] at hbv4
      have HXv4 : Hid (Blk v4 gv3 36 #[.string it.name, .string it.maker, .string it.tags, .int .i64 it.stock, .int .i64 it.price, .int .i64 it.born, .bool it.listed]) := zh hbv4
      have HEv4 : Hid (Below w6.heap.size w6 v4) := zh (HEv3.out.trans (hkv4.toBelow (fun i hi => by rw [hi]; exact HGv3.out) HEv3.out.size))
      clear hbv4 hkv4 hzv4
      refine ⟨HEv4.out, ?_⟩
      repeat (first | (refine planT_on _ (by rfl) (fun W hW => by (have x0 := HNC.out W hW; go_simp; try with_reducible rfl)) ?_; simp only [Act.put, xq1, xq2, xq3]) | (refine planT_off (by rfl) ?_; simp only [Act.put, xq1, xq2, xq3]))
      refine planT_done ?_
      go_wp2_with fail
      go_meet
      exact ⟨gv3, rfl, HXv4, HGv3, HEv4⟩
     ·obtain ⟨gv5, hgv5⟩ : ∃ g, wd.heap.size = g := ⟨_, rfl⟩
      obtain ⟨v5, hav5⟩ : ∃ W, wd.alloc (.cells #[.string ⟨#[]⟩, .string ⟨#[]⟩, .string ⟨#[]⟩, .int .i64 0, .int .i64 0, .int .i64 0, .bool false] 36) = W := ⟨_, rfl⟩
      have HXv5 : Hid (Blk v5 gv5 36 #[.string ⟨#[]⟩, .string ⟨#[]⟩, .string ⟨#[]⟩, .int .i64 0, .int .i64 0, .int .i64 0, .bool false]) := zh (by rw [← hav5, ← hgv5]; exact Blk.new _ _ _)
      have HEv5 : Hid (Below w6.heap.size w6 v5) := zh (by rw [← hav5]; exact HBD.out.alloc HBD.out.size _)
      have HGv5 : Hid (w6.heap.size ≤ gv5) := zh (by rw [← hgv5]; exact HBD.out.size)
      go_wp2_with fail
      try rw [hgv5]
      try rw [hav5]
      clear hgv5 hav5
      refine ⟨HEv5.out, ?_⟩
      repeat (first | (refine planT_on _ (by rfl) (fun W hW => by (have x0 := HNC.out W hW; go_simp; try with_reducible rfl)) ?_; simp only [Act.put, xq1, xq2, xq3]) | (refine planT_off (by rfl) ?_; simp only [Act.put, xq1, xq2, xq3]))
      refine planT_turn ?_
      have HCv6 := zh (HAX.out v5 HEv5.out)
      go_wp2_with fail
      refine HCv6.out.mono ?_
      rintro e v6 ⟨rfl, hbv6⟩
      have HEv6 : Hid (Below w6.heap.size w6 v6) := zh (HEv5.out.trans (hbv6.mono HEv5.out.size))
      have HXv6 : Hid (Blk v6 gv5 36 #[.string ⟨#[]⟩, .string ⟨#[]⟩, .string ⟨#[]⟩, .int .i64 0, .int .i64 0, .int .i64 0, .bool false]) := zh ((hbv6.block _ HXv5.out.lt).trans HXv5.out)
      clear hbv6 HCv6
      go_wp2_with fail
      refine ⟨HEv6.out, ?_⟩
      repeat (first | (refine planT_on _ (by rfl) (fun W hW => by (have x0 := HNC.out W hW; go_simp; try with_reducible rfl)) ?_; simp only [Act.put, xq1, xq2, xq3]) | (refine planT_off (by rfl) ?_; simp only [Act.put, xq1, xq2, xq3]))
      refine planT_turn ?_
      refine wpList_store_blk v6 rfl 36 _ _ rfl 0 #[.string it.name, .string it.maker, .string it.tags, .int .i64 it.stock, .int .i64 it.price, .int .i64 it.born, .bool it.listed] rfl rfl HXv6.out (by show 0 + 7 ≤ 7; omega) ite_size (by simp [Value.oneCell']) ?_
      intro v7 hbv7 hkv7 hzv7
      simp only [putA, List.setIfInBounds_toArray, List.set_cons_zero, List.set_cons_succ] at hbv7
      have HXv7 : Hid (Blk v7 gv5 36 #[.string it.name, .string it.maker, .string it.tags, .int .i64 it.stock, .int .i64 it.price, .int .i64 it.born, .bool it.listed]) := zh hbv7
      have HEv7 : Hid (Below w6.heap.size w6 v7) := zh (HEv6.out.trans (hkv7.toBelow (fun i hi => by rw [hi]; exact HGv5.out) HEv6.out.size))
      clear hbv7 hkv7 hzv7
      refine ⟨HEv7.out, ?_⟩
      repeat (first | (refine planT_on _ (by rfl) (fun W hW => by (have x0 := HNC.out W hW; go_simp; try with_reducible rfl)) ?_; simp only [Act.put, xq1, xq2, xq3]) | (refine planT_off (by rfl) ?_; simp only [Act.put, xq1, xq2, xq3]))
      refine planT_done ?_
      go_wp2_with fail
      go_meet
      exact ⟨gv5, rfl, HXv7, HGv5, HEv7⟩
    ·obtain ⟨gv8, hgv8⟩ : ∃ g, wd.heap.size = g := ⟨_, rfl⟩
     obtain ⟨v8, hav8⟩ : ∃ W, wd.alloc (.cells #[.string ⟨#[]⟩, .string ⟨#[]⟩, .string ⟨#[]⟩, .int .i64 0, .int .i64 0, .int .i64 0, .bool false] 36) = W := ⟨_, rfl⟩
     have HXv8 : Hid (Blk v8 gv8 36 #[.string ⟨#[]⟩, .string ⟨#[]⟩, .string ⟨#[]⟩, .int .i64 0, .int .i64 0, .int .i64 0, .bool false]) := zh (by rw [← hav8, ← hgv8]; exact Blk.new _ _ _)
     have HEv8 : Hid (Below w6.heap.size w6 v8) := zh (by rw [← hav8]; exact HBD.out.alloc HBD.out.size _)
     have HGv8 : Hid (w6.heap.size ≤ gv8) := zh (by rw [← hgv8]; exact HBD.out.size)
     go_wp2_with fail
     try rw [hgv8]
     try rw [hav8]
     clear hgv8 hav8
     refine ⟨HEv8.out, ?_⟩
     repeat (first | (refine planT_on _ (by rfl) (fun W hW => by (have x0 := HNC.out W hW; go_simp; try with_reducible rfl)) ?_; simp only [Act.put, xq1, xq2, xq3]) | (refine planT_off (by rfl) ?_; simp only [Act.put, xq1, xq2, xq3]))
     refine planT_turn ?_
     have HCv9 := zh (HCA.out v8 HEv8.out)
     go_wp2_with fail
     refine HCv9.out.mono ?_
     rintro e v9 ⟨rfl, rfl⟩
     clear HCv9
     go_wp2_with fail
     refine ⟨HEv8.out, ?_⟩
     repeat (first | (refine planT_on _ (by rfl) (fun W hW => by (have x0 := HNC.out W hW; go_simp; try with_reducible rfl)) ?_; simp only [Act.put, xq1, xq2, xq3]) | (refine planT_off (by rfl) ?_; simp only [Act.put, xq1, xq2, xq3]))
     refine planT_turn ?_
     have HCv10 := zh (HAX.out v8 HEv8.out)
     go_wp2_with fail
     refine HCv10.out.mono ?_
     rintro e v10 ⟨rfl, hbv10⟩
     have HEv10 : Hid (Below w6.heap.size w6 v10) := zh (HEv8.out.trans (hbv10.mono HEv8.out.size))
     have HXv10 : Hid (Blk v10 gv8 36 #[.string ⟨#[]⟩, .string ⟨#[]⟩, .string ⟨#[]⟩, .int .i64 0, .int .i64 0, .int .i64 0, .bool false]) := zh ((hbv10.block _ HXv8.out.lt).trans HXv8.out)
     clear hbv10 HCv10
     go_wp2_with fail
     refine ⟨HEv10.out, ?_⟩
     repeat (first | (refine planT_on _ (by rfl) (fun W hW => by (have x0 := HNC.out W hW; go_simp; try with_reducible rfl)) ?_; simp only [Act.put, xq1, xq2, xq3]) | (refine planT_off (by rfl) ?_; simp only [Act.put, xq1, xq2, xq3]))
     refine planT_turn ?_
     refine wpList_store_blk v10 rfl 36 _ _ rfl 0 #[.string it.name, .string it.maker, .string it.tags, .int .i64 it.stock, .int .i64 it.price, .int .i64 it.born, .bool it.listed] rfl rfl HXv10.out (by show 0 + 7 ≤ 7; omega) ite_size (by simp [Value.oneCell']) ?_
     intro v11 hbv11 hkv11 hzv11
     simp only [putA, List.setIfInBounds_toArray, List.set_cons_zero, List.set_cons_succ] at hbv11
     have HXv11 : Hid (Blk v11 gv8 36 #[.string it.name, .string it.maker, .string it.tags, .int .i64 it.stock, .int .i64 it.price, .int .i64 it.born, .bool it.listed]) := zh hbv11
     have HEv11 : Hid (Below w6.heap.size w6 v11) := zh (HEv10.out.trans (hkv11.toBelow (fun i hi => by rw [hi]; exact HGv8.out) HEv10.out.size))
     clear hbv11 hkv11 hzv11
     refine ⟨HEv11.out, ?_⟩
     repeat (first | (refine planT_on _ (by rfl) (fun W hW => by (have x0 := HNC.out W hW; go_simp; try with_reducible rfl)) ?_; simp only [Act.put, xq1, xq2, xq3]) | (refine planT_off (by rfl) ?_; simp only [Act.put, xq1, xq2, xq3]))
     refine planT_done ?_
     go_wp2_with fail
     go_meet
     exact ⟨gv8, rfl, HXv11, HGv8, HEv11⟩
   case rest =>
   obtain ⟨gb, rfl, HX7, HGB, HB7⟩ := hcut
   obtain ⟨w7, rfl⟩ : ∃ z : World, z = wc := ⟨_, rfl⟩
   have HC7 := zh (HFA.out w7 HB7.out)
   have x0 := HNC.out w7 HB7.out
   clear HFA HAX HAT
   go_wp2_with fail
   refine HC7.out.mono ?_
   rintro e w8' ⟨rfl, hb8⟩
   have HB8' : Hid (Below w6.heap.size w6 w8') := zh (HB7.out.trans (hb8.mono HB7.out.size))
   have HX8' : Hid (Blk w8' gb 36 #[.string it.name, .string it.maker, .string it.tags, .int .i64 it.stock, .int .i64 it.price, .int .i64 it.born, .bool it.listed]) := zh ((hb8.block _ HX7.out.lt).trans HX7.out)
   obtain ⟨w8, hw8⟩ : ∃ w8, w8'.alloc (.cells #[.string it.name, .string it.maker, .string it.tags, .int .i64 it.stock, .int .i64 it.price, .int .i64 it.born, .bool it.listed, .int .i64 now, .int .i64 (now - it.born), .int .i64 fans, .bool fol, .bool dn] 38) = w8 := ⟨_, rfl⟩
   obtain ⟨fb, hfb⟩ : ∃ fb, w8'.heap.size = fb := ⟨_, rfl⟩
   have HX8 : Hid (Blk w8 gb 36 #[.string it.name, .string it.maker, .string it.tags, .int .i64 it.stock, .int .i64 it.price, .int .i64 it.born, .bool it.listed]) := zh (by rw [← hw8]; exact HX8'.out.alloc _)
   have HF8 : Hid (Blk w8 fb 38 #[.string it.name, .string it.maker, .string it.tags, .int .i64 it.stock, .int .i64 it.price, .int .i64 it.born, .bool it.listed, .int .i64 now, .int .i64 (now - it.born), .int .i64 fans, .bool fol, .bool dn]) := zh (by rw [← hw8, ← hfb]; exact Blk.new _ _ _)
   have HB8 : Hid (Below w6.heap.size w6 w8) := zh (by rw [← hw8]; exact HB8'.out.alloc HB8'.out.size _)
   have HC8 : Hid (Blk w8 w.heap.size 23 (cfgArr c)) := zh ((HB8.out.block _ HE6.out.lt).trans HE6.out)
   have HSC : Hid (∀ W, Below w8.heap.size w8 W → World.cell? W ⟨gb, 0, none⟩ = some (.string it.name) ∧ World.cell? W ⟨gb, 1, none⟩ = some (.string it.maker) ∧ World.cell? W ⟨gb, 2, none⟩ = some (.string it.tags) ∧ World.cell? W ⟨gb, 3, none⟩ = some (.int .i64 it.stock) ∧ World.cell? W ⟨gb, 4, none⟩ = some (.int .i64 it.price) ∧ World.cell? W ⟨gb, 5, none⟩ = some (.int .i64 it.born) ∧ World.cell? W ⟨gb, 6, none⟩ = some (.bool it.listed) ∧ World.cell? W ⟨fb, 0, none⟩ = some (.string it.name) ∧ World.cell? W ⟨fb, 1, none⟩ = some (.string it.maker) ∧ World.cell? W ⟨fb, 2, none⟩ = some (.string it.tags) ∧ World.cell? W ⟨fb, 3, none⟩ = some (.int .i64 it.stock) ∧ World.cell? W ⟨fb, 4, none⟩ = some (.int .i64 it.price) ∧ World.cell? W ⟨fb, 5, none⟩ = some (.int .i64 it.born) ∧ World.cell? W ⟨fb, 6, none⟩ = some (.bool it.listed) ∧ World.cell? W ⟨fb, 7, none⟩ = some (.int .i64 now) ∧ World.cell? W ⟨fb, 8, none⟩ = some (.int .i64 (now - it.born)) ∧ World.cell? W ⟨fb, 9, none⟩ = some (.int .i64 fans) ∧ World.cell? W ⟨fb, 10, none⟩ = some (.bool fol) ∧ World.cell? W ⟨fb, 11, none⟩ = some (.bool dn) ∧ World.cell? W ⟨w.heap.size, 3, none⟩ = some (.int .i64 c.span) ∧ World.cell? W ⟨w.heap.size, 5, none⟩ = some (.int .i64 c.crowd) ∧ World.cell? W ⟨g, o + k, none⟩ = some (Value.string x)) := zh (fun W hb => by
    have k : Blk W gb 36 #[.string it.name, .string it.maker, .string it.tags, .int .i64 it.stock, .int .i64 it.price, .int .i64 it.born, .bool it.listed] := (hb.block _ HX8.out.lt).trans HX8.out
    have k' : Blk W fb 38 #[.string it.name, .string it.maker, .string it.tags, .int .i64 it.stock, .int .i64 it.price, .int .i64 it.born, .bool it.listed, .int .i64 now, .int .i64 (now - it.born), .int .i64 fans, .bool fol, .bool dn] := (hb.block _ HF8.out.lt).trans HF8.out
    have k'' : Blk W w.heap.size 23 (cfgArr c) := (hb.block _ HC8.out.lt).trans HC8.out
    exact ⟨k.cell 0, k.cell 1, k.cell 2, k.cell 3, k.cell 4, k.cell 5, k.cell 6, k'.cell 0, k'.cell 1, k'.cell 2, k'.cell 3, k'.cell 4, k'.cell 5, k'.cell 6, k'.cell 7, k'.cell 8, k'.cell 9, k'.cell 10, k'.cell 11, k''.cell 3, k''.cell 5, HNC.out W (HB8.out.trans (hb.mono HB8.out.size))⟩)
   have H68 : ∀ W, Below w8.heap.size w8 W → Below w6.heap.size w6 W := fun W hb => HB8.out.trans (hb.mono HB8.out.size)
   have HCR : Hid (∀ W, Below w8.heap.size w8 W → _) := zh (fun W hb => HCR6.out W (H68 W hb))
   have HHD : Hid (∀ W, Below w8.heap.size w8 W → _) := zh (fun W hb => HHD6.out W (H68 W hb))
   have HMU : Hid (∀ W, Below w8.heap.size w8 W → _) := zh (fun W hb => HMU6.out W (H68 W hb))
   have HDN : Hid (∀ W, Below w8.heap.size w8 W → _) := zh (fun W hb => HDN6.out W (H68 W hb))
   have HHO : Hid (∀ W, Below w8.heap.size w8 W → _) := zh (fun W hb => HHO6.out W (H68 W hb))
   have HQ : Hid (q = none → hk = true) := HQK
   clear hb8 HC7 x0 HCR6 HHD6 HMU6 HDN6 HHO6 H68 HQK
   go_upto_region 15 with fail
   try rw [hfb]
   try rw [hw8]
   clear hw8 hfb HX8' HB8' HX7 HB7
   obtain ⟨i0, i1, i2, i3, i4, i5, i6, f0, f1, f2, f3, f4, f5, f6, f7, f8, f9, f10, f11, k3, k5, x0⟩ := HSC.out w8 (Below.refl _ _)
   have hl := HLI.out
   rw [hl] at i6 f6
   go_upto_region 17 with fail
   clear i0 i1 i2 i3 i4 i5 i6 f0 f1 f2 f3 f4 f5 f6 f7 f8 f9 f10 f11 k3 k5 x0 hl
   go_cut [21] (fun v wx => v = .bool b ∧ Hid (Below w8.heap.size w8 wx))
   case first =>
    as_aux_lemma =>
    refine wp_plan (fun W => Below w8.heap.size w8 W) [(0, false), (1, false), (2, false), (3, false), (4, false), (6, false), (7, false), (8, false), (9, false), (10, false), (5, true), (11, true), (12, false), (13, false), (14, false), (15, false), (17, false), (19, false), (20, false), (16, true), (18, true), (21, true), (22, false), (23, false), (24, false), (25, false), (27, false), (28, false), (29, false), (30, false), (31, false), (26, true), (32, true), (33, false), (34, false), (35, false), (36, false), (37, false), (38, false), (39, false), (40, false), (41, true), (42, false), (43, false), (44, false), (45, false), (46, false), (47, false), (48, false), (49, false), (50, false), (51, false), (52, false), (53, false), (54, false), (55, false), (56, false), (57, false), (58, false), (59, false), (60, false)] (by kernel_rfl) (by kernel_rfl) (below_drew (Below.refl _ _)) ?_
    simp only [planL, List.getElem?_cons_zero, List.getElem?_cons_succ]
    obtain ⟨wd, hwd⟩ : ∃ z, w8.drew = z := ⟨_, rfl⟩
    have HBD : Hid (Below w8.heap.size w8 wd) := zh (by rw [← hwd]; exact below_drew (Below.refl _ _))
    rw [hwd]
    clear hwd
    cases s0 with
    | true =>
     as_aux_lemma =>
      have hS := HST.out
      repeat (first | (refine plan_on _ (by rfl) (fun W hW => by (obtain ⟨i0, i1, i2, i3, i4, i5, i6, f0, f1, f2, f3, f4, f5, f6, f7, f8, f9, f10, f11, k3, k5, x0⟩ := HSC.out W hW; go_simp; try with_reducible rfl)) ?_; simp only [Act.put, xq1, xq2, xq3]) | (refine plan_off (by rfl) ?_; simp only [Act.put, xq1, xq2, xq3]))
      refine plan_turn ?_
      have HCv12 := zh (HCR.out wd HBD.out)
      go_wp2_with fail
      refine HCv12.out.mono ?_
      rintro e v12 ⟨rfl, rfl⟩
      clear HCv12
      go_wp2_with fail
      refine ⟨HBD.out, ?_⟩
      refine plan_turn ?_
      have HCv13 := zh (HHD.out wd HBD.out)
      go_wp2_with fail
      refine HCv13.out.mono ?_
      rintro e v13 ⟨rfl, hbv13⟩
      have HEv13 : Hid (Below w8.heap.size w8 v13) := zh (HBD.out.trans (hbv13.mono HBD.out.size))
      clear hbv13 HCv13
      go_wp2_with fail
      refine ⟨HEv13.out, ?_⟩
      cases a with
      | true =>
       as_aux_lemma =>
        repeat (first | (refine plan_on _ (by rfl) (fun W hW => by (obtain ⟨i0, i1, i2, i3, i4, i5, i6, f0, f1, f2, f3, f4, f5, f6, f7, f8, f9, f10, f11, k3, k5, x0⟩ := HSC.out W hW; go_simp; try with_reducible rfl)) ?_; simp only [Act.put, xq1, xq2, xq3]) | (refine plan_off (by rfl) ?_; simp only [Act.put, xq1, xq2, xq3]))
        refine plan_turn ?_
        go_wp2_with fail
        refine ⟨HEv13.out, ?_⟩
        repeat (first | (refine plan_on _ (by rfl) (fun W hW => by (obtain ⟨i0, i1, i2, i3, i4, i5, i6, f0, f1, f2, f3, f4, f5, f6, f7, f8, f9, f10, f11, k3, k5, x0⟩ := HSC.out W hW; go_simp; try with_reducible rfl)) ?_; simp only [Act.put, xq1, xq2, xq3]) | (refine plan_off (by rfl) ?_; simp only [Act.put, xq1, xq2, xq3]))
        refine plan_turn ?_
        go_wp2_with fail
        refine ⟨HEv13.out, ?_⟩
        repeat (first | (refine plan_on _ (by rfl) (fun W hW => by (obtain ⟨i0, i1, i2, i3, i4, i5, i6, f0, f1, f2, f3, f4, f5, f6, f7, f8, f9, f10, f11, k3, k5, x0⟩ := HSC.out W hW; go_simp; try with_reducible rfl)) ?_; simp only [Act.put, xq1, xq2, xq3]) | (refine plan_off (by rfl) ?_; simp only [Act.put, xq1, xq2, xq3]))
        refine plan_turn ?_
        go_wp2_with fail
        refine ⟨HEv13.out, ?_⟩
        repeat (first | (refine plan_on _ (by rfl) (fun W hW => by (obtain ⟨i0, i1, i2, i3, i4, i5, i6, f0, f1, f2, f3, f4, f5, f6, f7, f8, f9, f10, f11, k3, k5, x0⟩ := HSC.out W hW; go_simp; try with_reducible rfl)) ?_; simp only [Act.put, xq1, xq2, xq3]) | (refine plan_off (by rfl) ?_; simp only [Act.put, xq1, xq2, xq3]))
        refine plan_turn ?_
        go_wp2_with fail
        refine ⟨HEv13.out, ?_⟩
        repeat (first | (refine plan_on _ (by rfl) (fun W hW => by (obtain ⟨i0, i1, i2, i3, i4, i5, i6, f0, f1, f2, f3, f4, f5, f6, f7, f8, f9, f10, f11, k3, k5, x0⟩ := HSC.out W hW; go_simp; try with_reducible rfl)) ?_; simp only [Act.put, xq1, xq2, xq3]) | (refine plan_off (by rfl) ?_; simp only [Act.put, xq1, xq2, xq3]))
        refine plan_turn ?_
        go_wp2_with fail
        refine ⟨HEv13.out, ?_⟩
        repeat (first | (refine plan_on _ (by rfl) (fun W hW => by (obtain ⟨i0, i1, i2, i3, i4, i5, i6, f0, f1, f2, f3, f4, f5, f6, f7, f8, f9, f10, f11, k3, k5, x0⟩ := HSC.out W hW; go_simp; try with_reducible rfl)) ?_; simp only [Act.put, xq1, xq2, xq3]) | (refine plan_off (by rfl) ?_; simp only [Act.put, xq1, xq2, xq3]))
        refine plan_turn ?_
        go_wp2_with fail
        refine ⟨HEv13.out, ?_⟩
        repeat (first | (refine plan_on _ (by rfl) (fun W hW => by (obtain ⟨i0, i1, i2, i3, i4, i5, i6, f0, f1, f2, f3, f4, f5, f6, f7, f8, f9, f10, f11, k3, k5, x0⟩ := HSC.out W hW; go_simp; try with_reducible rfl)) ?_; simp only [Act.put, xq1, xq2, xq3]) | (refine plan_off (by rfl) ?_; simp only [Act.put, xq1, xq2, xq3]))
        refine plan_done ?_
        go_wp2_with fail
        go_meet
        exact ⟨by rw [HG.out]; rfl, HEv13⟩
      | false =>
       as_aux_lemma =>
        repeat (first | (refine plan_on _ (by rfl) (fun W hW => by (obtain ⟨i0, i1, i2, i3, i4, i5, i6, f0, f1, f2, f3, f4, f5, f6, f7, f8, f9, f10, f11, k3, k5, x0⟩ := HSC.out W hW; go_simp; try with_reducible rfl)) ?_; simp only [Act.put, xq1, xq2, xq3]) | (refine plan_off (by rfl) ?_; simp only [Act.put, xq1, xq2, xq3]))
        refine plan_turn ?_
        have HCv14 := zh (HCR.out v13 HEv13.out)
        go_wp2_with fail
        refine HCv14.out.mono ?_
        rintro e v14 ⟨rfl, rfl⟩
        clear HCv14
        go_wp2_with fail
        refine ⟨HEv13.out, ?_⟩
        refine plan_turn ?_
        have HCv15 := zh (HMU.out v13 HEv13.out)
        go_wp2_with fail
        refine HCv15.out.mono ?_
        rintro e v15 ⟨A6, c6, ks, rfl, h1, h2, h3, h4⟩
        have HEv15 : Hid (Below w8.heap.size w8 v15) := zh (HEv13.out.trans (h4.mono HEv13.out.size))
        have HCT := zh (rin_any v15 v15.heap.size A6 ks ks.length c6 it.maker rfl h2 (by omega))
        rw [h1] at HCT
        clear h1 h2 h3 h4 HCv15
        go_wp2_with fail
        refine ⟨HEv15.out, ?_⟩
        refine plan_turn ?_
        go_wp2_with fail
        refine HCT.out.mono ?_
        rintro e w12 ⟨rfl, rfl⟩
        clear HCT
        go_wp2_with fail
        refine ⟨HEv15.out, ?_⟩
        cases mu with
        | true =>
         as_aux_lemma =>
          repeat (first | (refine plan_on _ (by rfl) (fun W hW => by (obtain ⟨i0, i1, i2, i3, i4, i5, i6, f0, f1, f2, f3, f4, f5, f6, f7, f8, f9, f10, f11, k3, k5, x0⟩ := HSC.out W hW; go_simp; try with_reducible rfl)) ?_; simp only [Act.put, xq1, xq2, xq3]) | (refine plan_off (by rfl) ?_; simp only [Act.put, xq1, xq2, xq3]))
          refine plan_turn ?_
          go_wp2_with fail
          refine ⟨HEv15.out, ?_⟩
          repeat (first | (refine plan_on _ (by rfl) (fun W hW => by (obtain ⟨i0, i1, i2, i3, i4, i5, i6, f0, f1, f2, f3, f4, f5, f6, f7, f8, f9, f10, f11, k3, k5, x0⟩ := HSC.out W hW; go_simp; try with_reducible rfl)) ?_; simp only [Act.put, xq1, xq2, xq3]) | (refine plan_off (by rfl) ?_; simp only [Act.put, xq1, xq2, xq3]))
          refine plan_turn ?_
          go_wp2_with fail
          refine ⟨HEv15.out, ?_⟩
          repeat (first | (refine plan_on _ (by rfl) (fun W hW => by (obtain ⟨i0, i1, i2, i3, i4, i5, i6, f0, f1, f2, f3, f4, f5, f6, f7, f8, f9, f10, f11, k3, k5, x0⟩ := HSC.out W hW; go_simp; try with_reducible rfl)) ?_; simp only [Act.put, xq1, xq2, xq3]) | (refine plan_off (by rfl) ?_; simp only [Act.put, xq1, xq2, xq3]))
          refine plan_turn ?_
          go_wp2_with fail
          refine ⟨HEv15.out, ?_⟩
          repeat (first | (refine plan_on _ (by rfl) (fun W hW => by (obtain ⟨i0, i1, i2, i3, i4, i5, i6, f0, f1, f2, f3, f4, f5, f6, f7, f8, f9, f10, f11, k3, k5, x0⟩ := HSC.out W hW; go_simp; try with_reducible rfl)) ?_; simp only [Act.put, xq1, xq2, xq3]) | (refine plan_off (by rfl) ?_; simp only [Act.put, xq1, xq2, xq3]))
          refine plan_done ?_
          go_wp2_with fail
          go_meet
          exact ⟨by rw [HG.out]; rfl, HEv15⟩
        | false =>
         as_aux_lemma =>
          repeat (first | (refine plan_on _ (by rfl) (fun W hW => by (obtain ⟨i0, i1, i2, i3, i4, i5, i6, f0, f1, f2, f3, f4, f5, f6, f7, f8, f9, f10, f11, k3, k5, x0⟩ := HSC.out W hW; go_simp; try with_reducible rfl)) ?_; simp only [Act.put, xq1, xq2, xq3]) | (refine plan_off (by rfl) ?_; simp only [Act.put, xq1, xq2, xq3]))
          refine plan_turn ?_
          have HCv16 := zh (HCR.out v15 HEv15.out)
          go_wp2_with fail
          refine HCv16.out.mono ?_
          rintro e v16 ⟨rfl, rfl⟩
          clear HCv16
          go_wp2_with fail
          refine ⟨HEv15.out, ?_⟩
          refine plan_turn ?_
          have HCv17 := zh (HDN.out v15 HEv15.out)
          go_wp2_with fail
          refine HCv17.out.mono ?_
          rintro e v17 ⟨rfl, hbv17⟩
          have HEv17 : Hid (Below w8.heap.size w8 v17) := zh (HEv15.out.trans (hbv17.mono HEv15.out.size))
          clear hbv17 HCv17
          go_wp2_with fail
          refine ⟨HEv17.out, ?_⟩
          cases dn with
          | true =>
           as_aux_lemma =>
            repeat (first | (refine plan_on _ (by rfl) (fun W hW => by (obtain ⟨i0, i1, i2, i3, i4, i5, i6, f0, f1, f2, f3, f4, f5, f6, f7, f8, f9, f10, f11, k3, k5, x0⟩ := HSC.out W hW; go_simp; try with_reducible rfl)) ?_; simp only [Act.put, xq1, xq2, xq3]) | (refine plan_off (by rfl) ?_; simp only [Act.put, xq1, xq2, xq3]))
            refine plan_turn ?_
            go_wp2_with fail
            refine ⟨HEv17.out, ?_⟩
            repeat (first | (refine plan_on _ (by rfl) (fun W hW => by (obtain ⟨i0, i1, i2, i3, i4, i5, i6, f0, f1, f2, f3, f4, f5, f6, f7, f8, f9, f10, f11, k3, k5, x0⟩ := HSC.out W hW; go_simp; try with_reducible rfl)) ?_; simp only [Act.put, xq1, xq2, xq3]) | (refine plan_off (by rfl) ?_; simp only [Act.put, xq1, xq2, xq3]))
            refine plan_done ?_
            go_wp2_with fail
            go_meet
            exact ⟨by rw [HG.out]; rfl, HEv17⟩
          | false =>
           as_aux_lemma =>
            cases q with
            | none =>
             as_aux_lemma =>
              obtain rfl : hk = true := HQ.out rfl
              have hF := HFC.out
              cases fc with
              | true =>
               have hF := HFC.out
               have hA := HAS.out
               repeat (first | (refine plan_on _ (by rfl) (fun W hW => by (obtain ⟨i0, i1, i2, i3, i4, i5, i6, f0, f1, f2, f3, f4, f5, f6, f7, f8, f9, f10, f11, k3, k5, x0⟩ := HSC.out W hW; go_simp; try with_reducible rfl)) ?_; simp only [Act.put, xq1, xq2, xq3]) | (refine plan_off (by rfl) ?_; simp only [Act.put, xq1, xq2, xq3]))
               refine plan_turn ?_
               go_wp2_with fail
               refine ⟨HEv17.out, ?_⟩
               repeat (first | (refine plan_on _ (by rfl) (fun W hW => by (obtain ⟨i0, i1, i2, i3, i4, i5, i6, f0, f1, f2, f3, f4, f5, f6, f7, f8, f9, f10, f11, k3, k5, x0⟩ := HSC.out W hW; go_simp; try with_reducible rfl)) ?_; simp only [Act.put, xq1, xq2, xq3]) | (refine plan_off (by rfl) ?_; simp only [Act.put, xq1, xq2, xq3]))
               refine plan_done ?_
               go_wp2_with fail
               go_meet
               exact ⟨by rw [HG.out]; rfl, HEv17⟩
              | false =>
               have hF := HFC.out
               have hA := HAS.out
               repeat (first | (refine plan_on _ (by rfl) (fun W hW => by (obtain ⟨i0, i1, i2, i3, i4, i5, i6, f0, f1, f2, f3, f4, f5, f6, f7, f8, f9, f10, f11, k3, k5, x0⟩ := HSC.out W hW; go_simp; try with_reducible rfl)) ?_; simp only [Act.put, xq1, xq2, xq3]) | (refine plan_off (by rfl) ?_; simp only [Act.put, xq1, xq2, xq3]))
               refine plan_turn ?_
               go_wp2_with fail
               refine ⟨HEv17.out, ?_⟩
               repeat (first | (refine plan_on _ (by rfl) (fun W hW => by (obtain ⟨i0, i1, i2, i3, i4, i5, i6, f0, f1, f2, f3, f4, f5, f6, f7, f8, f9, f10, f11, k3, k5, x0⟩ := HSC.out W hW; go_simp; try with_reducible rfl)) ?_; simp only [Act.put, xq1, xq2, xq3]) | (refine plan_off (by rfl) ?_; simp only [Act.put, xq1, xq2, xq3]))
               refine plan_done ?_
               go_wp2_with fail
               go_meet
               exact ⟨by rw [HG.out]; rfl, HEv17⟩
            | some qa =>
             as_aux_lemma =>
              obtain ⟨gq, oq, mq⟩ := qa
              repeat (first | (refine plan_on _ (by rfl) (fun W hW => by (obtain ⟨i0, i1, i2, i3, i4, i5, i6, f0, f1, f2, f3, f4, f5, f6, f7, f8, f9, f10, f11, k3, k5, x0⟩ := HSC.out W hW; go_simp; try with_reducible rfl)) ?_; simp only [Act.put, xq1, xq2, xq3]) | (refine plan_off (by rfl) ?_; simp only [Act.put, xq1, xq2, xq3]))
              refine plan_turn ?_
              have HCv18 := zh (HHO.out v17 HEv17.out)
              go_wp2_with fail
              refine HCv18.out.mono ?_
              rintro e v18 ⟨rfl, hbv18⟩
              have HEv18 : Hid (Below w8.heap.size w8 v18) := zh (HEv17.out.trans (hbv18.mono HEv17.out.size))
              clear hbv18 HCv18
              go_wp2_with fail
              refine ⟨HEv18.out, ?_⟩
              cases hk with
              | true =>
               as_aux_lemma =>
                cases fc with
                | true =>
                 as_aux_lemma =>
                  have hF := HFC.out
                  have hA := HAS.out
                  repeat (first | (refine plan_on _ (by rfl) (fun W hW => by (obtain ⟨i0, i1, i2, i3, i4, i5, i6, f0, f1, f2, f3, f4, f5, f6, f7, f8, f9, f10, f11, k3, k5, x0⟩ := HSC.out W hW; go_simp; try with_reducible rfl)) ?_; simp only [Act.put, xq1, xq2, xq3]) | (refine plan_off (by rfl) ?_; simp only [Act.put, xq1, xq2, xq3]))
                  refine plan_done ?_
                  go_wp2_with fail
                  go_meet
                  exact ⟨by rw [HG.out]; rfl, HEv18⟩
                | false =>
                 as_aux_lemma =>
                  have hF := HFC.out
                  have hA := HAS.out
                  repeat (first | (refine plan_on _ (by rfl) (fun W hW => by (obtain ⟨i0, i1, i2, i3, i4, i5, i6, f0, f1, f2, f3, f4, f5, f6, f7, f8, f9, f10, f11, k3, k5, x0⟩ := HSC.out W hW; go_simp; try with_reducible rfl)) ?_; simp only [Act.put, xq1, xq2, xq3]) | (refine plan_off (by rfl) ?_; simp only [Act.put, xq1, xq2, xq3]))
                  refine plan_done ?_
                  go_wp2_with fail
                  go_meet
                  exact ⟨by rw [HG.out]; rfl, HEv18⟩
              | false =>
               as_aux_lemma =>
                repeat (first | (refine plan_on _ (by rfl) (fun W hW => by (obtain ⟨i0, i1, i2, i3, i4, i5, i6, f0, f1, f2, f3, f4, f5, f6, f7, f8, f9, f10, f11, k3, k5, x0⟩ := HSC.out W hW; go_simp; try with_reducible rfl)) ?_; simp only [Act.put, xq1, xq2, xq3]) | (refine plan_off (by rfl) ?_; simp only [Act.put, xq1, xq2, xq3]))
                refine plan_done ?_
                go_wp2_with fail
                go_meet
                exact ⟨by rw [HG.out]; rfl, HEv18⟩
    | false =>
     as_aux_lemma =>
      have hS := HST.out
      repeat (first | (refine plan_on _ (by rfl) (fun W hW => by (obtain ⟨i0, i1, i2, i3, i4, i5, i6, f0, f1, f2, f3, f4, f5, f6, f7, f8, f9, f10, f11, k3, k5, x0⟩ := HSC.out W hW; go_simp; try with_reducible rfl)) ?_; simp only [Act.put, xq1, xq2, xq3]) | (refine plan_off (by rfl) ?_; simp only [Act.put, xq1, xq2, xq3]))
      refine plan_turn ?_
      go_wp2_with fail
      refine ⟨HBD.out, ?_⟩
      repeat (first | (refine plan_on _ (by rfl) (fun W hW => by (obtain ⟨i0, i1, i2, i3, i4, i5, i6, f0, f1, f2, f3, f4, f5, f6, f7, f8, f9, f10, f11, k3, k5, x0⟩ := HSC.out W hW; go_simp; try with_reducible rfl)) ?_; simp only [Act.put, xq1, xq2, xq3]) | (refine plan_off (by rfl) ?_; simp only [Act.put, xq1, xq2, xq3]))
      refine plan_turn ?_
      go_wp2_with fail
      refine ⟨HBD.out, ?_⟩
      repeat (first | (refine plan_on _ (by rfl) (fun W hW => by (obtain ⟨i0, i1, i2, i3, i4, i5, i6, f0, f1, f2, f3, f4, f5, f6, f7, f8, f9, f10, f11, k3, k5, x0⟩ := HSC.out W hW; go_simp; try with_reducible rfl)) ?_; simp only [Act.put, xq1, xq2, xq3]) | (refine plan_off (by rfl) ?_; simp only [Act.put, xq1, xq2, xq3]))
      refine plan_turn ?_
      go_wp2_with fail
      refine ⟨HBD.out, ?_⟩
      repeat (first | (refine plan_on _ (by rfl) (fun W hW => by (obtain ⟨i0, i1, i2, i3, i4, i5, i6, f0, f1, f2, f3, f4, f5, f6, f7, f8, f9, f10, f11, k3, k5, x0⟩ := HSC.out W hW; go_simp; try with_reducible rfl)) ?_; simp only [Act.put, xq1, xq2, xq3]) | (refine plan_off (by rfl) ?_; simp only [Act.put, xq1, xq2, xq3]))
      refine plan_turn ?_
      go_wp2_with fail
      refine ⟨HBD.out, ?_⟩
      repeat (first | (refine plan_on _ (by rfl) (fun W hW => by (obtain ⟨i0, i1, i2, i3, i4, i5, i6, f0, f1, f2, f3, f4, f5, f6, f7, f8, f9, f10, f11, k3, k5, x0⟩ := HSC.out W hW; go_simp; try with_reducible rfl)) ?_; simp only [Act.put, xq1, xq2, xq3]) | (refine plan_off (by rfl) ?_; simp only [Act.put, xq1, xq2, xq3]))
      refine plan_turn ?_
      go_wp2_with fail
      refine ⟨HBD.out, ?_⟩
      repeat (first | (refine plan_on _ (by rfl) (fun W hW => by (obtain ⟨i0, i1, i2, i3, i4, i5, i6, f0, f1, f2, f3, f4, f5, f6, f7, f8, f9, f10, f11, k3, k5, x0⟩ := HSC.out W hW; go_simp; try with_reducible rfl)) ?_; simp only [Act.put, xq1, xq2, xq3]) | (refine plan_off (by rfl) ?_; simp only [Act.put, xq1, xq2, xq3]))
      refine plan_turn ?_
      go_wp2_with fail
      refine ⟨HBD.out, ?_⟩
      repeat (first | (refine plan_on _ (by rfl) (fun W hW => by (obtain ⟨i0, i1, i2, i3, i4, i5, i6, f0, f1, f2, f3, f4, f5, f6, f7, f8, f9, f10, f11, k3, k5, x0⟩ := HSC.out W hW; go_simp; try with_reducible rfl)) ?_; simp only [Act.put, xq1, xq2, xq3]) | (refine plan_off (by rfl) ?_; simp only [Act.put, xq1, xq2, xq3]))
      refine plan_turn ?_
      go_wp2_with fail
      refine ⟨HBD.out, ?_⟩
      repeat (first | (refine plan_on _ (by rfl) (fun W hW => by (obtain ⟨i0, i1, i2, i3, i4, i5, i6, f0, f1, f2, f3, f4, f5, f6, f7, f8, f9, f10, f11, k3, k5, x0⟩ := HSC.out W hW; go_simp; try with_reducible rfl)) ?_; simp only [Act.put, xq1, xq2, xq3]) | (refine plan_off (by rfl) ?_; simp only [Act.put, xq1, xq2, xq3]))
      refine plan_turn ?_
      go_wp2_with fail
      refine ⟨HBD.out, ?_⟩
      repeat (first | (refine plan_on _ (by rfl) (fun W hW => by (obtain ⟨i0, i1, i2, i3, i4, i5, i6, f0, f1, f2, f3, f4, f5, f6, f7, f8, f9, f10, f11, k3, k5, x0⟩ := HSC.out W hW; go_simp; try with_reducible rfl)) ?_; simp only [Act.put, xq1, xq2, xq3]) | (refine plan_off (by rfl) ?_; simp only [Act.put, xq1, xq2, xq3]))
      refine plan_done ?_
      go_wp2_with fail
      go_meet
      exact ⟨by rw [HG.out]; rfl, HBD⟩
   case rest =>
   obtain ⟨rfl, HB9⟩ := hcut
   obtain ⟨w9, rfl⟩ : ∃ z : World, z = wc := ⟨_, rfl⟩
   have HB69 : Hid (Below w6.heap.size w6 w9) := zh (HB8.out.trans (HB9.out.mono HB8.out.size))
   clear HCR HHD HMU HDN HHO HSC HX8 HF8 HG HST HFC HAS
   go_upto_region 18 with fail
   go_cut [22] (fun v wx => v = .bool b ∧ Hid (Below w6.heap.size w6 wx))
   case first =>
    as_aux_lemma =>
    refine wp_plan (fun W => Below w6.heap.size w6 W) [(0, false), (1, false), (2, false), (3, false), (4, false), (5, false), (6, false), (7, false), (8, false), (9, false), (10, false), (11, false), (12, false), (13, false), (14, false), (15, false)] (by kernel_rfl) (by kernel_rfl) (below_drew HB69.out) ?_
    simp only [planL, List.getElem?_cons_zero, List.getElem?_cons_succ]
    obtain ⟨wd, hwd⟩ : ∃ z, w9.drew = z := ⟨_, rfl⟩
    have HBD : Hid (Below w6.heap.size w6 wd) := zh (by rw [← hwd]; exact below_drew HB69.out)
    rw [hwd]
    clear hwd
    by_cases hjn : j < np
    ·obtain ⟨y, hy⟩ : ∃ y, (passL F nl)[j]? = some y := ⟨(passL F nl)[j]'(by rw [HNP.out]; exact hjn), List.getElem?_eq_getElem _⟩
     obtain ⟨gp, op, rfl, hgp, hcp⟩ := HRP.out.at (by omega)
     have HPC : Hid (∀ W, Below w6.heap.size w6 W → World.cell? W ⟨gp, op + j, none⟩ = some (Value.string y)) := zh (fun W hW => (hW.cell (p := ⟨gp, op + j, none⟩) hgp).trans (hcp j _ (by simp [hy])))
     have hj8 : (j : Int) < (np : Int) := by omega
     have hj9 : (0 : Int) ≤ (j : Int) := by omega
     have hjd : decide ((j : Int) < (np : Int)) = true := decide_eq_true hj8
     have hyx : (y.toList == x.toList) = b := by
      have h1 := HPA.out
      rw [hjl.out, hy] at h1
      rw [← HBX.out, str_eqB]
      rw [Bool.eq_iff_iff]
      simp only [decide_eq_true_eq]
      exact ⟨fun e => h1.1 (by rw [e]), fun e => Option.some.inj (h1.2 e)⟩
     clear hcp hy
     repeat (first | (refine plan_on _ (by rfl) (fun W hW => by (have x0 := HNC.out W hW; try (have x1 := HPC.out W hW); go_simp; try with_reducible rfl)) ?_; simp only [Act.put, xq1, xq2, xq3]) | (refine plan_off (by rfl) ?_; simp only [Act.put, xq1, xq2, xq3]))
     refine plan_done ?_
     go_wp2_with fail
     go_meet
     exact ⟨rfl, HBD⟩
    ·have hjd : decide ((j : Int) < (np : Int)) = false := decide_eq_false (by omega)
     have hje : ¬ (j : Int) < (np : Int) := by omega
     have hjf : decide (j < np) = false := decide_eq_false hjn
     have hb0 : b = false := by
      have h1 := HPA.out
      rw [hjl.out, List.getElem?_eq_none (by rw [HNP.out]; omega)] at h1
      rw [← HBX.out]
      exact decide_eq_false (fun e => by have := h1.2 e; cases this)
     subst hb0
     repeat (first | (refine plan_on _ (by rfl) (fun W hW => by (have x0 := HNC.out W hW; go_simp; try with_reducible rfl)) ?_; simp only [Act.put, xq1, xq2, xq3]) | (refine plan_off (by rfl) ?_; simp only [Act.put, xq1, xq2, xq3]))
     refine plan_done ?_
     go_wp2_with fail
     go_meet
     exact ⟨rfl, HBD⟩
   case rest =>
   obtain ⟨rfl, HB10⟩ := hcut
   obtain ⟨w10, rfl⟩ : ∃ z : World, z = wc := ⟨_, rfl⟩
   have hj40 : j ≤ 40 := by omega
   cases b with
   | true =>
    have HPP : Hid ((passL F (nl.take (k + 1))).length = j + 1) := zh (by rw [HPN.out, if_pos (of_decide_eq_true HBX.out), List.length_append, hjl.out]; rfl)
    have hjp : j + 1 ≤ np := by
     have h1 := HPA.out.2 (of_decide_eq_true HBX.out)
     rw [hjl.out] at h1
     have := (List.getElem?_eq_some_iff.1 h1).1
     rw [HNP.out] at this
     omega
    go_wp2_with fail
    go_roundw
    case rel => exact ⟨k + 1, j + 1, by omega, hjp, by go_num, by go_num, HPP, HB10⟩
    case measure => simp [intOf]; omega
   | false =>
    have HPP : Hid ((passL F (nl.take (k + 1))).length = j) := zh (by rw [HPN.out, if_neg (of_decide_eq_false HBX.out), List.append_nil]; exact hjl.out)
    go_wp2_with fail
    go_roundw
    case rel => exact ⟨k + 1, j, by omega, hj, by go_num, rfl, HPP, HB10⟩
    case measure => simp [intOf]; omega
  ·obtain rfl : nn = k := by omega
   have hjj : j = np := by
    have h1 := hjl.out
    rw [show nl.take nn = nl by rw [← HNN.out, List.take_length], HNP.out] at h1
    exact h1.symm
   subst hjj
   have hqq : ((j : Int) == (j : Int)) = true := beq_self_eq_true _
   go_wp2_with fail
   go_ret
   exact ⟨rfl, HBF.out wr (H46.out wr hbw.out)⟩
end Go.Proofs.YthdmpcnnbminlaaGreatDoor
