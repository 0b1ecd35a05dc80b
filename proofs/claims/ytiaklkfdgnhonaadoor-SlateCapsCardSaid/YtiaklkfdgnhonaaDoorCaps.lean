/- SlateCaps: the walk. -/
import Derived.Test.YtiaklkfdgnhonaaDoorCapsP
namespace Go.Proofs.YtiaklkfdgnhonaaDoor
open Go.Shelf Go.RowKit Go.Lib Go.Sort Go.Maps
set_option linter.unusedVariables false

theorem mk_int {v : Value} (h : okInt v = true) : ∃ c : Int, v = .int .i64 c := by
  cases v <;> try cases h
  rename_i k n
  cases k <;> first | exact ⟨n, rfl⟩ | cases h

set_option maxHeartbeats 4000000 in
set_option maxRecDepth 100000 in
theorem slateCaps_walk (A : Option Addr) (n c : Nat) (l : List Ch) (cp : Cp) (w : World) (ha : ChArg w A n c l) (hg : GlobAt w) :
    Calls Tryd.prog 4 #[.slice A n c, .agg #[.int .i64 cp.size, .int .i64 cp.maker, .int .i64 cp.tag]] w fun e w' => e = .returned (.bool true) ∧ Below w.heap.size w w' := by
  have hmm := @run_makeMap Tryd.prog
  have HA := Lib.hid ha
  have HG := Lib.hid hg
  clear ha hg
  obtain ⟨w0, hw0⟩ : ∃ w0, w.alloc (.cells #[.int .i64 cp.size, .int .i64 cp.maker, .int .i64 cp.tag] 28) = w0 := ⟨_, rfl⟩
  have hb0 : Below w.heap.size w w0 := by rw [← hw0]; exact (Below.refl _ _).alloc (Nat.le_refl _) _
  have bc : Blk w0 w.heap.size 28 #[.int .i64 cp.size, .int .i64 cp.maker, .int .i64 cp.tag] := by rw [← hw0]; exact Blk.new _ _ _
  have hl0 : ChsAt w0 w.heap.size A l := HA.out.at_.below hb0
  have HLG := Lib.hid (long_any w0 w.heap.size A l n c HA.out.len hl0 hb0.size HA.out.few HA.out.size)
  have hz0 := bc.lt
  have HC0 := Lib.hid bc
  clear bc
  go_enter Tryd.func4, Tryd.ntmps4
  go_wp2_with fail
  clear hw0
  refine HLG.out.mono ?_
  rintro e w1 ⟨r, rfl, hr, hb1'⟩
  have hb1 : Below w.heap.size w w1 := hb0.trans (hb1'.mono hb0.size)
  have bc1 : Blk w1 w.heap.size 28 #[.int .i64 cp.size, .int .i64 cp.maker, .int .i64 cp.tag] := (hb1'.block _ hz0).trans HC0.out
  have hl1 : ChsAt w1 w.heap.size A l := hl0.below (hb1'.mono hb0.size)
  have q0 : w1.cell? ⟨w.heap.size, 0, none⟩ = some (.int .i64 cp.size) := bc1.cell 0
  have q1 : w1.cell? ⟨w.heap.size, 1, none⟩ = some (.int .i64 cp.maker) := bc1.cell 1
  have q2 : w1.cell? ⟨w.heap.size, 2, none⟩ = some (.int .i64 cp.tag) := bc1.cell 2
  have HC1 := Lib.hid bc1
  clear HLG HC0 hb1' hb0 hl0 bc1 hz0
  cases r
  · have hs := hr rfl
    have hn40 : n ≤ 40 := by rw [← HA.out.len]; exact hs.1
    have HOK := Lib.hid hs.okc
    have HM := Lib.hid (make_any w1 w.heap.size A l n c cp HA.out.len hl1 hb1.size HA.out.nil (by omega) hs.okc (HG.out.keep hb1 (Nat.le_refl _)))
    clear hr hs
    go_wp2_with fail
    refine HM.out.mono ?_
    rintro e w2 ⟨v2, rfl, hown2, hb2⟩
    obtain ⟨A2, c2, rfl⟩ := own_shape hown2
    have HB2 : Hid (Below w.heap.size w w2) := Lib.hid (hb1.trans (hb2.mono hb1.size))
    have bc2 : Blk w2 w.heap.size 28 #[.int .i64 cp.size, .int .i64 cp.maker, .int .i64 cp.tag] := (hb2.block _ HC1.out.lt).trans HC1.out
    have HS2 := Lib.hid (fun h => own_at hown2 h rfl)
    have hml : (makeP cp l).length ≤ n := by rw [← HA.out.len]; exact makeP_len cp l
    have HOM : Hid (Okc (makeP cp l)) := Lib.hid (fun x hx => HOK.out x ((rankP_is l).mem x |>.1 ((makeP_sub cp l).subset hx)).1)
    have hsz := make_size cp l
    have HONE : Hid (∀ k b, nIt ((makeP cp l).take k) b ≤ 1) := Lib.hid (fun k b => nIt_one ((make_items cp l).sublist (List.take_sublist _ _)) b)
    have HCAPM : Hid (1 ≤ cp.maker → ∀ k b, (nMa ((makeP cp l).take k) b : Int) ≤ cp.maker) := Lib.hid (fun h k b => by have h1 := nMa_cap cp l h b; have h2 := nMa_le (makeP cp l) k b; omega)
    have HCAPT : Hid (1 ≤ cp.tag → ∀ t, (nTg (makeP cp l) t : Int) ≤ cp.tag) := Lib.hid (fun h t => nTg_cap cp l h t)
    clear HM q0 q1 q2 HC1 hl1
    have q0 : w2.cell? ⟨w.heap.size, 0, none⟩ = some (.int .i64 cp.size) := bc2.cell 0
    have HC2 := Lib.hid bc2
    have zc2 := bc2.lt
    have zb2 := hb1.size
    generalize makeP cp l = S at *
    obtain ⟨m, hm⟩ : ∃ m, S.length = m := ⟨_, rfl⟩
    have HMM := Lib.hid hm
    rw [hm] at hml HS2 hsz ⊢
    have hgt : decide (max cp.size 0 < (m : Int)) = false := decide_eq_false (by omega)
    obtain ⟨mx, hmx⟩ : ∃ mx : Int, max cp.size 0 = mx := ⟨_, rfl⟩
    rw [hmx] at hsz hgt
    obtain ⟨wa, hwa⟩ : ∃ wa, w2.alloc (.map #[] 0) = wa := ⟨_, rfl⟩
    obtain ⟨wb, hwb⟩ : ∃ wb, wa.alloc (.map #[] 0) = wb := ⟨_, rfl⟩
    obtain ⟨w3, hw3⟩ : ∃ w3, wb.alloc (.map #[] 0) = w3 := ⟨_, rfl⟩
    have HMI : Hid (MapIs Tryd.prog 9 okInt w3 w2.heap.size 0 (fun _ => none)) := Lib.hid (by rw [← hw3, ← hwb, ← hwa]; exact ((MapIs.made _ _ _ _).alloc _).alloc _)
    have HMMa : Hid (MapIs Tryd.prog 9 okInt w3 wa.heap.size 0 (fun _ => none)) := Lib.hid (by rw [← hw3, ← hwb]; exact (MapIs.made _ _ _ _).alloc _)
    have HMT : Hid (MapIs Tryd.prog 9 okInt w3 wb.heap.size 0 (fun _ => none)) := Lib.hid (by rw [← hw3]; exact MapIs.made _ _ _ _)
    have za : w2.heap.size < wa.heap.size := by rw [← hwa]; simp
    have zb : wa.heap.size < wb.heap.size := by rw [← hwb]; simp
    have z3 : wb.heap.size < w3.heap.size := by rw [← hw3]; simp
    have hB3 : Below w2.heap.size w2 w3 := by
      rw [← hw3, ← hwb, ← hwa]
      exact (((Below.refl _ _).alloc (Nat.le_refl _) _).alloc (by simp) _).alloc (by simp; omega) _
    have HB3 : Hid (Below w.heap.size w w3) := Lib.hid (HB2.out.trans (hB3.mono HB2.out.size))
    have HC3 : Hid (Blk w3 w.heap.size 28 #[.int .i64 cp.size, .int .i64 cp.maker, .int .i64 cp.tag]) := Lib.hid ((hB3.block _ zc2).trans HC2.out)
    have HS3 : Hid (0 < m → ∃ g, A2 = some ⟨g, 0, none⟩ ∧ w1.heap.size ≤ g ∧ g < w2.heap.size ∧ ∀ i x, S[i]? = some x → ChAt w3 g (i * 4) x) := Lib.hid (fun h => by
      obtain ⟨g, h1, h2, h3, h4⟩ := HS2.out h
      exact ⟨g, h1, h2, h3, fun i x hx => (h4 i x hx).keep (fun j => hB3.cell (p := ⟨g, j, none⟩) h3)⟩)
    clear hown2 hb2 HC2 bc2 HS2 hm
    go_wp2_with fail
    generalize w2.heap.size = mi at *
    generalize wa.heap.size = mm at *
    generalize wb.heap.size = mt at *
    clear hwa hwb hw3 hB3 hmx hgt q0
    go_loopw [32] (fun kv wr => ∃ (k cI cM cT : Nat) (MI MM MT : Lit → Option Value), k ≤ m ∧ kv = .int .i64 k ∧ cI ≤ k ∧ cM ≤ k ∧ cT ≤ k * 310 ∧ Hid (CntS MI (nIt (S.take k))) ∧ Hid (CntS MM (nMa (S.take k))) ∧ Hid (CntS MT (nTg (S.take k))) ∧ Hid (MapIs Tryd.prog 9 okInt wr mi cI MI) ∧ Hid (MapIs Tryd.prog 9 okInt wr mm cM MM) ∧ Hid (MapIs Tryd.prog 9 okInt wr mt cT MT) ∧ Hid (Kept (fun q => q = mi ∨ q = mm ∨ q = mt) w3 wr)) (fun kv _ => m - (intOf kv).toNat)
    case atStart => exact ⟨0, 0, 0, 0, _, _, _, Nat.zero_le _, rfl, Nat.le_refl _, Nat.le_refl _, Nat.le_refl _, Lib.hid CntS.none, Lib.hid CntS.none, Lib.hid CntS.none, HMI, HMMa, HMT, Lib.hid (Kept.refl _ _)⟩
    case round =>
      obtain ⟨k, cI, cM, cT, MI, MM, MT, hk, rfl, hcI, hcM, hcT, hMI, hMM, hMT, hI, hM, hT, hkw⟩ := hrel
      obtain ⟨wo, rfl⟩ : ∃ wo : World, wo = wr := ⟨_, rfl⟩
      have zo := hkw.out.size
      by_cases hkl : k < m
      · obtain ⟨x, hx⟩ : ∃ x, S[k]? = some x := ⟨S[k]'(by rw [HMM.out]; exact hkl), List.getElem?_eq_getElem _⟩
        have hxo := HOM.out x (List.mem_of_getElem? hx)
        obtain ⟨g2, rfl, hg21, hg22, hc2⟩ := HS3.out (by omega)
        obtain ⟨e0, e1, e2, e3⟩ : ChAt wo g2 (k * 4) x := (hc2 k x hx).keep (fun j => hkw.out.cell (p := ⟨g2, j, none⟩) (by show g2 < w3.heap.size; omega) (by show ¬ (g2 = mi ∨ g2 = mm ∨ g2 = mt); omega))
        have HTK : Hid (S.take (k + 1) = S.take k ++ [x]) := Lib.hid (by rw [List.take_add_one, hx]; rfl)
        have hk8 : (k : Int) < (m : Int) := by omega
        have hk9 : (0 : Int) ≤ (k : Int) := by omega
        have hzI : x.item.size ≤ maxLen := by unfold maxLen; omega
        have hzM : x.maker.size ≤ maxLen := by unfold maxLen; omega
        obtain ⟨w5, hw5⟩ : ∃ w5, wo.alloc (.cells #[.string x.item, .string x.maker, .string x.tags, .int .i64 x.score] 32) = w5 := ⟨_, rfl⟩
        have bx : Blk w5 wo.heap.size 32 #[.string x.item, .string x.maker, .string x.tags, .int .i64 x.score] := by rw [← hw5]; exact Blk.new _ _ _
        have hI5 : MapIs Tryd.prog 9 okInt w5 mi cI MI := by rw [← hw5]; exact hI.out.alloc _
        have hM5 : MapIs Tryd.prog 9 okInt w5 mm cM MM := by rw [← hw5]; exact hM.out.alloc _
        have hT5 : MapIs Tryd.prog 9 okInt w5 mt cT MT := by rw [← hw5]; exact hT.out.alloc _
        have hk5 : Kept (fun q => q = mi ∨ q = mm ∨ q = mt) w3 w5 := by rw [← hw5]; exact hkw.out.alloc _
        obtain ⟨q, hq⟩ : ∃ q : Int, ((nIt (S.take k) x.item : Nat) : Int) = q := ⟨_, rfl⟩
        have hq0 : 0 ≤ q := by omega
        have hq1 : q ≤ 5000 := by have h1 := nIt_len (S.take k) x.item; have h2 := List.length_take_le k S; omega
        have hlk := hI5.look (string_keyed Tryd.underlying9) Tryd.underlying30 (zeroInt w5) rfl (WideMaps.keyOf_string_mk Tryd.underlying9 hzI)
        rw [hMI.out.get, hq] at hlk
        obtain ⟨w6, hst6, hI6, hg6, hs6⟩ := hI5.store (string_keyed Tryd.underlying9) Tryd.underlying30 (by unfold maxLen; omega) (WideMaps.keyOf_string_mk Tryd.underlying9 hzI) (val := .int .i64 (q + 1)) rfl
        have kk6 : Kept (fun i => i = mi) w5 w6 := (Kept.refl _ _).grown hg6 (fun i hi => by cases hi; exact Or.inl rfl)
        have HCI8 : Hid (CntS (upd MI (.string x.item.data.toList) (.int .i64 (q + 1))) (nIt (S.take (k + 1)))) := Lib.hid (by
          have := hMI.out.bump x.item
          rw [HTK.out, nIt_snoc, ← hq]
          exact this)
        have bx6 := bx.kept kk6 (by omega)
        have hM6 := hM5.kept kk6 (by omega)
        have hT6 := hT5.kept kk6 (by omega)
        have hk6 : Kept (fun q => q = mi ∨ q = mm ∨ q = mt) w3 w6 := hk5.trans' kk6 (fun i _ h => Or.inl h)
        have s0 : w5.cell? ⟨wo.heap.size, 0, none⟩ = some (.string x.item) := bx.cell 0
        have s1 : w6.cell? ⟨wo.heap.size, 1, none⟩ = some (.string x.maker) := bx6.cell 1
        generalize hMI8 : upd MI (.string x.item.data.toList) (.int .i64 (q + 1)) = MI8 at *
        obtain ⟨cI8, hcI8⟩ : ∃ cI8, cI + 1 = cI8 := ⟨_, rfl⟩
        rw [hcI8] at hI6
        have hcI8b : cI8 ≤ k + 1 := by omega
        clear hMI8 hcI8 hc2 hx hI5 hM5 hT5 hk5 bx hq hs6 hg6 kk6
        by_cases hmk : x.maker = ⟨#[]⟩
        · have hmb : (!x.maker.toList.isEmpty) = false := by rw [emp_iff]; simp [hmk]
          have HCM8 : Hid (CntS MM (nMa (S.take (k + 1)))) := Lib.hid (by rw [HTK.out, nMa_skip _ _ hmk]; exact hMM.out)
          have HI7 := Lib.hid hI6
          have HM7 := Lib.hid hM6
          have HT7 := Lib.hid hT6
          have HK7 := Lib.hid hk6
          have hcM8b : cM ≤ k + 1 := by omega
          clear hI6 hM6 hT6 hk6 hmk
          have bx7 : Blk w6 wo.heap.size 32 #[.string x.item, .string x.maker, .string x.tags, .int .i64 x.score] := bx6
          have HX7 := Lib.hid bx7
          have HTG := Lib.hid (tags_any x.tags w6 hxo.2.2)
          have zk7 : w3.heap.size ≤ w6.heap.size := HK7.out.size
          have p1 : w6.cell? ⟨wo.heap.size, 2, none⟩ = some (.string x.tags) := bx7.cell 2
          clear bx7
          go_wp2_with fail
          refine HTG.out.mono ?_
          rintro e w8 ⟨v8, rfl, hown8, hb8⟩
          obtain ⟨A8, c8, rfl⟩ := own_shape hown8
          have HO8 := Lib.hid (own_str_at hown8)
          have hlen := tagsP_len x.tags
          have kk8 : Kept (fun _ => False) w6 w8 := below_kept hb8 (Nat.le_refl _)
          have HI8 : Hid (MapIs Tryd.prog 9 okInt w8 mi cI8 MI8) := Lib.hid (HI7.out.kept kk8 (by simp))
          have HMa8 : Hid (MapIs Tryd.prog 9 okInt w8 mm cM MM) := Lib.hid (HM7.out.kept kk8 (by simp))
          have HT8 : Hid (MapIs Tryd.prog 9 okInt w8 mt cT MT) := Lib.hid (HT7.out.kept kk8 (by simp))
          have HX8 : Hid (Blk w8 wo.heap.size 32 #[.string x.item, .string x.maker, .string x.tags, .int .i64 x.score]) := Lib.hid (HX7.out.kept kk8 (by simp))
          have HK8 : Hid (Kept (fun q => q = mi ∨ q = mm ∨ q = mt) w3 w8) := Lib.hid (HK7.out.trans' kk8 (fun i _ h => h.elim))
          have z8 := hb8.size
          have HTS : Hid (∀ t ∈ tagsP x.tags, t.size ≤ maxLen) := Lib.hid (fun t ht => by have := tagsP_size ht; unfold maxLen; omega)
          have HTN := Lib.hid (tagsP_nodup x.tags)
          have HTF := Lib.hid (nTg_fold (S.take k) x)
          clear HTG hown8 hb8 kk8 HI7 HM7 HT7 HX7 HK7 p1
          generalize tagsP x.tags = L at *
          obtain ⟨NL, hNL⟩ : ∃ N, L.length = N := ⟨_, rfl⟩
          have HNL := Lib.hid hNL
          rw [hNL] at hlen HO8 ⊢
          clear hNL
          go_wp2_with fail
          go_loopw [53] (fun jv wi => ∃ (j cnt : Nat) (M' : Lit → Option Value), j ≤ NL ∧ jv = .int .i64 j ∧ cnt ≤ cT + j ∧ Hid (CntS M' ((L.take j).foldl bumpS (nTg (S.take k)))) ∧ Hid (MapIs Tryd.prog 9 okInt wi mt cnt M') ∧ Hid (Kept (fun q => q = mt) w8 wi)) (fun jv _ => NL - (intOf jv).toNat)
          case atStart => exact ⟨0, cT, MT, Nat.zero_le _, rfl, Nat.le_refl _, hMT, HT8, Lib.hid (Kept.refl _ _)⟩
          case round =>
            obtain ⟨j, cnt, M', hj, rfl, hcj, hM', hmj, hkj⟩ := hrel
            by_cases hjl : j < NL
            · obtain ⟨t, ht⟩ : ∃ t, L[j]? = some t := ⟨L[j]'(by rw [HNL.out]; exact hjl), List.getElem?_eq_getElem _⟩
              obtain ⟨g8, rfl, hg81, hg82, hcl8⟩ := HO8.out (by omega)
              have f0 : wr.cell? ⟨g8, j, none⟩ = some (.string t) := (hkj.out.cell (p := ⟨g8, j, none⟩) hg82 (by show ¬ g8 = mt; omega)).trans (hcl8 j t ht)
              have hts := HTS.out t (List.mem_of_getElem? ht)
              have htk : L.take (j + 1) = L.take j ++ [t] := by rw [List.take_add_one, ht]; rfl
              obtain ⟨q, hq⟩ : ∃ q : Int, (((L.take j).foldl bumpS (nTg (S.take k)) t : Nat) : Int) = q := ⟨_, rfl⟩
              have hq0 : 0 ≤ q := by omega
              have hq1 : q ≤ 5000 := by
                have h1 := foldBumpS (L.take j) (nTg (S.take k)) t (HTN.out.sublist (List.take_sublist _ _))
                have h2 := nTg_len (S.take k) t
                have h3 := List.length_take_le k S
                rw [← hq, h1]
                split <;> omega
              have hlk := hmj.out.look (string_keyed Tryd.underlying9) Tryd.underlying30 (zeroInt wr) rfl (WideMaps.keyOf_string_mk Tryd.underlying9 hts)
              rw [hM'.out.get, hq] at hlk
              obtain ⟨w9, hst, hm9, hg9, hs9⟩ := hmj.out.store (string_keyed Tryd.underlying9) Tryd.underlying30 (by unfold maxLen; omega) (WideMaps.keyOf_string_mk Tryd.underlying9 hts) (val := .int .i64 (q + 1)) rfl
              have HM9 := Lib.hid hm9
              have HG9 := Lib.hid hg9
              have HC9 : Hid (CntS (upd M' (.string t.data.toList) (.int .i64 (q + 1))) ((L.take (j + 1)).foldl bumpS (nTg (S.take k)))) := Lib.hid (by
                have := hM'.out.bump t
                rw [htk, List.foldl_append, List.foldl_cons, List.foldl_nil, ← hq]
                exact this)
              have hj8 : (j : Int) < (NL : Int) := by omega
              have hj9 : (0 : Int) ≤ (j : Int) := by omega
              clear hcl8 ht htk hq hm9 hg9 hs9
              go_wp2_with fail
              go_roundw
              case rel => exact ⟨j + 1, cnt + 1, _, by omega, by go_num, by omega, HC9, HM9, Lib.hid (hkj.out.grown HG9.out (fun i hi => by cases hi; exact Or.inl rfl))⟩
              case measure => simp [intOf]; omega
            · have HTE : Hid (CntS M' (nTg (S.take (k + 1)))) := Lib.hid (by
                have := hM'.out
                rw [List.take_of_length_le (l := L) (by rw [HNL.out]; omega), HTF.out] at this
                rw [HTK.out]; exact this)
              have hI9 : MapIs Tryd.prog 9 okInt wr mi cI8 MI8 := HI8.out.kept hkj.out (by omega)
              have hM9 : MapIs Tryd.prog 9 okInt wr mm cM MM := HMa8.out.kept hkj.out (by omega)
              have bx9 : Blk wr wo.heap.size 32 #[.string x.item, .string x.maker, .string x.tags, .int .i64 x.score] := HX8.out.kept hkj.out (by omega)
              have HK9 : Hid (Kept (fun q => q = mi ∨ q = mm ∨ q = mt) w3 wr) := Lib.hid (HK8.out.trans' hkj.out (fun i _ h => Or.inr (Or.inr h)))
              have bc9 : Blk wr w.heap.size 28 #[.int .i64 cp.size, .int .i64 cp.maker, .int .i64 cp.tag] := HC3.out.kept HK9.out (by omega)
              have s0 : wr.cell? ⟨wo.heap.size, 0, none⟩ = some (.string x.item) := bx9.cell 0
              have s1 : wr.cell? ⟨wo.heap.size, 1, none⟩ = some (.string x.maker) := bx9.cell 1
              have c1 : wr.cell? ⟨w.heap.size, 1, none⟩ = some (.int .i64 cp.maker) := bc9.cell 1
              have hlI := hI9.look (string_keyed Tryd.underlying9) Tryd.underlying30 (zeroInt wr) rfl (WideMaps.keyOf_string_mk Tryd.underlying9 hzI)
              have hlM := hM9.look (string_keyed Tryd.underlying9) Tryd.underlying30 (zeroInt wr) rfl (WideMaps.keyOf_string_mk Tryd.underlying9 hzM)
              obtain ⟨qi, hqi⟩ : ∃ qi : Int, ((nIt (S.take (k + 1)) x.item : Nat) : Int) = qi := ⟨_, rfl⟩
              obtain ⟨qm, hqm⟩ : ∃ qm : Int, ((nMa (S.take (k + 1)) x.maker : Nat) : Int) = qm := ⟨_, rfl⟩
              rw [HCI8.out.get, hqi] at hlI
              rw [HCM8.out.get, hqm] at hlM
              have t1 : decide (1 < qi) = false := decide_eq_false (by have := HONE.out (k + 1) x.item; omega)
              have HI9 := Lib.hid hI9
              have HM9 := Lib.hid hM9
              by_cases hcm : 1 ≤ cp.maker
              · have t2 : decide (1 ≤ cp.maker) = true := decide_eq_true hcm
                have t3 : decide (cp.maker < qm) = false := decide_eq_false (by have := HCAPM.out hcm (k + 1) x.maker; omega)
                clear hI9 hM9 bx9 bc9 hqi hqm
                go_wp2_with fail
                go_roundw
                case rel => exact ⟨k + 1, cI8, cM, cnt, MI8, MM, M', by omega, by go_num, by omega, by omega, by omega, HCI8, HCM8, HTE, HI9, HM9, hmj, HK9⟩
                case measure => simp [intOf]; omega
              · have t2 : decide (1 ≤ cp.maker) = false := decide_eq_false hcm
                clear hI9 hM9 bx9 bc9 hqi hqm
                go_wp2_with fail
                go_roundw
                case rel => exact ⟨k + 1, cI8, cM, cnt, MI8, MM, M', by omega, by go_num, by omega, by omega, by omega, HCI8, HCM8, HTE, HI9, HM9, hmj, HK9⟩
                case measure => simp [intOf]; omega
        · have hmb : (!x.maker.toList.isEmpty) = true := by rw [emp_iff]; simp [hmk]
          obtain ⟨q2, hq2⟩ : ∃ q2 : Int, ((nMa (S.take k) x.maker : Nat) : Int) = q2 := ⟨_, rfl⟩
          have hq20 : 0 ≤ q2 := by omega
          have hq21 : q2 ≤ 5000 := by have h1 := nMa_len (S.take k) x.maker; have h2 := List.length_take_le k S; omega
          have hlk2 := hM6.look (string_keyed Tryd.underlying9) Tryd.underlying30 (zeroInt w6) rfl (WideMaps.keyOf_string_mk Tryd.underlying9 hzM)
          rw [hMM.out.get, hq2] at hlk2
          obtain ⟨w7, hst7, hM7, hg7, hs7⟩ := hM6.store (string_keyed Tryd.underlying9) Tryd.underlying30 (by unfold maxLen; omega) (WideMaps.keyOf_string_mk Tryd.underlying9 hzM) (val := .int .i64 (q2 + 1)) rfl
          have kk7 : Kept (fun i => i = mm) w6 w7 := (Kept.refl _ _).grown hg7 (fun i hi => by cases hi; exact Or.inl rfl)
          have HCM8 : Hid (CntS (upd MM (.string x.maker.data.toList) (.int .i64 (q2 + 1))) (nMa (S.take (k + 1)))) := Lib.hid (by
            have := hMM.out.bump x.maker
            rw [HTK.out, nMa_snoc _ _ hmk, ← hq2]
            exact this)
          generalize hMM8 : upd MM (.string x.maker.data.toList) (.int .i64 (q2 + 1)) = MM8 at *
          obtain ⟨cM8, hcM8⟩ : ∃ cM8, cM + 1 = cM8 := ⟨_, rfl⟩
          rw [hcM8] at hM7
          have hcM8b : cM8 ≤ k + 1 := by omega
          have HI7 := Lib.hid (hI6.kept kk7 (by omega))
          have HM7 := Lib.hid hM7
          have HT7 := Lib.hid (hT6.kept kk7 (by omega))
          have HK7 : Hid (Kept (fun q => q = mi ∨ q = mm ∨ q = mt) w3 w7) := Lib.hid (hk6.trans' kk7 (fun i _ h => Or.inr (Or.inl h)))
          have bx7' := bx6.kept kk7 (by omega)
          clear hMM8 hcM8 hI6 hM6 hT6 hk6 hmk hM7 hg7 hs7 kk7 hq2
          have bx7 : Blk w7 wo.heap.size 32 #[.string x.item, .string x.maker, .string x.tags, .int .i64 x.score] := bx7'
          have HX7 := Lib.hid bx7
          have HTG := Lib.hid (tags_any x.tags w7 hxo.2.2)
          have zk7 : w3.heap.size ≤ w7.heap.size := HK7.out.size
          have p1 : w7.cell? ⟨wo.heap.size, 2, none⟩ = some (.string x.tags) := bx7.cell 2
          clear bx7
          go_wp2_with fail
          refine HTG.out.mono ?_
          rintro e w8 ⟨v8, rfl, hown8, hb8⟩
          obtain ⟨A8, c8, rfl⟩ := own_shape hown8
          have HO8 := Lib.hid (own_str_at hown8)
          have hlen := tagsP_len x.tags
          have kk8 : Kept (fun _ => False) w7 w8 := below_kept hb8 (Nat.le_refl _)
          have HI8 : Hid (MapIs Tryd.prog 9 okInt w8 mi cI8 MI8) := Lib.hid (HI7.out.kept kk8 (by simp))
          have HMa8 : Hid (MapIs Tryd.prog 9 okInt w8 mm cM8 MM8) := Lib.hid (HM7.out.kept kk8 (by simp))
          have HT8 : Hid (MapIs Tryd.prog 9 okInt w8 mt cT MT) := Lib.hid (HT7.out.kept kk8 (by simp))
          have HX8 : Hid (Blk w8 wo.heap.size 32 #[.string x.item, .string x.maker, .string x.tags, .int .i64 x.score]) := Lib.hid (HX7.out.kept kk8 (by simp))
          have HK8 : Hid (Kept (fun q => q = mi ∨ q = mm ∨ q = mt) w3 w8) := Lib.hid (HK7.out.trans' kk8 (fun i _ h => h.elim))
          have z8 := hb8.size
          have HTS : Hid (∀ t ∈ tagsP x.tags, t.size ≤ maxLen) := Lib.hid (fun t ht => by have := tagsP_size ht; unfold maxLen; omega)
          have HTN := Lib.hid (tagsP_nodup x.tags)
          have HTF := Lib.hid (nTg_fold (S.take k) x)
          clear HTG hown8 hb8 kk8 HI7 HM7 HT7 HX7 HK7 p1
          generalize tagsP x.tags = L at *
          obtain ⟨NL, hNL⟩ : ∃ N, L.length = N := ⟨_, rfl⟩
          have HNL := Lib.hid hNL
          rw [hNL] at hlen HO8 ⊢
          clear hNL
          go_wp2_with fail
          go_loopw [53] (fun jv wi => ∃ (j cnt : Nat) (M' : Lit → Option Value), j ≤ NL ∧ jv = .int .i64 j ∧ cnt ≤ cT + j ∧ Hid (CntS M' ((L.take j).foldl bumpS (nTg (S.take k)))) ∧ Hid (MapIs Tryd.prog 9 okInt wi mt cnt M') ∧ Hid (Kept (fun q => q = mt) w8 wi)) (fun jv _ => NL - (intOf jv).toNat)
          case atStart => exact ⟨0, cT, MT, Nat.zero_le _, rfl, Nat.le_refl _, hMT, HT8, Lib.hid (Kept.refl _ _)⟩
          case round =>
            obtain ⟨j, cnt, M', hj, rfl, hcj, hM', hmj, hkj⟩ := hrel
            by_cases hjl : j < NL
            · obtain ⟨t, ht⟩ : ∃ t, L[j]? = some t := ⟨L[j]'(by rw [HNL.out]; exact hjl), List.getElem?_eq_getElem _⟩
              obtain ⟨g8, rfl, hg81, hg82, hcl8⟩ := HO8.out (by omega)
              have f0 : wr.cell? ⟨g8, j, none⟩ = some (.string t) := (hkj.out.cell (p := ⟨g8, j, none⟩) hg82 (by show ¬ g8 = mt; omega)).trans (hcl8 j t ht)
              have hts := HTS.out t (List.mem_of_getElem? ht)
              have htk : L.take (j + 1) = L.take j ++ [t] := by rw [List.take_add_one, ht]; rfl
              obtain ⟨q, hq⟩ : ∃ q : Int, (((L.take j).foldl bumpS (nTg (S.take k)) t : Nat) : Int) = q := ⟨_, rfl⟩
              have hq0 : 0 ≤ q := by omega
              have hq1 : q ≤ 5000 := by
                have h1 := foldBumpS (L.take j) (nTg (S.take k)) t (HTN.out.sublist (List.take_sublist _ _))
                have h2 := nTg_len (S.take k) t
                have h3 := List.length_take_le k S
                rw [← hq, h1]
                split <;> omega
              have hlk := hmj.out.look (string_keyed Tryd.underlying9) Tryd.underlying30 (zeroInt wr) rfl (WideMaps.keyOf_string_mk Tryd.underlying9 hts)
              rw [hM'.out.get, hq] at hlk
              obtain ⟨w9, hst, hm9, hg9, hs9⟩ := hmj.out.store (string_keyed Tryd.underlying9) Tryd.underlying30 (by unfold maxLen; omega) (WideMaps.keyOf_string_mk Tryd.underlying9 hts) (val := .int .i64 (q + 1)) rfl
              have HM9 := Lib.hid hm9
              have HG9 := Lib.hid hg9
              have HC9 : Hid (CntS (upd M' (.string t.data.toList) (.int .i64 (q + 1))) ((L.take (j + 1)).foldl bumpS (nTg (S.take k)))) := Lib.hid (by
                have := hM'.out.bump t
                rw [htk, List.foldl_append, List.foldl_cons, List.foldl_nil, ← hq]
                exact this)
              have hj8 : (j : Int) < (NL : Int) := by omega
              have hj9 : (0 : Int) ≤ (j : Int) := by omega
              clear hcl8 ht htk hq hm9 hg9 hs9
              go_wp2_with fail
              go_roundw
              case rel => exact ⟨j + 1, cnt + 1, _, by omega, by go_num, by omega, HC9, HM9, Lib.hid (hkj.out.grown HG9.out (fun i hi => by cases hi; exact Or.inl rfl))⟩
              case measure => simp [intOf]; omega
            · have HTE : Hid (CntS M' (nTg (S.take (k + 1)))) := Lib.hid (by
                have := hM'.out
                rw [List.take_of_length_le (l := L) (by rw [HNL.out]; omega), HTF.out] at this
                rw [HTK.out]; exact this)
              have hI9 : MapIs Tryd.prog 9 okInt wr mi cI8 MI8 := HI8.out.kept hkj.out (by omega)
              have hM9 : MapIs Tryd.prog 9 okInt wr mm cM8 MM8 := HMa8.out.kept hkj.out (by omega)
              have bx9 : Blk wr wo.heap.size 32 #[.string x.item, .string x.maker, .string x.tags, .int .i64 x.score] := HX8.out.kept hkj.out (by omega)
              have HK9 : Hid (Kept (fun q => q = mi ∨ q = mm ∨ q = mt) w3 wr) := Lib.hid (HK8.out.trans' hkj.out (fun i _ h => Or.inr (Or.inr h)))
              have bc9 : Blk wr w.heap.size 28 #[.int .i64 cp.size, .int .i64 cp.maker, .int .i64 cp.tag] := HC3.out.kept HK9.out (by omega)
              have s0 : wr.cell? ⟨wo.heap.size, 0, none⟩ = some (.string x.item) := bx9.cell 0
              have s1 : wr.cell? ⟨wo.heap.size, 1, none⟩ = some (.string x.maker) := bx9.cell 1
              have c1 : wr.cell? ⟨w.heap.size, 1, none⟩ = some (.int .i64 cp.maker) := bc9.cell 1
              have hlI := hI9.look (string_keyed Tryd.underlying9) Tryd.underlying30 (zeroInt wr) rfl (WideMaps.keyOf_string_mk Tryd.underlying9 hzI)
              have hlM := hM9.look (string_keyed Tryd.underlying9) Tryd.underlying30 (zeroInt wr) rfl (WideMaps.keyOf_string_mk Tryd.underlying9 hzM)
              obtain ⟨qi, hqi⟩ : ∃ qi : Int, ((nIt (S.take (k + 1)) x.item : Nat) : Int) = qi := ⟨_, rfl⟩
              obtain ⟨qm, hqm⟩ : ∃ qm : Int, ((nMa (S.take (k + 1)) x.maker : Nat) : Int) = qm := ⟨_, rfl⟩
              rw [HCI8.out.get, hqi] at hlI
              rw [HCM8.out.get, hqm] at hlM
              have t1 : decide (1 < qi) = false := decide_eq_false (by have := HONE.out (k + 1) x.item; omega)
              have HI9 := Lib.hid hI9
              have HM9 := Lib.hid hM9
              by_cases hcm : 1 ≤ cp.maker
              · have t2 : decide (1 ≤ cp.maker) = true := decide_eq_true hcm
                have t3 : decide (cp.maker < qm) = false := decide_eq_false (by have := HCAPM.out hcm (k + 1) x.maker; omega)
                clear hI9 hM9 bx9 bc9 hqi hqm
                go_wp2_with fail
                go_roundw
                case rel => exact ⟨k + 1, cI8, cM8, cnt, MI8, MM8, M', by omega, by go_num, by omega, by omega, by omega, HCI8, HCM8, HTE, HI9, HM9, hmj, HK9⟩
                case measure => simp [intOf]; omega
              · have t2 : decide (1 ≤ cp.maker) = false := decide_eq_false hcm
                clear hI9 hM9 bx9 bc9 hqi hqm
                go_wp2_with fail
                go_roundw
                case rel => exact ⟨k + 1, cI8, cM8, cnt, MI8, MM8, M', by omega, by go_num, by omega, by omega, by omega, HCI8, HCM8, HTE, HI9, HM9, hmj, HK9⟩
                case measure => simp [intOf]; omega
      · obtain rfl : m = k := by omega
        have HTE : Hid (CntS MT (nTg S)) := Lib.hid (by
          have := hMT.out
          rwa [List.take_of_length_le (by rw [HMM.out]; exact Nat.le_refl _)] at this)
        have HTv := hT
        have HKw := hkw
        go_wp2_with (first
          | (at_range; go_loud (refine wpList_rangeM _ rfl _ 30 rfl 9 3 (string_keyed Tryd.underlying9) Tryd.underlying30 okInt mt cT _ rfl HTv.out ?_); intro w5 cnt0 hrg0 hg0 hs0 hc0)
          | fail)
        have HRG0 := Lib.hid hrg0
        have HK5 : Hid (Kept (fun q => q = mi ∨ q = mm ∨ q = mt) w3 w5) := Lib.hid (HKw.out.grown hg0 (fun j hj => by cases hj))
        clear hrg0 hg0 hs0 hc0
        go_frame
        go_loopw [14] (fun _ wr => ∃ (left : Lit → Bool) (cnt : Nat), Hid (MapGoes Tryd.prog 9 okInt wr mt wo.heap.size cT MT left cnt) ∧ Hid (Kept (fun q => q = mi ∨ q = mm ∨ q = mt ∨ q = wo.heap.size) w3 wr)) (fun _ wr => wr.rangeLeft mt wo.heap.size)
        case atStart => exact ⟨_, _, HRG0, Lib.hid (HK5.out.mono (fun i _ h => by rcases h with h | h | h <;> simp [h]))⟩
        case round =>
          obtain ⟨left, cnt, hrg, hkr⟩ := hrel
          have HBr : Hid (Below w.heap.size w wr) := Lib.hid (HB3.out.trans (hkr.out.toBelow (fun i hi => by omega) (by omega)))
          go_wp2_with (first
            | (at_next; refine wpList_nextS _ rfl _ rfl 9 Tryd.underlying9 okInt (fun x : Int => .int .i64 x) (fun v hv => mk_int hv) mt wo.heap.size cT _ _ _ rfl hrg.out ?_ ?_)
            | fail)
          · intro _ hl
            have HW := Lib.hid (awake_any wr (HG.out.keep HBr.out (Nat.le_refl _)))
            go_wp2_with fail
            refine HW.out.mono ?_
            rintro e w9 ⟨rfl, hb9⟩
            have HB9 : Hid (Below w.heap.size w w9) := Lib.hid (HBr.out.trans (hb9.mono HBr.out.size))
            clear hb9 HW
            go_wp2_with fail
            go_ret
            exact ⟨rfl, HB9.out⟩
          · intro t v w6 cnt1 hsz hlk hok hMt hrg1 hlt1 hg1 hs1 hen
            have hv : v = ((nTg S t : Nat) : Int) := by
              have h1 := HTE.out t
              rw [hMt] at h1
              split at h1
              · cases h1
              · injection h1 with h1
                injection h1
            have hk6 : Kept (fun q => q = mi ∨ q = mm ∨ q = mt ∨ q = wo.heap.size) w3 w6 := hkr.out.grown hg1 (fun j hj => by cases hj; exact Or.inl (by simp))
            have bc6 : Blk w6 w.heap.size 28 #[.int .i64 cp.size, .int .i64 cp.maker, .int .i64 cp.tag] := HC3.out.kept hk6 (by omega)
            have c2 : w6.cell? ⟨w.heap.size, 2, none⟩ = some (.int .i64 cp.tag) := bc6.cell 2
            have HRG6 := Lib.hid hrg1
            have HK6 := Lib.hid hk6
            have HLT : Hid (w6.rangeLeft mt wo.heap.size < wr.rangeLeft mt wo.heap.size) := Lib.hid (by rw [hrg1.left_eq, hrg.out.left_eq]; exact hlt1)
            by_cases hct : 1 ≤ cp.tag
            · have t1 : decide (1 ≤ cp.tag) = true := decide_eq_true hct
              have t2 : decide (cp.tag < v) = false := decide_eq_false (by have := HCAPT.out hct t; omega)
              clear hrg1 hk6 bc6 hlt1 hg1 hs1 hMt hlk hok hv
              go_wp2_with fail
              go_roundw
              case rel => exact ⟨_, _, HRG6, HK6⟩
              case measure => exact HLT.out
            · have t1 : decide (1 ≤ cp.tag) = false := decide_eq_false hct
              clear hrg1 hk6 bc6 hlt1 hg1 hs1 hMt hlk hok hv
              go_wp2_with fail
              go_roundw
              case rel => exact ⟨_, _, HRG6, HK6⟩
              case measure => exact HLT.out
  · have HW := Lib.hid (awake_any w1 (HG.out.keep hb1 (Nat.le_refl _)))
    clear hr
    go_wp2_with fail
    refine HW.out.mono ?_
    rintro e w5 ⟨rfl, hb5⟩
    have HB5 : Hid (Below w.heap.size w w5) := Lib.hid (hb1.trans (hb5.mono hb1.size))
    clear hb5 HW
    go_wp2_with fail
    go_ret
    exact ⟨rfl, HB5.out⟩
end Go.Proofs.YtiaklkfdgnhonaaDoor
