/- The document's Parse. -/
import Derived.Test.YtikbckpphkpaiaaGreatDoorFdParse
import Derived.Test.YtikbckpphkpaiaaGreatDoorFdRL
import Derived.Test.YtikbckpphkpaiaaGreatDoorRPartsS
import Derived.Test.YtikbckpphkpaiaaGreatDoorRNum
import Derived.Test.YtikbckpphkpaiaaGreatDoorFdParS
namespace Go.Proofs.YtikbckpphkpaiaaGreatDoor
open Go.Shelf Go.RowKit Go.Maps
set_option linter.unusedVariables false

def RParseE (s : ByteArray) (w : World) (e : Ending) (w' : World) : Prop := ∃ (A : Option Addr) (c : Nat) (xs : List Ro) (n k : Nat) (er : Int), e = .returned (.tuple #[.slice A n c, .int .i64 k, .int .i64 er]) ∧ xs.length = n ∧ parseP s = (xs, k, er) ∧ RowIn w' w'.heap.size 5 A n (xs.flatMap roC) ∧ (A = none → c = 0) ∧ n ≤ 4096 ∧ Below w.heap.size w w'
theorem tagsT_ne (t : ByteArray) : tagsT t ≠ ⟨#[]⟩ := by
  unfold tagsT
  by_cases h : t = ⟨#[]⟩
  · rw [if_pos h]; exact dot_ne
  · rw [if_neg h]; exact h
theorem rest_five {cur : ByteArray} {r : Ro} (h : cutsN cur = true) (hr : rowP (headN cur) = some r) : (restN cur).size + 5 ≤ cur.size := by
  have h1 := (rowP_ok hr).2
  have h2 := congrArg ByteArray.size (cut_back h)
  rw [ba_size, ba_size] at h2
  have h3 := congrArg ByteArray.size h1
  rw [line_eq] at h3
  simp only [ba_size] at h3
  have h4 : spB.size = 1 := rfl
  have h5 : nlB.size = 1 := rfl
  omega
/-- So far no line feed. -/
def NoTo (cur : ByteArray) (k : Nat) : Prop := ∀ (j : Nat) b, j < k → cur.data.toList[j]? = some b → b ≠ 10
theorem NoTo.next {cur : ByteArray} {k : Nat} (h : NoTo cur k) (hk : k < cur.size) (hb : cur[k]'hk ≠ 10) : NoTo cur (k + 1) := fun j b hj hc => by
  by_cases e : j = k
  · subst e
    rw [List.getElem?_eq_getElem (by simpa using hk)] at hc
    cases hc
    exact hb
  · exact h j b (by omega) hc
theorem NoTo.all {cur : ByteArray} (h : NoTo cur cur.size) : cutsN cur = false := (cutN_miss (fun j b hb => h j b (by simpa using (List.getElem?_eq_some_iff.1 hb).1) hb)).2.2
theorem NoTo.hit {cur : ByteArray} {k : Nat} (h : NoTo cur k) (hk : k < cur.size) (hb : cur[k]'hk = 10) : headN cur = cur.extract 0 k ∧ restN cur = cur.extract (k + 1) cur.size ∧ cutsN cur = true :=
  cutN_hit (by rw [List.getElem?_eq_getElem (by simpa using hk)]; exact congrArg some hb) (fun j b hj hc => h j b hj hc)

set_option maxHeartbeats 16000000 in
set_option maxRecDepth 100000 in
theorem rparse_any (s : ByteArray) (w : World) (hs : s.size ≤ 3000) : Calls Tryz.prog 7 #[.string s] w fun e w' => RParseE s w e w' := by
  obtain ⟨i0, hi0, hz0, hz1, hz2⟩ := info_parts row_info
  have HER : Hid (∀ (k : Nat) (er : Int) (W : World), parseP s = ([], k, er) → Below w.heap.size w W → RParseE s w (.returned (.tuple #[.slice none 0 0, .int .i64 k, .int .i64 er])) W) := Lib.hid (fun k er W h hb => ⟨none, 0, [], 0, k, er, rfl, rfl, h, ⟨rfl, Or.inl rfl⟩, fun _ => rfl, Nat.zero_le _, hb⟩)
  go_enter Tryz.func7, Tryz.ntmps7
  go_wp2_with fail
  go_loopw [0, 5] (fun sv lv wr => ∃ (cur : ByteArray) (A5 : Option Addr) (c5 m : Nat) (xs : List Ro), sv = .string cur ∧ lv = .slice A5 m c5 ∧ m ≤ 4096 ∧ 5 * m + cur.size ≤ 3000 ∧ Hid (xs.length = m) ∧ Hid (ParseTo s cur xs) ∧ Hid (wr.ownsRow w.heap.size 55 5 (.slice A5 m c5) m (xs.flatMap roC)) ∧ Hid (Below w.heap.size w wr)) (fun sv _ _ => strZ sv)
  case atStart => exact ⟨s, none, 0, 0, [], rfl, rfl, Nat.zero_le _, by omega, Lib.hid rfl, Lib.hid (ParseTo.start s), Lib.hid (own_nil _ _ _ _), Lib.hid (Below.refl _ _)⟩
  case round =>
    obtain ⟨cur, A5, c5, m, xs, rfl, rfl, hm, hcz, hlen, hpt, hrow, hbw⟩ := hrel
    obtain ⟨wo, rfl⟩ : ∃ wo, wo = wr := ⟨_, rfl⟩
    by_cases h0 : cur = ⟨#[]⟩
    · have q0 : cur.toList.isEmpty = true := by rw [emp_iff]; exact decide_eq_true h0
      have HF : Hid (RParseE s w (.returned (.tuple #[.slice A5 m c5, .int .i64 m, .int .i64 0])) wo) := Lib.hid (by
        have h1 := hpt.out
        rw [h0] at h1
        have h2 := h1.done
        rw [hlen.out] at h2
        exact ⟨A5, c5, xs, m, m, 0, rfl, hlen.out, h2, RowIn.of_own hrow.out, fun h => own_none_cap (h ▸ hrow.out), hm, hbw.out⟩)
      clear h0
      go_wp2_with fail
      go_ret3
      exact HF.out
    have q0 : cur.toList.isEmpty = false := by rw [emp_iff]; exact decide_eq_false h0
    have HNE0 := Lib.hid h0
    clear h0
    go_wp2_with fail
    go_loopw [6] (fun i wr => ∃ k : Nat, k ≤ cur.size ∧ i = .int .i64 k ∧ Hid (NoTo cur k) ∧ wr = wo) (fun i _ => cur.size - (intOf i).toNat)
    case atStart => exact ⟨0, Nat.zero_le _, rfl, Lib.hid (fun j b hj => by omega), rfl⟩
    case round =>
      obtain ⟨k, hk, rfl, hno, rfl⟩ := hrel
      have hk9 : (0 : Int) ≤ (k : Int) := by omega
      by_cases hlt : k < cur.size
      · have hk8 : (k : Int) < (cur.size : Int) := by omega
        by_cases hq : cur[k]'hlt = 10
        · have q1 : ((cur[k]'hlt).toNat : Int) = 10 := by rw [hq]; rfl
          obtain ⟨hh1, hh2, hh3⟩ := hno.out.hit hlt hq
          have HHD : Hid (headN cur = cur.extract 0 k) := Lib.hid hh1
          have HRST : Hid (cur.extract (k + 1) cur.size = restN cur) := Lib.hid hh2.symm
          have HCU := Lib.hid hh3
          have qe : ((k : Int) == (cur.size : Int)) = false := by rw [Bool.eq_false_iff]; intro e; have := beq_iff_eq.1 e; omega
          have hkz : (k : Int) ≤ (cur.size : Int) := by omega
          have hkz2 : (k : Int) + 1 ≤ (cur.size : Int) := by omega
          have HHZ := Lib.hid (headN_size cur)
          obtain ⟨hd, hhd⟩ : ∃ hd, cur.extract 0 k = hd := ⟨_, rfl⟩
          obtain ⟨rs, hrs⟩ : ∃ rs, cur.extract (k + 1) cur.size = rs := ⟨_, rfl⟩
          rw [hhd] at HHD
          rw [hrs] at HRST
          have HPP := Lib.hid (rpartsS_any hd wr (by have := HHZ.out; rw [HHD.out] at this; omega))
          clear hh1 hh2 hh3 hq
          go_wp2_with fail
          refine HPP.out.mono ?_
          rintro e wx ⟨A7, c7, rfl, hown, hbx⟩
          have HBx : Hid (Below w.heap.size w wx) := Lib.hid (hbw.out.trans (hbx.mono hbw.out.size))
          have HRX : Hid (wx.ownsRow w.heap.size 55 5 (.slice A5 m c5) m (xs.flatMap roC)) := Lib.hid (own_kept hrow.out (below_kept (S := fun _ => False) hbx (Nat.le_refl _)) (fun _ _ h => h))
          have HOW := Lib.hid hown
          clear hown HPP
          by_cases h5 : (partsS hd).length = 5
          rotate_left
          · have q5 : ((((partsS hd).length : Nat) : Int) == 5) = false := by
              rw [Bool.eq_false_iff]; intro e; have := beq_iff_eq.1 e; omega
            have HF : Hid (RParseE s w (.returned (.tuple #[.slice none 0 0, .int .i64 m, .int .i64 2])) wx) := Lib.hid (by
              have h2 := hpt.out.form HNE0.out HCU.out (by rw [HHD.out]; exact rowP_none (fun r hr => h5 (by rw [row_words hr]; rfl)))
              rw [hlen.out] at h2
              exact HER.out _ _ _ h2 HBx.out)
            go_wp2_with fail
            go_ret3
            exact HF.out
          obtain ⟨a, b, g, p, q, hps⟩ : ∃ a b g p q, partsS hd = [a, b, g, p, q] := by
            match hp : partsS hd, h5 with
            | [a, b, g, p, q], _ => exact ⟨a, b, g, p, q, rfl⟩
          have HP := Lib.hid hps
          have HWZ : Hid (a.size ≤ 100000 ∧ b.size ≤ 100000 ∧ g.size ≤ 100000 ∧ p.size ≤ 100000 ∧ q.size ≤ 100000) := Lib.hid (by
            have q : ∀ t ∈ partsS hd, t.size ≤ 100000 := fun t h => by have h1 := split_le ⟨#[32]⟩ _ hd t h; have h2 := HHZ.out; rw [HHD.out] at h2; omega
            rw [hps] at q
            exact ⟨q a (by simp), q b (by simp), q g (by simp), q p (by simp), q _ (by simp)⟩)
          rw [show (partsS hd).length = 5 from h5] at HOW ⊢
          rw [hps] at HOW
          obtain ⟨g7, cap7, hA7, _, hg7⟩ := HOW.out.form (by omega)
          obtain ⟨rfl, rfl⟩ : A7 = some ⟨g7, 0, none⟩ ∧ c7 = cap7 := by injection hA7 with h1 h2 h3; exact ⟨h1, h3⟩
          have HSC : Hid (∀ V, Kept (fun q => wx.heap.size ≤ q) wx V → V.cell? ⟨g7, 0, none⟩ = some (.string a) ∧ V.cell? ⟨g7, 1, none⟩ = some (.string b) ∧ V.cell? ⟨g7, 2, none⟩ = some (.string g) ∧ V.cell? ⟨g7, 3, none⟩ = some (.string p) ∧ V.cell? ⟨g7, 4, none⟩ = some (.string q)) := Lib.hid (fun V hV => by
            have k : ∀ j, V.cell? ⟨g7, j, none⟩ = wx.cell? ⟨g7, j, none⟩ := fun j => hV.cell (p := ⟨g7, j, none⟩) hg7 (fun h => by have : wx.heap.size ≤ g7 := h; omega)
            exact ⟨(k 0).trans (HOW.out.cellAt 0 (by omega)), (k 1).trans (HOW.out.cellAt 1 (by omega)), (k 2).trans (HOW.out.cellAt 2 (by omega)), (k 3).trans (HOW.out.cellAt 3 (by omega)), (k 4).trans (HOW.out.cellAt 4 (by omega))⟩)
          have c2 : wx.cell? ⟨g7, 2, none⟩ = some (.string g) := (HSC.out wx (Kept.refl _ _)).2.2.1
          clear h5 hps hA7 hg7
          by_cases hgn : g = ⟨#[]⟩
          · have q2 : g.toList.isEmpty = true := by rw [emp_iff]; exact decide_eq_true hgn
            have HF : Hid (RParseE s w (.returned (.tuple #[.slice none 0 0, .int .i64 m, .int .i64 2])) wx) := Lib.hid (by
              have h2 := hpt.out.form HNE0.out HCU.out (by
                rw [HHD.out]
                refine rowP_none (fun r hr => ?_)
                have hw := row_words hr
                rw [HP.out, hgn] at hw
                simp only [List.cons.injEq] at hw
                exact tagsT_ne r.tags hw.2.2.1.symm)
              rw [hlen.out] at h2
              exact HER.out _ _ _ h2 HBx.out)
            clear hgn
            go_wp2_with fail
            go_ret3
            exact HF.out
          have q2 : g.toList.isEmpty = false := by rw [emp_iff]; exact decide_eq_false hgn
          have HGN := Lib.hid hgn
          have HS_wd : Hid (Kept (fun q => wx.heap.size ≤ q) wx wx.drew) := Lib.hid (Kept.refl _ _).drew
          clear hgn
          go_wp2_with fail
          refine wp_planT (fun V => Kept (fun q => wx.heap.size ≤ q) wx V) (.take 0 (.take 1 (.take 2 (.take 3 (.take 4 (.take 5 (.take 6 (.take 7 (.take 8 (.take 9 (.take 10 (.take 11 (.take 13 (.take 14 (.take 15 (.fork 12 (.fork 16 (.take 17 (.turn 18 (.turn 19 .done))) 18 (.turn 16 (.take 17 (.turn 19 .done)))) 18 (.turn 12 (.turn 16 (.take 17 (.turn 19 .done)))))))))))))))))))) (by kernel_rfl) (by kernel_rfl) HS_wd.out ?_
          simp only [planTL, List.getElem?_cons_zero, List.getElem?_cons_succ]
          repeat (first | (refine planT_on _ (by rfl) (fun W hW => by (obtain ⟨x0, x1, x2, x3, x4⟩ := HSC.out W hW; go_simp; try with_reducible rfl)) ?_; simp only [Act.put, List.setIfInBounds_toArray, List.set_cons_zero, List.set_cons_succ]) | (refine planT_off (by rfl) ?_; simp only [Act.put, List.setIfInBounds_toArray, List.set_cons_zero, List.set_cons_succ]))
          obtain ⟨wd, hwd⟩ : ∃ W, wx.drew = W := ⟨_, rfl⟩
          rw [hwd] at HS_wd ⊢
          clear hwd c2
          refine planT_fork ?_ ?_
          · have HC1 := Lib.hid (rnum_any p wd (by have := HWZ.out; omega))
            go_wp2_with fail
            refine HC1.out.mono ?_
            rintro e W1 ⟨v1, rfl, hr1, rfl⟩
            have HR1 := Lib.hid hr1
            clear hr1 HC1
            go_wp2_with fail
            refine ⟨HS_wd.out, ?_⟩
            repeat (first | (refine planT_on _ (by rfl) (fun W hW => by (obtain ⟨x0, x1, x2, x3, x4⟩ := HSC.out W hW; go_simp; try with_reducible rfl)) ?_; simp only [Act.put, List.setIfInBounds_toArray, List.set_cons_zero, List.set_cons_succ]) | (refine planT_off (by rfl) ?_; simp only [Act.put, List.setIfInBounds_toArray, List.set_cons_zero, List.set_cons_succ]))
            refine planT_fork ?_ ?_
            · have HC2 := Lib.hid (rnum_any q wd (by have := HWZ.out; omega))
              go_wp2_with fail
              refine HC2.out.mono ?_
              rintro e W2 ⟨v2, rfl, hr2, rfl⟩
              have HR2 := Lib.hid hr2
              clear hr2 HC2
              go_wp2_with fail
              refine ⟨HS_wd.out, ?_⟩
              repeat (first | (refine planT_on _ (by rfl) (fun W hW => by (obtain ⟨x0, x1, x2, x3, x4⟩ := HSC.out W hW; go_simp; try with_reducible rfl)) ?_; simp only [Act.put, List.setIfInBounds_toArray, List.set_cons_zero, List.set_cons_succ]) | (refine planT_off (by rfl) ?_; simp only [Act.put, List.setIfInBounds_toArray, List.set_cons_zero, List.set_cons_succ]))
              refine planT_turn ?_
              obtain ⟨ib, hib⟩ : ∃ ib, wd.heap.size = ib := ⟨_, rfl⟩
              obtain ⟨W3, hal⟩ : ∃ W, wd.alloc (.cells #[.string ⟨#[]⟩, .string ⟨#[]⟩, .string ⟨#[]⟩, .int .i64 0, .int .i64 0] 55) = W := ⟨_, rfl⟩
              have HI_W3 : Hid (Blk W3 ib 55 #[.string ⟨#[]⟩, .string ⟨#[]⟩, .string ⟨#[]⟩, .int .i64 0, .int .i64 0]) := Lib.hid (by rw [← hal, ← hib]; exact Blk.new _ _ _)
              have HS_W3 : Hid (Kept (fun q => wx.heap.size ≤ q) wx W3) := Lib.hid (by rw [← hal]; exact HS_wd.out.alloc _)
              have HNE : Hid (wx.heap.size ≤ ib) := Lib.hid (by rw [← hib]; exact HS_wd.out.size)
              go_wp2_with fail
              try rw [hib]
              try rw [hal]
              clear hib hal
              refine ⟨HS_W3.out, ?_⟩
              refine planT_turn ?_
              refine wpList_store_blk W3 rfl 55 _ _ rfl 0 #[.string a, .string b, .string g, .int .i64 v1, .int .i64 v2] rfl rfl HI_W3.out (by show 0 + 5 ≤ 5; omega) (by kernel_rfl) (by simp [Value.oneCell']) ?_
              intro W7 hi7 hk7 hz7
              have HI7 : Hid (Blk W7 ib 55 #[.string a, .string b, .string g, .int .i64 v1, .int .i64 v2]) := Lib.hid hi7
              have HS7 : Hid (Kept (fun q => wx.heap.size ≤ q) wx W7) := Lib.hid (HS_W3.out.trans' hk7 (fun i hi h => by have h2 : i = ib := h; show wx.heap.size ≤ i; rw [h2]; exact HNE.out))
              clear hi7 hk7 hz7
              go_wp2_with fail
              refine ⟨HS7.out, ?_⟩
              refine planT_done ?_
              have zi : W7.frozen? ⟨ib, 2, none⟩ = false := HI7.out.frozen 2
              have ci : W7.cell? ⟨ib, 2, none⟩ = some (.string g) := HI7.out.cell 2
              by_cases hdot : g = ⟨#[46]⟩
              · have q1 : (g.toList == [46]) = true := by rw [← dot_list]; exact (beq_list _ _).2 hdot
                have HU : Hid (tagsU g = ⟨#[]⟩) := Lib.hid (if_pos hdot)
                obtain ⟨W8, hw8⟩ : ∃ W, W7.setCell ⟨ib, 2, none⟩ (.string ⟨#[]⟩) = W := ⟨_, rfl⟩
                have HI9 : Hid (Blk W8 ib 55 #[.string a, .string b, .string (tagsU g), .int .i64 v1, .int .i64 v2]) := Lib.hid (by rw [HU.out, ← hw8]; exact HI7.out.set_ 2 _)
                have HS9 : Hid (Kept (fun q => wx.heap.size ≤ q) wx W8) := Lib.hid (by rw [← hw8]; exact HS7.out.setCell (p := ⟨ib, 2, none⟩) (Or.inl HNE.out) _)
                clear hdot HU
                have b0 : W8.cell? ⟨ib, 0, none⟩ = some (.string a) := HI9.out.cell 0
                have b1 : W8.cell? ⟨ib, 1, none⟩ = some (.string b) := HI9.out.cell 1
                have b2 : W8.cell? ⟨ib, 2, none⟩ = some (.string (tagsU g)) := HI9.out.cell 2
                have b3 : W8.cell? ⟨ib, 3, none⟩ = some (.int .i64 v1) := HI9.out.cell 3
                have b4 : W8.cell? ⟨ib, 4, none⟩ = some (.int .i64 v2) := HI9.out.cell 4
                have HGZ := Lib.hid (tagsU_size g)
                have HMY := Lib.hid (by have h := rmayR_any ⟨a, b, tagsU g, v1, v2⟩ W8 (by have := HWZ.out; show a.size ≤ _; omega) (by have := HWZ.out; show b.size ≤ _; omega) (by have := HWZ.out; have := HGZ.out; show (tagsU g).size ≤ _; omega); unfold roA at h; exact h)
                have HBW8 : Hid (Below w.heap.size w W8) := Lib.hid (HBx.out.trans (HS9.out.toBelow (fun i hi => Nat.le_trans HBx.out.size hi) HBx.out.size))
                go_wp2_with fail
                try rw [hw8]
                clear hw8 zi ci
                refine HMY.out.mono ?_
                rintro e V1 ⟨rfl, hv1⟩
                have HB1 : Hid (Below w.heap.size w V1) := Lib.hid (HBW8.out.trans (hv1.mono HBW8.out.size))
                have HIV : Hid (Blk V1 ib 55 #[.string a, .string b, .string (tagsU g), .int .i64 v1, .int .i64 v2]) := Lib.hid (HI9.out.kept (below_kept (S := fun _ => False) hv1 (Nat.le_refl _)) (fun h => h))
                have HSV : Hid (Kept (fun q => wx.heap.size ≤ q) wx V1) := Lib.hid (HS9.out.below hv1 HS9.out.size)
                clear hv1 HMY b0 b1 b2 b3 b4
                cases hm : mayR ⟨a, b, tagsU g, v1, v2⟩
                · have HF : Hid (RParseE s w (.returned (.tuple #[.slice none 0 0, .int .i64 m, .int .i64 2])) V1) := Lib.hid (by
                    have h2 := hpt.out.form HNE0.out HCU.out (by rw [HHD.out]; exact row_doc_no HP.out HR1.out HR2.out hm)
                    rw [hlen.out] at h2
                    exact HER.out _ _ _ h2 HB1.out)
                  clear hm
                  go_wp2_with fail
                  go_ret3
                  exact HF.out
                have HRY : Hid (rowP (headN cur) = some ⟨a, b, tagsU g, v1, v2⟩) := Lib.hid (by rw [HHD.out]; exact rowP_some (row_doc HP.out HGN.out HR1.out HR2.out hm))
                clear hm
                have e0 : V1.cell? ⟨ib, 0, none⟩ = some (.string a) := HIV.out.cell 0
                have HRV : Hid (V1.ownsRow w.heap.size 55 5 (.slice A5 m c5) m (xs.flatMap roC)) := Lib.hid (own_kept HRX.out (below_kept (S := fun _ => False) (HSV.out.toBelow (fun i hi => hi) (Nat.le_refl _)) (Nat.le_refl _)) (fun _ _ h => h))
                have HFD := Lib.hid (rfind_any V1 V1.heap.size A5 xs m c5 a hlen.out (RowIn.of_own HRV.out) (by omega))
                go_wp2_with fail
                refine HFD.out.mono ?_
                rintro e V2 ⟨i, rfl, hfi, rfl⟩
                have HFI := Lib.hid hfi
                clear HFD
                rcases hfi with ⟨rfl, hf⟩ | ⟨k1, r1, rfl, _, hf⟩
                rotate_left
                · have HF : Hid (RParseE s w (.returned (.tuple #[.slice none 0 0, .int .i64 m, .int .i64 7])) V2) := Lib.hid (by
                    have h2 := hpt.out.twice HNE0.out HCU.out HRY.out (by show (findR xs a).isSome = true; rw [hf]; rfl)
                    rw [hlen.out] at h2
                    exact HER.out _ _ _ h2 HB1.out)
                  have h0 : (0 : Int) ≤ (k1 : Int) := by omega
                  clear hf HFI
                  go_wp2_with fail
                  go_ret3
                  exact HF.out
                have HFN : Hid (findR xs a = none) := Lib.hid hf
                clear hf HFI
                by_cases hfull : 4096 ≤ m
                · have qf : (4096 : Int) ≤ (m : Int) := by omega
                  have HF : Hid (RParseE s w (.returned (.tuple #[.slice none 0 0, .int .i64 m, .int .i64 5])) V2) := Lib.hid (by
                    have h2 := hpt.out.full HNE0.out HCU.out HRY.out HFN.out (by rw [hlen.out]; exact hfull)
                    rw [hlen.out] at h2
                    exact HER.out _ _ _ h2 HB1.out)
                  go_wp2_with fail
                  go_ret3
                  exact HF.out
                have qf : ¬ (4096 : Int) ≤ (m : Int) := by omega
                have HPN : Hid (ParseTo s (restN cur) (xs ++ [⟨a, b, tagsU g, v1, v2⟩])) := Lib.hid (hpt.out.next HNE0.out HCU.out HRY.out HFN.out (by rw [hlen.out]; exact hfull))
                have HIO := Lib.hid (row_one ⟨a, b, tagsU g, v1, v2⟩)
                have HR6 := Lib.hid (ro1_row V2 ⟨a, b, tagsU g, v1, v2⟩ 55)
                have d1 : V2.cell? ⟨ib, 1, none⟩ = some (.string b) := HIV.out.cell 1
                have d2 : V2.cell? ⟨ib, 2, none⟩ = some (.string (tagsU g)) := HIV.out.cell 2
                have d3 : V2.cell? ⟨ib, 3, none⟩ = some (.int .i64 v1) := HIV.out.cell 3
                have d4 : V2.cell? ⟨ib, 4, none⟩ = some (.int .i64 v2) := HIV.out.cell 4
                have HRW6 := fun o => Lib.hid (HRV.out.alloc o)
                have hz6 : w.heap.size ≤ (V2.alloc (.cells #[.string a, .string b, .string (tagsU g), .int .i64 v1, .int .i64 v2] 55)).heap.size := by simp; have := HB1.out.size; omega
                go_wp2_with (first
                  | (at_builtin; refine wpList_append_row _ rfl _ _ 27 rfl w.heap.size 55 i0 _ 5 64 Tryz.underlying27 hi0 hz0 hz1 hz2 rfl (by omega) (.slice A5 m c5) m _ rfl (HRW6 _).out (V2.heap.size + 1) (some ⟨V2.heap.size, 0, none⟩) 1 1 _ rfl HR6.out (fun h => by cases h) HIO.out (by unfold maxLen; omega) (by omega) hz6 ?_; intro v8 w8 ho8 hg8 hv8; refine Hid.out ?_))
                obtain ⟨A8, c8, hv⟩ := own_shape ho8
                subst hv
                have HB8 : Hid (Below w.heap.size w w8) := Lib.hid ((HB1.out.alloc HB1.out.size _).grown hg8 (by simp; have := HB1.out.size; omega) (fun j hj => (HRV.out.lt _ hj).1))
                have HO8 : Hid (w8.ownsRow w.heap.size 55 5 (.slice A8 (m + 1) c8) (m + 1) ((xs ++ [(⟨a, b, tagsU g, v1, v2⟩ : Ro)]).flatMap roC)) := Lib.hid (by rw [List.flatMap_append, List.flatMap_cons, List.flatMap_nil, List.append_nil]; exact ho8)
                have HLE : Hid ((xs ++ [(⟨a, b, tagsU g, v1, v2⟩ : Ro)]).length = m + 1) := Lib.hid (by rw [List.length_append, hlen.out]; rfl)
                have HRL : Hid ((restN cur).size < cur.size ∧ 5 * (m + 1) + (restN cur).size ≤ 3000) := Lib.hid (by have := rest_five HCU.out HRY.out; omega)
                clear ho8 hg8 hv8 e0 d1 d2 d3 d4 hz6
                rw [← HRST.out] at HPN HRL
                refine Lib.hid ?_
                go_wp2_with fail
                go_roundw
                case rel => exact ⟨_, A8, c8, m + 1, _, rfl, rfl, by omega, HRL.out.2, HLE, HPN, HO8, HB8⟩
                case measure => exact HRL.out.1
              · have q1 : (g.toList == [46]) = false := by rw [← dot_list]; exact Bool.eq_false_iff.2 (fun e => hdot ((beq_list _ _).1 e))
                have HU : Hid (tagsU g = g) := Lib.hid (if_neg hdot)
                obtain ⟨W8, rfl⟩ : ∃ W, W = W7 := ⟨_, rfl⟩
                have HI9 : Hid (Blk W8 ib 55 #[.string a, .string b, .string (tagsU g), .int .i64 v1, .int .i64 v2]) := Lib.hid (by rw [HU.out]; exact HI7.out)
                have HS9 : Hid (Kept (fun q => wx.heap.size ≤ q) wx W8) := HS7
                clear hdot
                have b0 : W8.cell? ⟨ib, 0, none⟩ = some (.string a) := HI9.out.cell 0
                have b1 : W8.cell? ⟨ib, 1, none⟩ = some (.string b) := HI9.out.cell 1
                skip
                have b3 : W8.cell? ⟨ib, 3, none⟩ = some (.int .i64 v1) := HI9.out.cell 3
                have b4 : W8.cell? ⟨ib, 4, none⟩ = some (.int .i64 v2) := HI9.out.cell 4
                have HGZ := Lib.hid (tagsU_size g)
                have HMY := Lib.hid (by have h := rmayR_any ⟨a, b, tagsU g, v1, v2⟩ W8 (by have := HWZ.out; show a.size ≤ _; omega) (by have := HWZ.out; show b.size ≤ _; omega) (by have := HWZ.out; have := HGZ.out; show (tagsU g).size ≤ _; omega); unfold roA at h; exact h)
                have HBW8 : Hid (Below w.heap.size w W8) := Lib.hid (HBx.out.trans (HS9.out.toBelow (fun i hi => Nat.le_trans HBx.out.size hi) HBx.out.size))
                go_wp2_with fail
                rw [← HU.out]
                clear zi ci
                refine HMY.out.mono ?_
                rintro e V1 ⟨rfl, hv1⟩
                have HB1 : Hid (Below w.heap.size w V1) := Lib.hid (HBW8.out.trans (hv1.mono HBW8.out.size))
                have HIV : Hid (Blk V1 ib 55 #[.string a, .string b, .string (tagsU g), .int .i64 v1, .int .i64 v2]) := Lib.hid (HI9.out.kept (below_kept (S := fun _ => False) hv1 (Nat.le_refl _)) (fun h => h))
                have HSV : Hid (Kept (fun q => wx.heap.size ≤ q) wx V1) := Lib.hid (HS9.out.below hv1 HS9.out.size)
                clear hv1 HMY b0 b1 b3 b4
                cases hm : mayR ⟨a, b, tagsU g, v1, v2⟩
                · have HF : Hid (RParseE s w (.returned (.tuple #[.slice none 0 0, .int .i64 m, .int .i64 2])) V1) := Lib.hid (by
                    have h2 := hpt.out.form HNE0.out HCU.out (by rw [HHD.out]; exact row_doc_no HP.out HR1.out HR2.out hm)
                    rw [hlen.out] at h2
                    exact HER.out _ _ _ h2 HB1.out)
                  clear hm
                  go_wp2_with fail
                  go_ret3
                  exact HF.out
                have HRY : Hid (rowP (headN cur) = some ⟨a, b, tagsU g, v1, v2⟩) := Lib.hid (by rw [HHD.out]; exact rowP_some (row_doc HP.out HGN.out HR1.out HR2.out hm))
                clear hm
                have e0 : V1.cell? ⟨ib, 0, none⟩ = some (.string a) := HIV.out.cell 0
                have HRV : Hid (V1.ownsRow w.heap.size 55 5 (.slice A5 m c5) m (xs.flatMap roC)) := Lib.hid (own_kept HRX.out (below_kept (S := fun _ => False) (HSV.out.toBelow (fun i hi => hi) (Nat.le_refl _)) (Nat.le_refl _)) (fun _ _ h => h))
                have HFD := Lib.hid (rfind_any V1 V1.heap.size A5 xs m c5 a hlen.out (RowIn.of_own HRV.out) (by omega))
                go_wp2_with fail
                refine HFD.out.mono ?_
                rintro e V2 ⟨i, rfl, hfi, rfl⟩
                have HFI := Lib.hid hfi
                clear HFD
                rcases hfi with ⟨rfl, hf⟩ | ⟨k1, r1, rfl, _, hf⟩
                rotate_left
                · have HF : Hid (RParseE s w (.returned (.tuple #[.slice none 0 0, .int .i64 m, .int .i64 7])) V2) := Lib.hid (by
                    have h2 := hpt.out.twice HNE0.out HCU.out HRY.out (by show (findR xs a).isSome = true; rw [hf]; rfl)
                    rw [hlen.out] at h2
                    exact HER.out _ _ _ h2 HB1.out)
                  have h0 : (0 : Int) ≤ (k1 : Int) := by omega
                  clear hf HFI
                  go_wp2_with fail
                  go_ret3
                  exact HF.out
                have HFN : Hid (findR xs a = none) := Lib.hid hf
                clear hf HFI
                by_cases hfull : 4096 ≤ m
                · have qf : (4096 : Int) ≤ (m : Int) := by omega
                  have HF : Hid (RParseE s w (.returned (.tuple #[.slice none 0 0, .int .i64 m, .int .i64 5])) V2) := Lib.hid (by
                    have h2 := hpt.out.full HNE0.out HCU.out HRY.out HFN.out (by rw [hlen.out]; exact hfull)
                    rw [hlen.out] at h2
                    exact HER.out _ _ _ h2 HB1.out)
                  go_wp2_with fail
                  go_ret3
                  exact HF.out
                have qf : ¬ (4096 : Int) ≤ (m : Int) := by omega
                have HPN : Hid (ParseTo s (restN cur) (xs ++ [⟨a, b, tagsU g, v1, v2⟩])) := Lib.hid (hpt.out.next HNE0.out HCU.out HRY.out HFN.out (by rw [hlen.out]; exact hfull))
                have HIO := Lib.hid (row_one ⟨a, b, tagsU g, v1, v2⟩)
                have HR6 := Lib.hid (ro1_row V2 ⟨a, b, tagsU g, v1, v2⟩ 55)
                have d1 : V2.cell? ⟨ib, 1, none⟩ = some (.string b) := HIV.out.cell 1
                have d2 : V2.cell? ⟨ib, 2, none⟩ = some (.string (tagsU g)) := HIV.out.cell 2
                have d3 : V2.cell? ⟨ib, 3, none⟩ = some (.int .i64 v1) := HIV.out.cell 3
                have d4 : V2.cell? ⟨ib, 4, none⟩ = some (.int .i64 v2) := HIV.out.cell 4
                have HRW6 := fun o => Lib.hid (HRV.out.alloc o)
                have hz6 : w.heap.size ≤ (V2.alloc (.cells #[.string a, .string b, .string (tagsU g), .int .i64 v1, .int .i64 v2] 55)).heap.size := by simp; have := HB1.out.size; omega
                go_wp2_with (first
                  | (at_builtin; refine wpList_append_row _ rfl _ _ 27 rfl w.heap.size 55 i0 _ 5 64 Tryz.underlying27 hi0 hz0 hz1 hz2 rfl (by omega) (.slice A5 m c5) m _ rfl (HRW6 _).out (V2.heap.size + 1) (some ⟨V2.heap.size, 0, none⟩) 1 1 _ rfl HR6.out (fun h => by cases h) HIO.out (by unfold maxLen; omega) (by omega) hz6 ?_; intro v8 w8 ho8 hg8 hv8; refine Hid.out ?_))
                obtain ⟨A8, c8, hv⟩ := own_shape ho8
                subst hv
                have HB8 : Hid (Below w.heap.size w w8) := Lib.hid ((HB1.out.alloc HB1.out.size _).grown hg8 (by simp; have := HB1.out.size; omega) (fun j hj => (HRV.out.lt _ hj).1))
                have HO8 : Hid (w8.ownsRow w.heap.size 55 5 (.slice A8 (m + 1) c8) (m + 1) ((xs ++ [(⟨a, b, tagsU g, v1, v2⟩ : Ro)]).flatMap roC)) := Lib.hid (by rw [List.flatMap_append, List.flatMap_cons, List.flatMap_nil, List.append_nil]; exact ho8)
                have HLE : Hid ((xs ++ [(⟨a, b, tagsU g, v1, v2⟩ : Ro)]).length = m + 1) := Lib.hid (by rw [List.length_append, hlen.out]; rfl)
                have HRL : Hid ((restN cur).size < cur.size ∧ 5 * (m + 1) + (restN cur).size ≤ 3000) := Lib.hid (by have := rest_five HCU.out HRY.out; omega)
                clear ho8 hg8 hv8 e0 d1 d2 d3 d4 hz6
                rw [← HRST.out] at HPN HRL
                refine Lib.hid ?_
                go_wp2_with fail
                go_roundw
                case rel => exact ⟨_, A8, c8, m + 1, _, rfl, rfl, by omega, HRL.out.2, HLE, HPN, HO8, HB8⟩
                case measure => exact HRL.out.1
            · obtain ⟨ib, hib⟩ : ∃ ib, wd.heap.size = ib := ⟨_, rfl⟩
              obtain ⟨W3, hal⟩ : ∃ W, wd.alloc (.cells #[.string ⟨#[]⟩, .string ⟨#[]⟩, .string ⟨#[]⟩, .int .i64 0, .int .i64 0] 55) = W := ⟨_, rfl⟩
              have HI_W3 : Hid (Blk W3 ib 55 #[.string ⟨#[]⟩, .string ⟨#[]⟩, .string ⟨#[]⟩, .int .i64 0, .int .i64 0]) := Lib.hid (by rw [← hal, ← hib]; exact Blk.new _ _ _)
              have HS_W3 : Hid (Kept (fun q => wx.heap.size ≤ q) wx W3) := Lib.hid (by rw [← hal]; exact HS_wd.out.alloc _)
              have HNE : Hid (wx.heap.size ≤ ib) := Lib.hid (by rw [← hib]; exact HS_wd.out.size)
              go_wp2_with fail
              try rw [hib]
              try rw [hal]
              clear hib hal
              refine ⟨HS_W3.out, ?_⟩
              repeat (first | (refine planT_on _ (by rfl) (fun W hW => by (obtain ⟨x0, x1, x2, x3, x4⟩ := HSC.out W hW; go_simp; try with_reducible rfl)) ?_; simp only [Act.put, List.setIfInBounds_toArray, List.set_cons_zero, List.set_cons_succ]) | (refine planT_off (by rfl) ?_; simp only [Act.put, List.setIfInBounds_toArray, List.set_cons_zero, List.set_cons_succ]))
              refine planT_turn ?_
              have HC2 := Lib.hid (rnum_any q W3 (by have := HWZ.out; omega))
              go_wp2_with fail
              refine HC2.out.mono ?_
              rintro e W2 ⟨v2, rfl, hr2, rfl⟩
              have HR2 := Lib.hid hr2
              clear hr2 HC2
              go_wp2_with fail
              refine ⟨HS_W3.out, ?_⟩
              repeat (first | (refine planT_on _ (by rfl) (fun W hW => by (obtain ⟨x0, x1, x2, x3, x4⟩ := HSC.out W hW; go_simp; try with_reducible rfl)) ?_; simp only [Act.put, List.setIfInBounds_toArray, List.set_cons_zero, List.set_cons_succ]) | (refine planT_off (by rfl) ?_; simp only [Act.put, List.setIfInBounds_toArray, List.set_cons_zero, List.set_cons_succ]))
              refine planT_turn ?_
              refine wpList_store_blk W3 rfl 55 _ _ rfl 0 #[.string a, .string b, .string g, .int .i64 v1, .int .i64 v2] rfl rfl HI_W3.out (by show 0 + 5 ≤ 5; omega) (by kernel_rfl) (by simp [Value.oneCell']) ?_
              intro W7 hi7 hk7 hz7
              have HI7 : Hid (Blk W7 ib 55 #[.string a, .string b, .string g, .int .i64 v1, .int .i64 v2]) := Lib.hid hi7
              have HS7 : Hid (Kept (fun q => wx.heap.size ≤ q) wx W7) := Lib.hid (HS_W3.out.trans' hk7 (fun i hi h => by have h2 : i = ib := h; show wx.heap.size ≤ i; rw [h2]; exact HNE.out))
              clear hi7 hk7 hz7
              go_wp2_with fail
              refine ⟨HS7.out, ?_⟩
              refine planT_done ?_
              have zi : W7.frozen? ⟨ib, 2, none⟩ = false := HI7.out.frozen 2
              have ci : W7.cell? ⟨ib, 2, none⟩ = some (.string g) := HI7.out.cell 2
              by_cases hdot : g = ⟨#[46]⟩
              · have q1 : (g.toList == [46]) = true := by rw [← dot_list]; exact (beq_list _ _).2 hdot
                have HU : Hid (tagsU g = ⟨#[]⟩) := Lib.hid (if_pos hdot)
                obtain ⟨W8, hw8⟩ : ∃ W, W7.setCell ⟨ib, 2, none⟩ (.string ⟨#[]⟩) = W := ⟨_, rfl⟩
                have HI9 : Hid (Blk W8 ib 55 #[.string a, .string b, .string (tagsU g), .int .i64 v1, .int .i64 v2]) := Lib.hid (by rw [HU.out, ← hw8]; exact HI7.out.set_ 2 _)
                have HS9 : Hid (Kept (fun q => wx.heap.size ≤ q) wx W8) := Lib.hid (by rw [← hw8]; exact HS7.out.setCell (p := ⟨ib, 2, none⟩) (Or.inl HNE.out) _)
                clear hdot HU
                have b0 : W8.cell? ⟨ib, 0, none⟩ = some (.string a) := HI9.out.cell 0
                have b1 : W8.cell? ⟨ib, 1, none⟩ = some (.string b) := HI9.out.cell 1
                have b2 : W8.cell? ⟨ib, 2, none⟩ = some (.string (tagsU g)) := HI9.out.cell 2
                have b3 : W8.cell? ⟨ib, 3, none⟩ = some (.int .i64 v1) := HI9.out.cell 3
                have b4 : W8.cell? ⟨ib, 4, none⟩ = some (.int .i64 v2) := HI9.out.cell 4
                have HGZ := Lib.hid (tagsU_size g)
                have HMY := Lib.hid (by have h := rmayR_any ⟨a, b, tagsU g, v1, v2⟩ W8 (by have := HWZ.out; show a.size ≤ _; omega) (by have := HWZ.out; show b.size ≤ _; omega) (by have := HWZ.out; have := HGZ.out; show (tagsU g).size ≤ _; omega); unfold roA at h; exact h)
                have HBW8 : Hid (Below w.heap.size w W8) := Lib.hid (HBx.out.trans (HS9.out.toBelow (fun i hi => Nat.le_trans HBx.out.size hi) HBx.out.size))
                go_wp2_with fail
                try rw [hw8]
                clear hw8 zi ci
                refine HMY.out.mono ?_
                rintro e V1 ⟨rfl, hv1⟩
                have HB1 : Hid (Below w.heap.size w V1) := Lib.hid (HBW8.out.trans (hv1.mono HBW8.out.size))
                have HIV : Hid (Blk V1 ib 55 #[.string a, .string b, .string (tagsU g), .int .i64 v1, .int .i64 v2]) := Lib.hid (HI9.out.kept (below_kept (S := fun _ => False) hv1 (Nat.le_refl _)) (fun h => h))
                have HSV : Hid (Kept (fun q => wx.heap.size ≤ q) wx V1) := Lib.hid (HS9.out.below hv1 HS9.out.size)
                clear hv1 HMY b0 b1 b2 b3 b4
                cases hm : mayR ⟨a, b, tagsU g, v1, v2⟩
                · have HF : Hid (RParseE s w (.returned (.tuple #[.slice none 0 0, .int .i64 m, .int .i64 2])) V1) := Lib.hid (by
                    have h2 := hpt.out.form HNE0.out HCU.out (by rw [HHD.out]; exact row_doc_no HP.out HR1.out HR2.out hm)
                    rw [hlen.out] at h2
                    exact HER.out _ _ _ h2 HB1.out)
                  clear hm
                  go_wp2_with fail
                  go_ret3
                  exact HF.out
                have HRY : Hid (rowP (headN cur) = some ⟨a, b, tagsU g, v1, v2⟩) := Lib.hid (by rw [HHD.out]; exact rowP_some (row_doc HP.out HGN.out HR1.out HR2.out hm))
                clear hm
                have e0 : V1.cell? ⟨ib, 0, none⟩ = some (.string a) := HIV.out.cell 0
                have HRV : Hid (V1.ownsRow w.heap.size 55 5 (.slice A5 m c5) m (xs.flatMap roC)) := Lib.hid (own_kept HRX.out (below_kept (S := fun _ => False) (HSV.out.toBelow (fun i hi => hi) (Nat.le_refl _)) (Nat.le_refl _)) (fun _ _ h => h))
                have HFD := Lib.hid (rfind_any V1 V1.heap.size A5 xs m c5 a hlen.out (RowIn.of_own HRV.out) (by omega))
                go_wp2_with fail
                refine HFD.out.mono ?_
                rintro e V2 ⟨i, rfl, hfi, rfl⟩
                have HFI := Lib.hid hfi
                clear HFD
                rcases hfi with ⟨rfl, hf⟩ | ⟨k1, r1, rfl, _, hf⟩
                rotate_left
                · have HF : Hid (RParseE s w (.returned (.tuple #[.slice none 0 0, .int .i64 m, .int .i64 7])) V2) := Lib.hid (by
                    have h2 := hpt.out.twice HNE0.out HCU.out HRY.out (by show (findR xs a).isSome = true; rw [hf]; rfl)
                    rw [hlen.out] at h2
                    exact HER.out _ _ _ h2 HB1.out)
                  have h0 : (0 : Int) ≤ (k1 : Int) := by omega
                  clear hf HFI
                  go_wp2_with fail
                  go_ret3
                  exact HF.out
                have HFN : Hid (findR xs a = none) := Lib.hid hf
                clear hf HFI
                by_cases hfull : 4096 ≤ m
                · have qf : (4096 : Int) ≤ (m : Int) := by omega
                  have HF : Hid (RParseE s w (.returned (.tuple #[.slice none 0 0, .int .i64 m, .int .i64 5])) V2) := Lib.hid (by
                    have h2 := hpt.out.full HNE0.out HCU.out HRY.out HFN.out (by rw [hlen.out]; exact hfull)
                    rw [hlen.out] at h2
                    exact HER.out _ _ _ h2 HB1.out)
                  go_wp2_with fail
                  go_ret3
                  exact HF.out
                have qf : ¬ (4096 : Int) ≤ (m : Int) := by omega
                have HPN : Hid (ParseTo s (restN cur) (xs ++ [⟨a, b, tagsU g, v1, v2⟩])) := Lib.hid (hpt.out.next HNE0.out HCU.out HRY.out HFN.out (by rw [hlen.out]; exact hfull))
                have HIO := Lib.hid (row_one ⟨a, b, tagsU g, v1, v2⟩)
                have HR6 := Lib.hid (ro1_row V2 ⟨a, b, tagsU g, v1, v2⟩ 55)
                have d1 : V2.cell? ⟨ib, 1, none⟩ = some (.string b) := HIV.out.cell 1
                have d2 : V2.cell? ⟨ib, 2, none⟩ = some (.string (tagsU g)) := HIV.out.cell 2
                have d3 : V2.cell? ⟨ib, 3, none⟩ = some (.int .i64 v1) := HIV.out.cell 3
                have d4 : V2.cell? ⟨ib, 4, none⟩ = some (.int .i64 v2) := HIV.out.cell 4
                have HRW6 := fun o => Lib.hid (HRV.out.alloc o)
                have hz6 : w.heap.size ≤ (V2.alloc (.cells #[.string a, .string b, .string (tagsU g), .int .i64 v1, .int .i64 v2] 55)).heap.size := by simp; have := HB1.out.size; omega
                go_wp2_with (first
                  | (at_builtin; refine wpList_append_row _ rfl _ _ 27 rfl w.heap.size 55 i0 _ 5 64 Tryz.underlying27 hi0 hz0 hz1 hz2 rfl (by omega) (.slice A5 m c5) m _ rfl (HRW6 _).out (V2.heap.size + 1) (some ⟨V2.heap.size, 0, none⟩) 1 1 _ rfl HR6.out (fun h => by cases h) HIO.out (by unfold maxLen; omega) (by omega) hz6 ?_; intro v8 w8 ho8 hg8 hv8; refine Hid.out ?_))
                obtain ⟨A8, c8, hv⟩ := own_shape ho8
                subst hv
                have HB8 : Hid (Below w.heap.size w w8) := Lib.hid ((HB1.out.alloc HB1.out.size _).grown hg8 (by simp; have := HB1.out.size; omega) (fun j hj => (HRV.out.lt _ hj).1))
                have HO8 : Hid (w8.ownsRow w.heap.size 55 5 (.slice A8 (m + 1) c8) (m + 1) ((xs ++ [(⟨a, b, tagsU g, v1, v2⟩ : Ro)]).flatMap roC)) := Lib.hid (by rw [List.flatMap_append, List.flatMap_cons, List.flatMap_nil, List.append_nil]; exact ho8)
                have HLE : Hid ((xs ++ [(⟨a, b, tagsU g, v1, v2⟩ : Ro)]).length = m + 1) := Lib.hid (by rw [List.length_append, hlen.out]; rfl)
                have HRL : Hid ((restN cur).size < cur.size ∧ 5 * (m + 1) + (restN cur).size ≤ 3000) := Lib.hid (by have := rest_five HCU.out HRY.out; omega)
                clear ho8 hg8 hv8 e0 d1 d2 d3 d4 hz6
                rw [← HRST.out] at HPN HRL
                refine Lib.hid ?_
                go_wp2_with fail
                go_roundw
                case rel => exact ⟨_, A8, c8, m + 1, _, rfl, rfl, by omega, HRL.out.2, HLE, HPN, HO8, HB8⟩
                case measure => exact HRL.out.1
              · have q1 : (g.toList == [46]) = false := by rw [← dot_list]; exact Bool.eq_false_iff.2 (fun e => hdot ((beq_list _ _).1 e))
                have HU : Hid (tagsU g = g) := Lib.hid (if_neg hdot)
                obtain ⟨W8, rfl⟩ : ∃ W, W = W7 := ⟨_, rfl⟩
                have HI9 : Hid (Blk W8 ib 55 #[.string a, .string b, .string (tagsU g), .int .i64 v1, .int .i64 v2]) := Lib.hid (by rw [HU.out]; exact HI7.out)
                have HS9 : Hid (Kept (fun q => wx.heap.size ≤ q) wx W8) := HS7
                clear hdot
                have b0 : W8.cell? ⟨ib, 0, none⟩ = some (.string a) := HI9.out.cell 0
                have b1 : W8.cell? ⟨ib, 1, none⟩ = some (.string b) := HI9.out.cell 1
                skip
                have b3 : W8.cell? ⟨ib, 3, none⟩ = some (.int .i64 v1) := HI9.out.cell 3
                have b4 : W8.cell? ⟨ib, 4, none⟩ = some (.int .i64 v2) := HI9.out.cell 4
                have HGZ := Lib.hid (tagsU_size g)
                have HMY := Lib.hid (by have h := rmayR_any ⟨a, b, tagsU g, v1, v2⟩ W8 (by have := HWZ.out; show a.size ≤ _; omega) (by have := HWZ.out; show b.size ≤ _; omega) (by have := HWZ.out; have := HGZ.out; show (tagsU g).size ≤ _; omega); unfold roA at h; exact h)
                have HBW8 : Hid (Below w.heap.size w W8) := Lib.hid (HBx.out.trans (HS9.out.toBelow (fun i hi => Nat.le_trans HBx.out.size hi) HBx.out.size))
                go_wp2_with fail
                rw [← HU.out]
                clear zi ci
                refine HMY.out.mono ?_
                rintro e V1 ⟨rfl, hv1⟩
                have HB1 : Hid (Below w.heap.size w V1) := Lib.hid (HBW8.out.trans (hv1.mono HBW8.out.size))
                have HIV : Hid (Blk V1 ib 55 #[.string a, .string b, .string (tagsU g), .int .i64 v1, .int .i64 v2]) := Lib.hid (HI9.out.kept (below_kept (S := fun _ => False) hv1 (Nat.le_refl _)) (fun h => h))
                have HSV : Hid (Kept (fun q => wx.heap.size ≤ q) wx V1) := Lib.hid (HS9.out.below hv1 HS9.out.size)
                clear hv1 HMY b0 b1 b3 b4
                cases hm : mayR ⟨a, b, tagsU g, v1, v2⟩
                · have HF : Hid (RParseE s w (.returned (.tuple #[.slice none 0 0, .int .i64 m, .int .i64 2])) V1) := Lib.hid (by
                    have h2 := hpt.out.form HNE0.out HCU.out (by rw [HHD.out]; exact row_doc_no HP.out HR1.out HR2.out hm)
                    rw [hlen.out] at h2
                    exact HER.out _ _ _ h2 HB1.out)
                  clear hm
                  go_wp2_with fail
                  go_ret3
                  exact HF.out
                have HRY : Hid (rowP (headN cur) = some ⟨a, b, tagsU g, v1, v2⟩) := Lib.hid (by rw [HHD.out]; exact rowP_some (row_doc HP.out HGN.out HR1.out HR2.out hm))
                clear hm
                have e0 : V1.cell? ⟨ib, 0, none⟩ = some (.string a) := HIV.out.cell 0
                have HRV : Hid (V1.ownsRow w.heap.size 55 5 (.slice A5 m c5) m (xs.flatMap roC)) := Lib.hid (own_kept HRX.out (below_kept (S := fun _ => False) (HSV.out.toBelow (fun i hi => hi) (Nat.le_refl _)) (Nat.le_refl _)) (fun _ _ h => h))
                have HFD := Lib.hid (rfind_any V1 V1.heap.size A5 xs m c5 a hlen.out (RowIn.of_own HRV.out) (by omega))
                go_wp2_with fail
                refine HFD.out.mono ?_
                rintro e V2 ⟨i, rfl, hfi, rfl⟩
                have HFI := Lib.hid hfi
                clear HFD
                rcases hfi with ⟨rfl, hf⟩ | ⟨k1, r1, rfl, _, hf⟩
                rotate_left
                · have HF : Hid (RParseE s w (.returned (.tuple #[.slice none 0 0, .int .i64 m, .int .i64 7])) V2) := Lib.hid (by
                    have h2 := hpt.out.twice HNE0.out HCU.out HRY.out (by show (findR xs a).isSome = true; rw [hf]; rfl)
                    rw [hlen.out] at h2
                    exact HER.out _ _ _ h2 HB1.out)
                  have h0 : (0 : Int) ≤ (k1 : Int) := by omega
                  clear hf HFI
                  go_wp2_with fail
                  go_ret3
                  exact HF.out
                have HFN : Hid (findR xs a = none) := Lib.hid hf
                clear hf HFI
                by_cases hfull : 4096 ≤ m
                · have qf : (4096 : Int) ≤ (m : Int) := by omega
                  have HF : Hid (RParseE s w (.returned (.tuple #[.slice none 0 0, .int .i64 m, .int .i64 5])) V2) := Lib.hid (by
                    have h2 := hpt.out.full HNE0.out HCU.out HRY.out HFN.out (by rw [hlen.out]; exact hfull)
                    rw [hlen.out] at h2
                    exact HER.out _ _ _ h2 HB1.out)
                  go_wp2_with fail
                  go_ret3
                  exact HF.out
                have qf : ¬ (4096 : Int) ≤ (m : Int) := by omega
                have HPN : Hid (ParseTo s (restN cur) (xs ++ [⟨a, b, tagsU g, v1, v2⟩])) := Lib.hid (hpt.out.next HNE0.out HCU.out HRY.out HFN.out (by rw [hlen.out]; exact hfull))
                have HIO := Lib.hid (row_one ⟨a, b, tagsU g, v1, v2⟩)
                have HR6 := Lib.hid (ro1_row V2 ⟨a, b, tagsU g, v1, v2⟩ 55)
                have d1 : V2.cell? ⟨ib, 1, none⟩ = some (.string b) := HIV.out.cell 1
                have d2 : V2.cell? ⟨ib, 2, none⟩ = some (.string (tagsU g)) := HIV.out.cell 2
                have d3 : V2.cell? ⟨ib, 3, none⟩ = some (.int .i64 v1) := HIV.out.cell 3
                have d4 : V2.cell? ⟨ib, 4, none⟩ = some (.int .i64 v2) := HIV.out.cell 4
                have HRW6 := fun o => Lib.hid (HRV.out.alloc o)
                have hz6 : w.heap.size ≤ (V2.alloc (.cells #[.string a, .string b, .string (tagsU g), .int .i64 v1, .int .i64 v2] 55)).heap.size := by simp; have := HB1.out.size; omega
                go_wp2_with (first
                  | (at_builtin; refine wpList_append_row _ rfl _ _ 27 rfl w.heap.size 55 i0 _ 5 64 Tryz.underlying27 hi0 hz0 hz1 hz2 rfl (by omega) (.slice A5 m c5) m _ rfl (HRW6 _).out (V2.heap.size + 1) (some ⟨V2.heap.size, 0, none⟩) 1 1 _ rfl HR6.out (fun h => by cases h) HIO.out (by unfold maxLen; omega) (by omega) hz6 ?_; intro v8 w8 ho8 hg8 hv8; refine Hid.out ?_))
                obtain ⟨A8, c8, hv⟩ := own_shape ho8
                subst hv
                have HB8 : Hid (Below w.heap.size w w8) := Lib.hid ((HB1.out.alloc HB1.out.size _).grown hg8 (by simp; have := HB1.out.size; omega) (fun j hj => (HRV.out.lt _ hj).1))
                have HO8 : Hid (w8.ownsRow w.heap.size 55 5 (.slice A8 (m + 1) c8) (m + 1) ((xs ++ [(⟨a, b, tagsU g, v1, v2⟩ : Ro)]).flatMap roC)) := Lib.hid (by rw [List.flatMap_append, List.flatMap_cons, List.flatMap_nil, List.append_nil]; exact ho8)
                have HLE : Hid ((xs ++ [(⟨a, b, tagsU g, v1, v2⟩ : Ro)]).length = m + 1) := Lib.hid (by rw [List.length_append, hlen.out]; rfl)
                have HRL : Hid ((restN cur).size < cur.size ∧ 5 * (m + 1) + (restN cur).size ≤ 3000) := Lib.hid (by have := rest_five HCU.out HRY.out; omega)
                clear ho8 hg8 hv8 e0 d1 d2 d3 d4 hz6
                rw [← HRST.out] at HPN HRL
                refine Lib.hid ?_
                go_wp2_with fail
                go_roundw
                case rel => exact ⟨_, A8, c8, m + 1, _, rfl, rfl, by omega, HRL.out.2, HLE, HPN, HO8, HB8⟩
                case measure => exact HRL.out.1
          · obtain ⟨ib, hib⟩ : ∃ ib, wd.heap.size = ib := ⟨_, rfl⟩
            obtain ⟨W3, hal⟩ : ∃ W, wd.alloc (.cells #[.string ⟨#[]⟩, .string ⟨#[]⟩, .string ⟨#[]⟩, .int .i64 0, .int .i64 0] 55) = W := ⟨_, rfl⟩
            have HI_W3 : Hid (Blk W3 ib 55 #[.string ⟨#[]⟩, .string ⟨#[]⟩, .string ⟨#[]⟩, .int .i64 0, .int .i64 0]) := Lib.hid (by rw [← hal, ← hib]; exact Blk.new _ _ _)
            have HS_W3 : Hid (Kept (fun q => wx.heap.size ≤ q) wx W3) := Lib.hid (by rw [← hal]; exact HS_wd.out.alloc _)
            have HNE : Hid (wx.heap.size ≤ ib) := Lib.hid (by rw [← hib]; exact HS_wd.out.size)
            go_wp2_with fail
            try rw [hib]
            try rw [hal]
            clear hib hal
            refine ⟨HS_W3.out, ?_⟩
            repeat (first | (refine planT_on _ (by rfl) (fun W hW => by (obtain ⟨x0, x1, x2, x3, x4⟩ := HSC.out W hW; go_simp; try with_reducible rfl)) ?_; simp only [Act.put, List.setIfInBounds_toArray, List.set_cons_zero, List.set_cons_succ]) | (refine planT_off (by rfl) ?_; simp only [Act.put, List.setIfInBounds_toArray, List.set_cons_zero, List.set_cons_succ]))
            refine planT_turn ?_
            have HC1 := Lib.hid (rnum_any p W3 (by have := HWZ.out; omega))
            go_wp2_with fail
            refine HC1.out.mono ?_
            rintro e W1 ⟨v1, rfl, hr1, rfl⟩
            have HR1 := Lib.hid hr1
            clear hr1 HC1
            go_wp2_with fail
            refine ⟨HS_W3.out, ?_⟩
            repeat (first | (refine planT_on _ (by rfl) (fun W hW => by (obtain ⟨x0, x1, x2, x3, x4⟩ := HSC.out W hW; go_simp; try with_reducible rfl)) ?_; simp only [Act.put, List.setIfInBounds_toArray, List.set_cons_zero, List.set_cons_succ]) | (refine planT_off (by rfl) ?_; simp only [Act.put, List.setIfInBounds_toArray, List.set_cons_zero, List.set_cons_succ]))
            refine planT_turn ?_
            have HC2 := Lib.hid (rnum_any q W3 (by have := HWZ.out; omega))
            go_wp2_with fail
            refine HC2.out.mono ?_
            rintro e W2 ⟨v2, rfl, hr2, rfl⟩
            have HR2 := Lib.hid hr2
            clear hr2 HC2
            go_wp2_with fail
            refine ⟨HS_W3.out, ?_⟩
            repeat (first | (refine planT_on _ (by rfl) (fun W hW => by (obtain ⟨x0, x1, x2, x3, x4⟩ := HSC.out W hW; go_simp; try with_reducible rfl)) ?_; simp only [Act.put, List.setIfInBounds_toArray, List.set_cons_zero, List.set_cons_succ]) | (refine planT_off (by rfl) ?_; simp only [Act.put, List.setIfInBounds_toArray, List.set_cons_zero, List.set_cons_succ]))
            refine planT_turn ?_
            refine wpList_store_blk W3 rfl 55 _ _ rfl 0 #[.string a, .string b, .string g, .int .i64 v1, .int .i64 v2] rfl rfl HI_W3.out (by show 0 + 5 ≤ 5; omega) (by kernel_rfl) (by simp [Value.oneCell']) ?_
            intro W7 hi7 hk7 hz7
            have HI7 : Hid (Blk W7 ib 55 #[.string a, .string b, .string g, .int .i64 v1, .int .i64 v2]) := Lib.hid hi7
            have HS7 : Hid (Kept (fun q => wx.heap.size ≤ q) wx W7) := Lib.hid (HS_W3.out.trans' hk7 (fun i hi h => by have h2 : i = ib := h; show wx.heap.size ≤ i; rw [h2]; exact HNE.out))
            clear hi7 hk7 hz7
            go_wp2_with fail
            refine ⟨HS7.out, ?_⟩
            refine planT_done ?_
            have zi : W7.frozen? ⟨ib, 2, none⟩ = false := HI7.out.frozen 2
            have ci : W7.cell? ⟨ib, 2, none⟩ = some (.string g) := HI7.out.cell 2
            by_cases hdot : g = ⟨#[46]⟩
            · have q1 : (g.toList == [46]) = true := by rw [← dot_list]; exact (beq_list _ _).2 hdot
              have HU : Hid (tagsU g = ⟨#[]⟩) := Lib.hid (if_pos hdot)
              obtain ⟨W8, hw8⟩ : ∃ W, W7.setCell ⟨ib, 2, none⟩ (.string ⟨#[]⟩) = W := ⟨_, rfl⟩
              have HI9 : Hid (Blk W8 ib 55 #[.string a, .string b, .string (tagsU g), .int .i64 v1, .int .i64 v2]) := Lib.hid (by rw [HU.out, ← hw8]; exact HI7.out.set_ 2 _)
              have HS9 : Hid (Kept (fun q => wx.heap.size ≤ q) wx W8) := Lib.hid (by rw [← hw8]; exact HS7.out.setCell (p := ⟨ib, 2, none⟩) (Or.inl HNE.out) _)
              clear hdot HU
              have b0 : W8.cell? ⟨ib, 0, none⟩ = some (.string a) := HI9.out.cell 0
              have b1 : W8.cell? ⟨ib, 1, none⟩ = some (.string b) := HI9.out.cell 1
              have b2 : W8.cell? ⟨ib, 2, none⟩ = some (.string (tagsU g)) := HI9.out.cell 2
              have b3 : W8.cell? ⟨ib, 3, none⟩ = some (.int .i64 v1) := HI9.out.cell 3
              have b4 : W8.cell? ⟨ib, 4, none⟩ = some (.int .i64 v2) := HI9.out.cell 4
              have HGZ := Lib.hid (tagsU_size g)
              have HMY := Lib.hid (by have h := rmayR_any ⟨a, b, tagsU g, v1, v2⟩ W8 (by have := HWZ.out; show a.size ≤ _; omega) (by have := HWZ.out; show b.size ≤ _; omega) (by have := HWZ.out; have := HGZ.out; show (tagsU g).size ≤ _; omega); unfold roA at h; exact h)
              have HBW8 : Hid (Below w.heap.size w W8) := Lib.hid (HBx.out.trans (HS9.out.toBelow (fun i hi => Nat.le_trans HBx.out.size hi) HBx.out.size))
              go_wp2_with fail
              try rw [hw8]
              clear hw8 zi ci
              refine HMY.out.mono ?_
              rintro e V1 ⟨rfl, hv1⟩
              have HB1 : Hid (Below w.heap.size w V1) := Lib.hid (HBW8.out.trans (hv1.mono HBW8.out.size))
              have HIV : Hid (Blk V1 ib 55 #[.string a, .string b, .string (tagsU g), .int .i64 v1, .int .i64 v2]) := Lib.hid (HI9.out.kept (below_kept (S := fun _ => False) hv1 (Nat.le_refl _)) (fun h => h))
              have HSV : Hid (Kept (fun q => wx.heap.size ≤ q) wx V1) := Lib.hid (HS9.out.below hv1 HS9.out.size)
              clear hv1 HMY b0 b1 b2 b3 b4
              cases hm : mayR ⟨a, b, tagsU g, v1, v2⟩
              · have HF : Hid (RParseE s w (.returned (.tuple #[.slice none 0 0, .int .i64 m, .int .i64 2])) V1) := Lib.hid (by
                  have h2 := hpt.out.form HNE0.out HCU.out (by rw [HHD.out]; exact row_doc_no HP.out HR1.out HR2.out hm)
                  rw [hlen.out] at h2
                  exact HER.out _ _ _ h2 HB1.out)
                clear hm
                go_wp2_with fail
                go_ret3
                exact HF.out
              have HRY : Hid (rowP (headN cur) = some ⟨a, b, tagsU g, v1, v2⟩) := Lib.hid (by rw [HHD.out]; exact rowP_some (row_doc HP.out HGN.out HR1.out HR2.out hm))
              clear hm
              have e0 : V1.cell? ⟨ib, 0, none⟩ = some (.string a) := HIV.out.cell 0
              have HRV : Hid (V1.ownsRow w.heap.size 55 5 (.slice A5 m c5) m (xs.flatMap roC)) := Lib.hid (own_kept HRX.out (below_kept (S := fun _ => False) (HSV.out.toBelow (fun i hi => hi) (Nat.le_refl _)) (Nat.le_refl _)) (fun _ _ h => h))
              have HFD := Lib.hid (rfind_any V1 V1.heap.size A5 xs m c5 a hlen.out (RowIn.of_own HRV.out) (by omega))
              go_wp2_with fail
              refine HFD.out.mono ?_
              rintro e V2 ⟨i, rfl, hfi, rfl⟩
              have HFI := Lib.hid hfi
              clear HFD
              rcases hfi with ⟨rfl, hf⟩ | ⟨k1, r1, rfl, _, hf⟩
              rotate_left
              · have HF : Hid (RParseE s w (.returned (.tuple #[.slice none 0 0, .int .i64 m, .int .i64 7])) V2) := Lib.hid (by
                  have h2 := hpt.out.twice HNE0.out HCU.out HRY.out (by show (findR xs a).isSome = true; rw [hf]; rfl)
                  rw [hlen.out] at h2
                  exact HER.out _ _ _ h2 HB1.out)
                have h0 : (0 : Int) ≤ (k1 : Int) := by omega
                clear hf HFI
                go_wp2_with fail
                go_ret3
                exact HF.out
              have HFN : Hid (findR xs a = none) := Lib.hid hf
              clear hf HFI
              by_cases hfull : 4096 ≤ m
              · have qf : (4096 : Int) ≤ (m : Int) := by omega
                have HF : Hid (RParseE s w (.returned (.tuple #[.slice none 0 0, .int .i64 m, .int .i64 5])) V2) := Lib.hid (by
                  have h2 := hpt.out.full HNE0.out HCU.out HRY.out HFN.out (by rw [hlen.out]; exact hfull)
                  rw [hlen.out] at h2
                  exact HER.out _ _ _ h2 HB1.out)
                go_wp2_with fail
                go_ret3
                exact HF.out
              have qf : ¬ (4096 : Int) ≤ (m : Int) := by omega
              have HPN : Hid (ParseTo s (restN cur) (xs ++ [⟨a, b, tagsU g, v1, v2⟩])) := Lib.hid (hpt.out.next HNE0.out HCU.out HRY.out HFN.out (by rw [hlen.out]; exact hfull))
              have HIO := Lib.hid (row_one ⟨a, b, tagsU g, v1, v2⟩)
              have HR6 := Lib.hid (ro1_row V2 ⟨a, b, tagsU g, v1, v2⟩ 55)
              have d1 : V2.cell? ⟨ib, 1, none⟩ = some (.string b) := HIV.out.cell 1
              have d2 : V2.cell? ⟨ib, 2, none⟩ = some (.string (tagsU g)) := HIV.out.cell 2
              have d3 : V2.cell? ⟨ib, 3, none⟩ = some (.int .i64 v1) := HIV.out.cell 3
              have d4 : V2.cell? ⟨ib, 4, none⟩ = some (.int .i64 v2) := HIV.out.cell 4
              have HRW6 := fun o => Lib.hid (HRV.out.alloc o)
              have hz6 : w.heap.size ≤ (V2.alloc (.cells #[.string a, .string b, .string (tagsU g), .int .i64 v1, .int .i64 v2] 55)).heap.size := by simp; have := HB1.out.size; omega
              go_wp2_with (first
                | (at_builtin; refine wpList_append_row _ rfl _ _ 27 rfl w.heap.size 55 i0 _ 5 64 Tryz.underlying27 hi0 hz0 hz1 hz2 rfl (by omega) (.slice A5 m c5) m _ rfl (HRW6 _).out (V2.heap.size + 1) (some ⟨V2.heap.size, 0, none⟩) 1 1 _ rfl HR6.out (fun h => by cases h) HIO.out (by unfold maxLen; omega) (by omega) hz6 ?_; intro v8 w8 ho8 hg8 hv8; refine Hid.out ?_))
              obtain ⟨A8, c8, hv⟩ := own_shape ho8
              subst hv
              have HB8 : Hid (Below w.heap.size w w8) := Lib.hid ((HB1.out.alloc HB1.out.size _).grown hg8 (by simp; have := HB1.out.size; omega) (fun j hj => (HRV.out.lt _ hj).1))
              have HO8 : Hid (w8.ownsRow w.heap.size 55 5 (.slice A8 (m + 1) c8) (m + 1) ((xs ++ [(⟨a, b, tagsU g, v1, v2⟩ : Ro)]).flatMap roC)) := Lib.hid (by rw [List.flatMap_append, List.flatMap_cons, List.flatMap_nil, List.append_nil]; exact ho8)
              have HLE : Hid ((xs ++ [(⟨a, b, tagsU g, v1, v2⟩ : Ro)]).length = m + 1) := Lib.hid (by rw [List.length_append, hlen.out]; rfl)
              have HRL : Hid ((restN cur).size < cur.size ∧ 5 * (m + 1) + (restN cur).size ≤ 3000) := Lib.hid (by have := rest_five HCU.out HRY.out; omega)
              clear ho8 hg8 hv8 e0 d1 d2 d3 d4 hz6
              rw [← HRST.out] at HPN HRL
              refine Lib.hid ?_
              go_wp2_with fail
              go_roundw
              case rel => exact ⟨_, A8, c8, m + 1, _, rfl, rfl, by omega, HRL.out.2, HLE, HPN, HO8, HB8⟩
              case measure => exact HRL.out.1
            · have q1 : (g.toList == [46]) = false := by rw [← dot_list]; exact Bool.eq_false_iff.2 (fun e => hdot ((beq_list _ _).1 e))
              have HU : Hid (tagsU g = g) := Lib.hid (if_neg hdot)
              obtain ⟨W8, rfl⟩ : ∃ W, W = W7 := ⟨_, rfl⟩
              have HI9 : Hid (Blk W8 ib 55 #[.string a, .string b, .string (tagsU g), .int .i64 v1, .int .i64 v2]) := Lib.hid (by rw [HU.out]; exact HI7.out)
              have HS9 : Hid (Kept (fun q => wx.heap.size ≤ q) wx W8) := HS7
              clear hdot
              have b0 : W8.cell? ⟨ib, 0, none⟩ = some (.string a) := HI9.out.cell 0
              have b1 : W8.cell? ⟨ib, 1, none⟩ = some (.string b) := HI9.out.cell 1
              skip
              have b3 : W8.cell? ⟨ib, 3, none⟩ = some (.int .i64 v1) := HI9.out.cell 3
              have b4 : W8.cell? ⟨ib, 4, none⟩ = some (.int .i64 v2) := HI9.out.cell 4
              have HGZ := Lib.hid (tagsU_size g)
              have HMY := Lib.hid (by have h := rmayR_any ⟨a, b, tagsU g, v1, v2⟩ W8 (by have := HWZ.out; show a.size ≤ _; omega) (by have := HWZ.out; show b.size ≤ _; omega) (by have := HWZ.out; have := HGZ.out; show (tagsU g).size ≤ _; omega); unfold roA at h; exact h)
              have HBW8 : Hid (Below w.heap.size w W8) := Lib.hid (HBx.out.trans (HS9.out.toBelow (fun i hi => Nat.le_trans HBx.out.size hi) HBx.out.size))
              go_wp2_with fail
              rw [← HU.out]
              clear zi ci
              refine HMY.out.mono ?_
              rintro e V1 ⟨rfl, hv1⟩
              have HB1 : Hid (Below w.heap.size w V1) := Lib.hid (HBW8.out.trans (hv1.mono HBW8.out.size))
              have HIV : Hid (Blk V1 ib 55 #[.string a, .string b, .string (tagsU g), .int .i64 v1, .int .i64 v2]) := Lib.hid (HI9.out.kept (below_kept (S := fun _ => False) hv1 (Nat.le_refl _)) (fun h => h))
              have HSV : Hid (Kept (fun q => wx.heap.size ≤ q) wx V1) := Lib.hid (HS9.out.below hv1 HS9.out.size)
              clear hv1 HMY b0 b1 b3 b4
              cases hm : mayR ⟨a, b, tagsU g, v1, v2⟩
              · have HF : Hid (RParseE s w (.returned (.tuple #[.slice none 0 0, .int .i64 m, .int .i64 2])) V1) := Lib.hid (by
                  have h2 := hpt.out.form HNE0.out HCU.out (by rw [HHD.out]; exact row_doc_no HP.out HR1.out HR2.out hm)
                  rw [hlen.out] at h2
                  exact HER.out _ _ _ h2 HB1.out)
                clear hm
                go_wp2_with fail
                go_ret3
                exact HF.out
              have HRY : Hid (rowP (headN cur) = some ⟨a, b, tagsU g, v1, v2⟩) := Lib.hid (by rw [HHD.out]; exact rowP_some (row_doc HP.out HGN.out HR1.out HR2.out hm))
              clear hm
              have e0 : V1.cell? ⟨ib, 0, none⟩ = some (.string a) := HIV.out.cell 0
              have HRV : Hid (V1.ownsRow w.heap.size 55 5 (.slice A5 m c5) m (xs.flatMap roC)) := Lib.hid (own_kept HRX.out (below_kept (S := fun _ => False) (HSV.out.toBelow (fun i hi => hi) (Nat.le_refl _)) (Nat.le_refl _)) (fun _ _ h => h))
              have HFD := Lib.hid (rfind_any V1 V1.heap.size A5 xs m c5 a hlen.out (RowIn.of_own HRV.out) (by omega))
              go_wp2_with fail
              refine HFD.out.mono ?_
              rintro e V2 ⟨i, rfl, hfi, rfl⟩
              have HFI := Lib.hid hfi
              clear HFD
              rcases hfi with ⟨rfl, hf⟩ | ⟨k1, r1, rfl, _, hf⟩
              rotate_left
              · have HF : Hid (RParseE s w (.returned (.tuple #[.slice none 0 0, .int .i64 m, .int .i64 7])) V2) := Lib.hid (by
                  have h2 := hpt.out.twice HNE0.out HCU.out HRY.out (by show (findR xs a).isSome = true; rw [hf]; rfl)
                  rw [hlen.out] at h2
                  exact HER.out _ _ _ h2 HB1.out)
                have h0 : (0 : Int) ≤ (k1 : Int) := by omega
                clear hf HFI
                go_wp2_with fail
                go_ret3
                exact HF.out
              have HFN : Hid (findR xs a = none) := Lib.hid hf
              clear hf HFI
              by_cases hfull : 4096 ≤ m
              · have qf : (4096 : Int) ≤ (m : Int) := by omega
                have HF : Hid (RParseE s w (.returned (.tuple #[.slice none 0 0, .int .i64 m, .int .i64 5])) V2) := Lib.hid (by
                  have h2 := hpt.out.full HNE0.out HCU.out HRY.out HFN.out (by rw [hlen.out]; exact hfull)
                  rw [hlen.out] at h2
                  exact HER.out _ _ _ h2 HB1.out)
                go_wp2_with fail
                go_ret3
                exact HF.out
              have qf : ¬ (4096 : Int) ≤ (m : Int) := by omega
              have HPN : Hid (ParseTo s (restN cur) (xs ++ [⟨a, b, tagsU g, v1, v2⟩])) := Lib.hid (hpt.out.next HNE0.out HCU.out HRY.out HFN.out (by rw [hlen.out]; exact hfull))
              have HIO := Lib.hid (row_one ⟨a, b, tagsU g, v1, v2⟩)
              have HR6 := Lib.hid (ro1_row V2 ⟨a, b, tagsU g, v1, v2⟩ 55)
              have d1 : V2.cell? ⟨ib, 1, none⟩ = some (.string b) := HIV.out.cell 1
              have d2 : V2.cell? ⟨ib, 2, none⟩ = some (.string (tagsU g)) := HIV.out.cell 2
              have d3 : V2.cell? ⟨ib, 3, none⟩ = some (.int .i64 v1) := HIV.out.cell 3
              have d4 : V2.cell? ⟨ib, 4, none⟩ = some (.int .i64 v2) := HIV.out.cell 4
              have HRW6 := fun o => Lib.hid (HRV.out.alloc o)
              have hz6 : w.heap.size ≤ (V2.alloc (.cells #[.string a, .string b, .string (tagsU g), .int .i64 v1, .int .i64 v2] 55)).heap.size := by simp; have := HB1.out.size; omega
              go_wp2_with (first
                | (at_builtin; refine wpList_append_row _ rfl _ _ 27 rfl w.heap.size 55 i0 _ 5 64 Tryz.underlying27 hi0 hz0 hz1 hz2 rfl (by omega) (.slice A5 m c5) m _ rfl (HRW6 _).out (V2.heap.size + 1) (some ⟨V2.heap.size, 0, none⟩) 1 1 _ rfl HR6.out (fun h => by cases h) HIO.out (by unfold maxLen; omega) (by omega) hz6 ?_; intro v8 w8 ho8 hg8 hv8; refine Hid.out ?_))
              obtain ⟨A8, c8, hv⟩ := own_shape ho8
              subst hv
              have HB8 : Hid (Below w.heap.size w w8) := Lib.hid ((HB1.out.alloc HB1.out.size _).grown hg8 (by simp; have := HB1.out.size; omega) (fun j hj => (HRV.out.lt _ hj).1))
              have HO8 : Hid (w8.ownsRow w.heap.size 55 5 (.slice A8 (m + 1) c8) (m + 1) ((xs ++ [(⟨a, b, tagsU g, v1, v2⟩ : Ro)]).flatMap roC)) := Lib.hid (by rw [List.flatMap_append, List.flatMap_cons, List.flatMap_nil, List.append_nil]; exact ho8)
              have HLE : Hid ((xs ++ [(⟨a, b, tagsU g, v1, v2⟩ : Ro)]).length = m + 1) := Lib.hid (by rw [List.length_append, hlen.out]; rfl)
              have HRL : Hid ((restN cur).size < cur.size ∧ 5 * (m + 1) + (restN cur).size ≤ 3000) := Lib.hid (by have := rest_five HCU.out HRY.out; omega)
              clear ho8 hg8 hv8 e0 d1 d2 d3 d4 hz6
              rw [← HRST.out] at HPN HRL
              refine Lib.hid ?_
              go_wp2_with fail
              go_roundw
              case rel => exact ⟨_, A8, c8, m + 1, _, rfl, rfl, by omega, HRL.out.2, HLE, HPN, HO8, HB8⟩
              case measure => exact HRL.out.1
        · have q1 : (((cur[k]'hlt).toNat : Int) == 10) = false := by
            rw [Bool.eq_false_iff]
            intro e
            have := beq_iff_eq.1 e
            exact hq (by apply UInt8.toNat_inj.1; show (cur[k]'hlt).toNat = 10; omega)
          have HNX := Lib.hid (hno.out.next hlt hq)
          clear hq
          go_wp2_with fail
          go_roundw
          case rel => exact ⟨k + 1, by omega, by go_num, HNX, by first | rfl | trivial⟩
          case measure => simp [intOf]; omega
      · obtain rfl : cur.size = k := by omega
        have HF : Hid (RParseE s w (.returned (.tuple #[.slice none 0 0, .int .i64 m, .int .i64 3])) wr) := Lib.hid (by
          have h2 := hpt.out.torn HNE0.out hno.out.all
          rw [hlen.out] at h2
          exact HER.out _ _ _ h2 hbw.out)
        go_wp2_with fail
        go_ret3
        exact HF.out

end Go.Proofs.YtikbckpphkpaiaaGreatDoor
