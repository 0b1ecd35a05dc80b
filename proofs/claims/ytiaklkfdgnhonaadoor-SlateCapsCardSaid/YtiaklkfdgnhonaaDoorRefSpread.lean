/- Spread of the document. -/
import Derived.Test.YtiaklkfdgnhonaaDoorSpread
namespace Go.Proofs.YtiaklkfdgnhonaaDoor
open Go.Shelf Go.RowKit Go.Lib Go.Sort Go.Maps
set_option linter.unusedVariables false

theorem foldU_mem : ∀ (l acc : List Mk) (m : Mk), m ∈ l.foldl addU acc ↔ m ∈ acc ∨ m ∈ l
  | [], acc, m => by simp
  | a :: l, acc, m => by
    rw [List.foldl_cons, foldU_mem l, List.mem_cons]
    unfold addU
    split
    · rename_i h
      constructor
      · rintro (h1 | h1)
        · exact Or.inl h1
        · exact Or.inr (Or.inr h1)
      · rintro (h1 | rfl | h1)
        · exact Or.inl h1
        · exact Or.inl h
        · exact Or.inr h1
    · simp only [List.mem_append, List.mem_singleton, or_assoc]
theorem foldU_cnt : ∀ (l acc : List Mk), l.Nodup → (l.foldl addU acc).length = acc.length + l.countP (fun m => decide (m ∉ acc))
  | [], acc, _ => by simp
  | a :: l, acc, h => by
    obtain ⟨h1, h2⟩ := List.nodup_cons.1 h
    rw [List.foldl_cons, foldU_cnt l _ h2, List.countP_cons]
    by_cases ha : a ∈ acc
    · have e : addU acc a = acc := by unfold addU; rw [if_pos ha]
      rw [e]; simp [ha]
    · have e : addU acc a = acc ++ [a] := by unfold addU; rw [if_neg ha]
      rw [e, List.length_append]
      have e2 : l.countP (fun m => decide (m ∉ acc ++ [a])) = l.countP (fun m => decide (m ∉ acc)) := by
        apply List.countP_congr
        intro m hm
        have : m ≠ a := fun e => h1 (e ▸ hm)
        simp [this]
      rw [e2]
      simp [ha]; omega
theorem allM_snoc (s : List Ch) (x : Ch) : allM (s ++ [x]) = (marksP x).foldl addU (allM s) := by unfold allM; rw [List.foldl_append]; rfl
theorem allM_mem (m : Mk) : ∀ (s : List Ch), m ∈ allM s ↔ ∃ y ∈ s, m ∈ marksP y := by
  have h : ∀ (s : List Ch) (acc : List Mk), m ∈ s.foldl (fun acc y => (marksP y).foldl addU acc) acc ↔ m ∈ acc ∨ ∃ y ∈ s, m ∈ marksP y := by
    intro s
    induction s with
    | nil => intro acc; simp
    | cons x s ih => intro acc; rw [List.foldl_cons, ih, foldU_mem]; simp [or_assoc]
  intro s
  have := h s []
  simpa [allM] using this
/-- How many new ones x brings. -/
theorem allM_step (s : List Ch) (x : Ch) : (allM (s ++ [x])).length = (allM s).length + (if x.maker ≠ ⟨#[]⟩ ∧ (∀ y ∈ s, y.maker ≠ x.maker) then 1 else 0) + (tagsP x.tags).countP (fun t => decide (∀ y ∈ s, t ∉ tagsP y.tags)) := by
  rw [allM_snoc, foldU_cnt _ _ (marksP_nodup x), marksP_eq, List.countP_append, List.countP_map]
  have e1 : (startM x.maker).countP (fun m => decide (m ∉ allM s)) = if x.maker ≠ ⟨#[]⟩ ∧ (∀ y ∈ s, y.maker ≠ x.maker) then 1 else 0 := by
    unfold startM
    by_cases hm : x.maker = ⟨#[]⟩
    · rw [if_pos hm, if_neg (by simp [hm])]; rfl
    · rw [if_neg hm]
      have : (⟨false, x.maker⟩ : Mk) ∉ allM s ↔ ∀ y ∈ s, y.maker ≠ x.maker := by
        rw [allM_mem]
        constructor
        · intro h y hy e
          exact h ⟨y, hy, (mem_maker y _).2 ⟨e.symm, by rw [e]; exact hm⟩⟩
        · rintro h ⟨y, hy, hy2⟩
          exact h y hy ((mem_maker y _).1 hy2).1.symm
      by_cases h2 : ∀ y ∈ s, y.maker ≠ x.maker
      · rw [if_pos ⟨hm, h2⟩]
        simp [this.2 h2]
      · rw [if_neg (fun h => h2 h.2)]
        simp only [List.countP_cons, List.countP_nil]
        rw [if_neg (by simpa using fun h => h2 (this.1 h))]
  have e2 : (tagsP x.tags).countP ((fun m => decide (m ∉ allM s)) ∘ tg) = (tagsP x.tags).countP (fun t => decide (∀ y ∈ s, t ∉ tagsP y.tags)) := by
    apply List.countP_congr
    intro t _
    simp only [Function.comp, decide_eq_true_eq]
    rw [allM_mem]
    constructor
    · intro h y hy ht
      exact h ⟨y, hy, (mem_tag y t).2 ht⟩
    · rintro h ⟨y, hy, hy2⟩
      exact h y hy ((mem_tag y t).1 hy2)
  rw [e1, e2]
  omega
/-- Has none of s the tag t? -/
def newT (s : List Ch) (t : ByteArray) : Bool := decide (∀ y ∈ s, t ∉ tagsP y.tags)

set_option maxHeartbeats 4000000 in
set_option maxRecDepth 100000 in
theorem refspread_any (w : World) (B : Nat) (A : Option Addr) (s : List Ch) (n c : Nat) (hn : s.length = n) (hl : ChsAt w B A s) (hB : B ≤ w.heap.size) (hb : n ≤ 1000) (hok : Okc s) :
    Calls Tryd.prog 21 #[.slice A n c] w fun e w' => e = .returned (.int .i64 (allM s).length) ∧ Below w.heap.size w w' := by
  have HN := Lib.hid hn
  have HOK := Lib.hid hok
  have HL := Lib.hid hl
  clear hl hn hok
  go_enter Tryd.func21, Tryd.ntmps21
  go_wp2_with fail
  go_loopw [3, 4] (fun nv iv wr => ∃ (i q : Nat), i ≤ n ∧ iv = .int .i64 i ∧ nv = .int .i64 q ∧ Hid (q = (allM (s.take i)).length) ∧ q ≤ i * 310 ∧ Hid (Below w.heap.size w wr)) (fun _ iv _ => n - (intOf iv).toNat)
  case atStart => exact ⟨0, 0, Nat.zero_le _, rfl, rfl, Lib.hid rfl, Nat.le_refl _, Lib.hid (Below.refl _ _)⟩
  case round =>
    obtain ⟨i, q, hi, rfl, rfl, hq, hqb, hbw⟩ := hrel
    obtain ⟨wo, rfl⟩ : ∃ wo : World, wo = wr := ⟨_, rfl⟩
    by_cases hil : i < n
    · obtain ⟨x, hx⟩ : ∃ x, s[i]? = some x := ⟨s[i]'(by rw [HN.out]; exact hil), List.getElem?_eq_getElem _⟩
      have hxo := HOK.out x (List.mem_of_getElem? hx)
      obtain ⟨g, o, rfl, hgB, hcl⟩ := HL.out.at (by rw [HN.out]; omega)
      have hgw : g < w.heap.size := by omega
      have HCL := Lib.hid hcl
      have htk : s.take (i + 1) = s.take i ++ [x] := by rw [List.take_add_one, hx]; rfl
      have HST : Hid ((allM (s.take (i + 1))).length = q + (if x.maker ≠ ⟨#[]⟩ ∧ (∀ y ∈ s.take i, y.maker ≠ x.maker) then 1 else 0) + (tagsP x.tags).countP (newT (s.take i))) := Lib.hid (by rw [htk, allM_step, ← hq.out]; rfl)
      obtain ⟨e0, e1, e2, e3⟩ : ChAt wo g (o + i * 4) x := (hcl i x hx).keep (fun j => hbw.out.cell (p := ⟨g, j, none⟩) hgw)
      have hi8 : (i : Int) < (n : Int) := by omega
      have hi9 : (0 : Int) ≤ (i : Int) := by omega
      have HX := Lib.hid hx
      have HXC : Hid (ChAt w g (o + i * 4) x) := Lib.hid (hcl i x hx)
      clear hcl htk hx
      go_wp2_with fail
      go_loopw [5, 6] (fun fv kv wk => ∃ (k d : Nat) (bb : Bool), k ≤ i ∧ kv = .int .i64 k ∧ fv = .bool bb ∧ Hid (bb = true ↔ x.maker ≠ ⟨#[]⟩ ∧ ∀ k' y, k' < k → s[k']? = some y → y.maker ≠ x.maker) ∧ wk = wo.drewN d) (fun _ kv _ => i - (intOf kv).toNat)
      case atStart => exact ⟨0, 0, _, Nat.zero_le _, rfl, rfl, Lib.hid (by rw [emp_iff]; simp), rfl⟩
      case round =>
        obtain ⟨k, d, bb, hk, rfl, rfl, hbb, rfl⟩ := hrel
        by_cases hkl : k < i
        · obtain ⟨y, hy⟩ : ∃ y, s[k]? = some y := ⟨s[k]'(by rw [HN.out]; omega), List.getElem?_eq_getElem _⟩
          obtain ⟨f0, f1, f2, f3⟩ : ChAt wo g (o + k * 4) y := (HCL.out k y hy).keep (fun j => hbw.out.cell (p := ⟨g, j, none⟩) hgw)
          have hk8 : (k : Int) < (i : Int) := by omega
          have hk9 : (0 : Int) ≤ (k : Int) := by omega
          have hk7 : (k : Int) < (n : Int) := by omega
          have HY := Lib.hid hy
          clear hy
          cases bb
          · go_wp2_with fail
            go_quiet (fail)
            go_wp2_with fail
            go_roundw
            case rel =>
              refine ⟨k + 1, d + nq, false, by omega, by go_num, rfl, Lib.hid ⟨fun h => (by cases h), fun h => ?_⟩, by first | rfl | simp⟩
              have := hbb.out.2 ⟨h.1, fun k' y' hk' hy' => h.2 k' y' (by omega) hy'⟩
              cases this
            case measure => simp [intOf]; omega
          · have hne := bne_list y.maker x.maker
            obtain ⟨b2, hb2⟩ : ∃ b2, (!(y.maker.toList == x.maker.toList)) = b2 := ⟨_, rfl⟩
            rw [hb2] at hne
            have HNE := Lib.hid hne
            clear hne
            go_wp2_with fail
            go_quiet (fail)
            go_wp2_with fail
            go_roundw
            case rel =>
              refine ⟨k + 1, d + nq, b2, by omega, by go_num, rfl, Lib.hid ?_, by first | rfl | simp⟩
              have hb : x.maker ≠ ⟨#[]⟩ ∧ ∀ k' y, k' < k → s[k']? = some y → y.maker ≠ x.maker := by have h := hbb.out; first | exact h.1 rfl | (simpa using h)
              rw [HNE.out]
              simp only [Bool.not_eq_true', decide_eq_false_iff_not]
              constructor
              · intro h
                refine ⟨hb.1, fun k' y' hk' hy' => ?_⟩
                by_cases ek : k' = k
                · subst ek
                  rw [HY.out] at hy'
                  cases hy'
                  exact h
                · exact hb.2 k' y' (by omega) hy'
              · rintro ⟨_, h2⟩
                exact h2 k y (by omega) HY.out
            case measure => simp [intOf]; omega
        · obtain rfl : i = k := by omega
          have HTG := Lib.hid (tags_any x.tags (wo.drewN d) hxo.2.2)
          have HIF : Hid (∀ b : Bool, bb = b → (if x.maker ≠ ⟨#[]⟩ ∧ (∀ y ∈ s.take i, y.maker ≠ x.maker) then 1 else 0) = if b = true then 1 else 0) := Lib.hid (fun b hb => by
            subst hb
            have e : (bb = true) ↔ (x.maker ≠ ⟨#[]⟩ ∧ (∀ y ∈ s.take i, y.maker ≠ x.maker)) := by
              rw [hbb.out]
              constructor
              · rintro ⟨h1, h2⟩
                refine ⟨h1, fun y hy => ?_⟩
                obtain ⟨k', hk'⟩ := List.mem_iff_getElem?.1 hy
                rw [List.getElem?_take] at hk'
                split at hk'
                · rename_i hlt; exact h2 k' y hlt hk'
                · cases hk'
              · rintro ⟨h1, h2⟩
                refine ⟨h1, fun k' y hk' hy => h2 y ?_⟩
                exact List.mem_of_getElem? (i := k') (by rw [List.getElem?_take, if_pos hk']; exact hy)
            by_cases h : bb = true
            · rw [if_pos (e.1 h), if_pos h]
            · rw [if_neg (fun h2 => h (e.2 h2)), if_neg h])
          cases bb
          · have HST2 : Hid ((allM (s.take (i + 1))).length = q + (tagsP x.tags).countP (newT (s.take i))) := Lib.hid (by rw [HST.out, HIF.out false rfl]; rfl)
            have hqb2 : q ≤ i * 310 + 1 := by omega
            go_wp2_with fail
            refine HTG.out.mono ?_
            rintro e w3 ⟨v, rfl, hown, hb3⟩
            obtain ⟨A3, c3, rfl⟩ := own_shape hown
            have HO := Lib.hid (own_str_at hown)
            have hlen := tagsP_len x.tags
            have HB3 : Hid (Below w.heap.size w w3) := Lib.hid ((below_drewN hbw.out d).trans (hb3.mono hbw.out.size))
            clear HTG hown hb3 e0 e1 e2 e3
            generalize tagsP x.tags = L at *
            obtain ⟨N, hN⟩ : ∃ N, L.length = N := ⟨_, rfl⟩
            have HNN := Lib.hid hN
            rw [hN] at hlen HO ⊢
            clear hN
            go_wp2_with fail
            go_loopw [3, 8] (fun nv jv wj => ∃ (j : Nat), j ≤ N ∧ jv = .int .i64 j ∧ nv = .int .i64 ((q + (L.take j).countP (newT (s.take i)) : Nat) : Int) ∧ Hid (Below w3.heap.size w3 wj)) (fun _ jv _ => N - (intOf jv).toNat)
            case atStart => exact ⟨0, Nat.zero_le _, rfl, by simp, Lib.hid (Below.refl _ _)⟩
            case round =>
              obtain ⟨j, hj, rfl, rfl, hbj⟩ := hrel
              obtain ⟨q3, hq3⟩ : ∃ q3, q + (L.take j).countP (newT (s.take i)) = q3 := ⟨_, rfl⟩
              have hq3b : q3 ≤ q + j := by
                rw [← hq3]
                have := List.countP_le_length (p := newT (s.take i)) (l := L.take j)
                have := List.length_take_le j L
                omega
              rw [hq3]
              have HQ3 := Lib.hid hq3
              clear hq3
              obtain ⟨wp, rfl⟩ : ∃ wp : World, wp = wr := ⟨_, rfl⟩
              by_cases hjl : j < N
              · obtain ⟨t, ht⟩ : ∃ t, L[j]? = some t := ⟨L[j]'(by rw [HNN.out]; exact hjl), List.getElem?_eq_getElem _⟩
                obtain ⟨g3, rfl, hg31, hg32, hcl3⟩ := HO.out (by omega)
                have HT0 := Lib.hid (hcl3 j t ht)
                have hcnt : q + (L.take (j + 1)).countP (newT (s.take i)) = q3 + (if newT (s.take i) t = true then 1 else 0) := by
                  rw [List.take_add_one, ht, Option.toList_some, List.countP_append, ← HQ3.out]
                  simp only [List.countP_cons, List.countP_nil]
                  omega
                have HCNT := Lib.hid hcnt
                have hj8 : (j : Int) < (N : Int) := by omega
                have hj9 : (0 : Int) ≤ (j : Int) := by omega
                have HBP := hbj
                clear hcl3 ht hcnt
                go_wp2_with fail
                go_loopw [5, 9] (fun fv kv wk => ∃ (k : Nat) (bb : Bool), k ≤ i ∧ kv = .int .i64 k ∧ fv = .bool bb ∧ Hid (bb = true ↔ ∀ k' y, k' < k → s[k']? = some y → t ∉ tagsP y.tags) ∧ Hid (Below w3.heap.size w3 wk)) (fun _ kv _ => i - (intOf kv).toNat)
                case atStart => exact ⟨0, true, Nat.zero_le _, rfl, rfl, Lib.hid (by simp), hbj⟩
                case round =>
                  obtain ⟨k, bb, hk, rfl, rfl, hbb, hbk⟩ := hrel
                  by_cases hkl : k < i
                  · obtain ⟨y, hy⟩ : ∃ y, s[k]? = some y := ⟨s[k]'(by rw [HN.out]; omega), List.getElem?_eq_getElem _⟩
                    have HBK : Hid (Below w.heap.size w wr) := Lib.hid (HB3.out.trans (hbk.out.mono HB3.out.size))
                    obtain ⟨f0, f1, f2, f3⟩ : ChAt wr g (o + k * 4) y := (HCL.out k y hy).keep (fun j => HBK.out.cell (p := ⟨g, j, none⟩) hgw)
                    have t0 : wr.cell? ⟨g3, j, none⟩ = some (.string t) := (hbk.out.cell (p := ⟨g3, j, none⟩) hg32).trans HT0.out
                    have hk8 : (k : Int) < (i : Int) := by omega
                    have hk9 : (0 : Int) ≤ (k : Int) := by omega
                    have hk7 : (k : Int) < (n : Int) := by omega
                    have HY := Lib.hid hy
                    have HH := Lib.hid (has_any y t wr.drew ((HOK.out y (List.mem_of_getElem? hy)).2.2))
                    clear hy
                    cases bb
                    · go_wp2_with fail
                      go_quiet (fail)
                      go_wp2_with fail
                      go_roundw
                      case rel =>
                        refine ⟨k + 1, false, by omega, by go_num, rfl, Lib.hid ⟨fun h => (by cases h), fun h => ?_⟩, Lib.hid (below_drewN hbk.out _)⟩
                        have := hbb.out.2 (fun k' y' hk' hy' => h k' y' (by omega) hy')
                        cases this
                      case measure => simp [intOf]; omega
                    · go_wp2_with fail
                      refine wp_text [10] (by kernel_rfl) (by kernel_rfl) ?_
                      simp only [wpText, Nat.sub_zero, List.take_succ_cons, List.take_zero, List.drop_succ_cons, List.drop_zero, Nat.reduceAdd]
                      repeat ((with_reducible refine wpStill_step (fun K hK => ?_)); go_simp; refine hK _ ?_; clear hK K)
                      with_reducible refine wpStill_nil ?_
                      go_wp2_with fail
                      refine HH.out.mono ?_
                      rintro e w4 ⟨rfl, hb4⟩
                      have HB4 : Hid (Below w3.heap.size w3 w4) := Lib.hid (hbk.out.trans (⟨hb4.os, hb4.tape, hb4.output, hb4.size, fun i hi => hb4.block i (Nat.lt_of_lt_of_le hi hbk.out.size)⟩ : Below w3.heap.size wr w4))
                      obtain ⟨hd, hhd⟩ : ∃ hd, decide (t ∈ tagsP y.tags) = hd := ⟨_, rfl⟩
                      have HHD := Lib.hid hhd
                      rw [hhd]
                      clear HH hb4 t0 f0 f1 f2 f3 hhd
                      go_wp2_with fail
                      repeat ((with_reducible refine wpStill_step (fun K hK => ?_)); go_simp; refine hK _ ?_; clear hK K)
                      (try with_reducible refine wpStill_nil ?_)
                      go_wp2_with fail
                      go_roundw
                      case rel =>
                        refine ⟨k + 1, !hd, by omega, by go_num, rfl, Lib.hid ?_, HB4⟩
                        have hb : ∀ k' y, k' < k → s[k']? = some y → t ∉ tagsP y.tags := by have h := hbb.out; first | exact h.1 rfl | (simpa using h)
                        rw [← HHD.out]
                        simp only [Bool.not_eq_true', decide_eq_false_iff_not]
                        constructor
                        · intro h k' y' hk' hy'
                          by_cases ek : k' = k
                          · subst ek
                            rw [HY.out] at hy'
                            cases hy'
                            exact h
                          · exact hb k' y' (by omega) hy'
                        · intro h
                          exact h k y (by omega) HY.out
                      case measure => simp [intOf]; omega
                  · obtain rfl : i = k := by omega
                    have hnew : newT (s.take i) t = bb := by
                      rw [Bool.eq_iff_iff, hbb.out]
                      unfold newT
                      rw [decide_eq_true_eq]
                      constructor
                      · intro h k' y hk' hy
                        exact h y (List.mem_of_getElem? (i := k') (by rw [List.getElem?_take, if_pos hk']; exact hy))
                      · intro h y hy
                        obtain ⟨k', hk'⟩ := List.mem_iff_getElem?.1 hy
                        rw [List.getElem?_take] at hk'
                        split at hk'
                        · rename_i hlt; exact h k' y hlt hk'
                        · cases hk'
                    have HC2 : Hid (q + (L.take (j + 1)).countP (newT (s.take i)) = q3 + (if bb = true then 1 else 0)) := Lib.hid (by rw [HCNT.out, hnew])
                    clear hnew
                    cases bb
                    · go_wp2_with fail
                      go_roundw
                      case rel => exact ⟨j + 1, by omega, by go_num, by rw [HC2.out]; rfl, hbk⟩
                      case measure => simp [intOf]; omega
                    · go_wp2_with fail
                      go_roundw
                      case rel => exact ⟨j + 1, by omega, by go_num, by rw [HC2.out]; go_num, hbk⟩
                      case measure => simp [intOf]; omega
              · obtain rfl : N = j := by omega
                have e : L.take N = L := List.take_of_length_le (by rw [HNN.out]; exact Nat.le_refl _)
                have HEND : Hid (q3 = (allM (s.take (i + 1))).length) := Lib.hid (by rw [HST2.out, ← HQ3.out, e])
                clear e
                go_wp2_with fail
                go_roundw
                case rel => exact ⟨i + 1, q3, by omega, by go_num, rfl, HEND, by omega, Lib.hid (HB3.out.trans (hbj.out.mono HB3.out.size))⟩
                case measure => simp [intOf]; omega
          · have HST2 : Hid ((allM (s.take (i + 1))).length = (q + 1) + (tagsP x.tags).countP (newT (s.take i))) := Lib.hid (by rw [HST.out, HIF.out true rfl]; rfl)
            obtain ⟨q2, hq2⟩ : ∃ q2, q + 1 = q2 := ⟨_, rfl⟩
            rw [hq2] at HST2
            have hqb2 : q2 ≤ i * 310 + 1 := by omega
            have HQ2 : Hid (((q : Int) + 1) = (q2 : Int)) := Lib.hid (by omega)
            clear hq2
            go_wp2_with fail
            (try rw [HQ2.out])
            refine HTG.out.mono ?_
            rintro e w3 ⟨v, rfl, hown, hb3⟩
            obtain ⟨A3, c3, rfl⟩ := own_shape hown
            have HO := Lib.hid (own_str_at hown)
            have hlen := tagsP_len x.tags
            have HB3 : Hid (Below w.heap.size w w3) := Lib.hid ((below_drewN hbw.out d).trans (hb3.mono hbw.out.size))
            clear HTG hown hb3 e0 e1 e2 e3
            generalize tagsP x.tags = L at *
            obtain ⟨N, hN⟩ : ∃ N, L.length = N := ⟨_, rfl⟩
            have HNN := Lib.hid hN
            rw [hN] at hlen HO ⊢
            clear hN
            go_wp2_with fail
            go_loopw [3, 8] (fun nv jv wj => ∃ (j : Nat), j ≤ N ∧ jv = .int .i64 j ∧ nv = .int .i64 ((q2 + (L.take j).countP (newT (s.take i)) : Nat) : Int) ∧ Hid (Below w3.heap.size w3 wj)) (fun _ jv _ => N - (intOf jv).toNat)
            case atStart => exact ⟨0, Nat.zero_le _, rfl, by simp, Lib.hid (Below.refl _ _)⟩
            case round =>
              obtain ⟨j, hj, rfl, rfl, hbj⟩ := hrel
              obtain ⟨q3, hq3⟩ : ∃ q3, q2 + (L.take j).countP (newT (s.take i)) = q3 := ⟨_, rfl⟩
              have hq3b : q3 ≤ q2 + j := by
                rw [← hq3]
                have := List.countP_le_length (p := newT (s.take i)) (l := L.take j)
                have := List.length_take_le j L
                omega
              rw [hq3]
              have HQ3 := Lib.hid hq3
              clear hq3
              obtain ⟨wp, rfl⟩ : ∃ wp : World, wp = wr := ⟨_, rfl⟩
              by_cases hjl : j < N
              · obtain ⟨t, ht⟩ : ∃ t, L[j]? = some t := ⟨L[j]'(by rw [HNN.out]; exact hjl), List.getElem?_eq_getElem _⟩
                obtain ⟨g3, rfl, hg31, hg32, hcl3⟩ := HO.out (by omega)
                have HT0 := Lib.hid (hcl3 j t ht)
                have hcnt : q2 + (L.take (j + 1)).countP (newT (s.take i)) = q3 + (if newT (s.take i) t = true then 1 else 0) := by
                  rw [List.take_add_one, ht, Option.toList_some, List.countP_append, ← HQ3.out]
                  simp only [List.countP_cons, List.countP_nil]
                  omega
                have HCNT := Lib.hid hcnt
                have hj8 : (j : Int) < (N : Int) := by omega
                have hj9 : (0 : Int) ≤ (j : Int) := by omega
                have HBP := hbj
                clear hcl3 ht hcnt
                go_wp2_with fail
                go_loopw [5, 9] (fun fv kv wk => ∃ (k : Nat) (bb : Bool), k ≤ i ∧ kv = .int .i64 k ∧ fv = .bool bb ∧ Hid (bb = true ↔ ∀ k' y, k' < k → s[k']? = some y → t ∉ tagsP y.tags) ∧ Hid (Below w3.heap.size w3 wk)) (fun _ kv _ => i - (intOf kv).toNat)
                case atStart => exact ⟨0, true, Nat.zero_le _, rfl, rfl, Lib.hid (by simp), hbj⟩
                case round =>
                  obtain ⟨k, bb, hk, rfl, rfl, hbb, hbk⟩ := hrel
                  by_cases hkl : k < i
                  · obtain ⟨y, hy⟩ : ∃ y, s[k]? = some y := ⟨s[k]'(by rw [HN.out]; omega), List.getElem?_eq_getElem _⟩
                    have HBK : Hid (Below w.heap.size w wr) := Lib.hid (HB3.out.trans (hbk.out.mono HB3.out.size))
                    obtain ⟨f0, f1, f2, f3⟩ : ChAt wr g (o + k * 4) y := (HCL.out k y hy).keep (fun j => HBK.out.cell (p := ⟨g, j, none⟩) hgw)
                    have t0 : wr.cell? ⟨g3, j, none⟩ = some (.string t) := (hbk.out.cell (p := ⟨g3, j, none⟩) hg32).trans HT0.out
                    have hk8 : (k : Int) < (i : Int) := by omega
                    have hk9 : (0 : Int) ≤ (k : Int) := by omega
                    have hk7 : (k : Int) < (n : Int) := by omega
                    have HY := Lib.hid hy
                    have HH := Lib.hid (has_any y t wr.drew ((HOK.out y (List.mem_of_getElem? hy)).2.2))
                    clear hy
                    cases bb
                    · go_wp2_with fail
                      go_quiet (fail)
                      go_wp2_with fail
                      go_roundw
                      case rel =>
                        refine ⟨k + 1, false, by omega, by go_num, rfl, Lib.hid ⟨fun h => (by cases h), fun h => ?_⟩, Lib.hid (below_drewN hbk.out _)⟩
                        have := hbb.out.2 (fun k' y' hk' hy' => h k' y' (by omega) hy')
                        cases this
                      case measure => simp [intOf]; omega
                    · go_wp2_with fail
                      refine wp_text [10] (by kernel_rfl) (by kernel_rfl) ?_
                      simp only [wpText, Nat.sub_zero, List.take_succ_cons, List.take_zero, List.drop_succ_cons, List.drop_zero, Nat.reduceAdd]
                      repeat ((with_reducible refine wpStill_step (fun K hK => ?_)); go_simp; refine hK _ ?_; clear hK K)
                      with_reducible refine wpStill_nil ?_
                      go_wp2_with fail
                      refine HH.out.mono ?_
                      rintro e w4 ⟨rfl, hb4⟩
                      have HB4 : Hid (Below w3.heap.size w3 w4) := Lib.hid (hbk.out.trans (⟨hb4.os, hb4.tape, hb4.output, hb4.size, fun i hi => hb4.block i (Nat.lt_of_lt_of_le hi hbk.out.size)⟩ : Below w3.heap.size wr w4))
                      obtain ⟨hd, hhd⟩ : ∃ hd, decide (t ∈ tagsP y.tags) = hd := ⟨_, rfl⟩
                      have HHD := Lib.hid hhd
                      rw [hhd]
                      clear HH hb4 t0 f0 f1 f2 f3 hhd
                      go_wp2_with fail
                      repeat ((with_reducible refine wpStill_step (fun K hK => ?_)); go_simp; refine hK _ ?_; clear hK K)
                      (try with_reducible refine wpStill_nil ?_)
                      go_wp2_with fail
                      go_roundw
                      case rel =>
                        refine ⟨k + 1, !hd, by omega, by go_num, rfl, Lib.hid ?_, HB4⟩
                        have hb : ∀ k' y, k' < k → s[k']? = some y → t ∉ tagsP y.tags := by have h := hbb.out; first | exact h.1 rfl | (simpa using h)
                        rw [← HHD.out]
                        simp only [Bool.not_eq_true', decide_eq_false_iff_not]
                        constructor
                        · intro h k' y' hk' hy'
                          by_cases ek : k' = k
                          · subst ek
                            rw [HY.out] at hy'
                            cases hy'
                            exact h
                          · exact hb k' y' (by omega) hy'
                        · intro h
                          exact h k y (by omega) HY.out
                      case measure => simp [intOf]; omega
                  · obtain rfl : i = k := by omega
                    have hnew : newT (s.take i) t = bb := by
                      rw [Bool.eq_iff_iff, hbb.out]
                      unfold newT
                      rw [decide_eq_true_eq]
                      constructor
                      · intro h k' y hk' hy
                        exact h y (List.mem_of_getElem? (i := k') (by rw [List.getElem?_take, if_pos hk']; exact hy))
                      · intro h y hy
                        obtain ⟨k', hk'⟩ := List.mem_iff_getElem?.1 hy
                        rw [List.getElem?_take] at hk'
                        split at hk'
                        · rename_i hlt; exact h k' y hlt hk'
                        · cases hk'
                    have HC2 : Hid (q2 + (L.take (j + 1)).countP (newT (s.take i)) = q3 + (if bb = true then 1 else 0)) := Lib.hid (by rw [HCNT.out, hnew])
                    clear hnew
                    cases bb
                    · go_wp2_with fail
                      go_roundw
                      case rel => exact ⟨j + 1, by omega, by go_num, by rw [HC2.out]; rfl, hbk⟩
                      case measure => simp [intOf]; omega
                    · go_wp2_with fail
                      go_roundw
                      case rel => exact ⟨j + 1, by omega, by go_num, by rw [HC2.out]; go_num, hbk⟩
                      case measure => simp [intOf]; omega
              · obtain rfl : N = j := by omega
                have e : L.take N = L := List.take_of_length_le (by rw [HNN.out]; exact Nat.le_refl _)
                have HEND : Hid (q3 = (allM (s.take (i + 1))).length) := Lib.hid (by rw [HST2.out, ← HQ3.out, e])
                clear e
                go_wp2_with fail
                go_roundw
                case rel => exact ⟨i + 1, q3, by omega, by go_num, rfl, HEND, by omega, Lib.hid (HB3.out.trans (hbj.out.mono HB3.out.size))⟩
                case measure => simp [intOf]; omega
    · obtain rfl : n = i := by omega
      have HF : Hid (q = (allM s).length) := Lib.hid (by
        have := hq.out
        rwa [List.take_of_length_le (by rw [HN.out]; exact Nat.le_refl _)] at this)
      go_wp2_with fail
      go_ret
      exact ⟨by rw [← HF.out]; rfl, hbw.out⟩

end Go.Proofs.YtiaklkfdgnhonaaDoor
