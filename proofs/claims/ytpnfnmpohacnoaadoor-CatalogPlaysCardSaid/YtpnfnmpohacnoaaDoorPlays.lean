/- CatalogPlays: the walk. -/
import Derived.Test.YtpnfnmpohacnoaaDoorAlike
namespace Go.Proofs.YtpnfnmpohacnoaaDoor
open Go.Shelf Go.RowKit Go.Maps
set_option linter.unusedVariables false

theorem take_sub : ∀ (l es : List Ev), ∀ e ∈ takeAll es l, e ∈ es ∨ e ∈ l
  | [], es, e, h => Or.inl h
  | x :: l, es, e, h => by
    rcases take_sub l (aftP es x) e h with h1 | h1
    · unfold aftP at h1
      split at h1
      · rcases List.mem_append.1 h1 with h2 | h2
        · exact Or.inl h2
        · exact Or.inr (by simp at h2; subst h2; simp)
      · exact Or.inl h1
    · exact Or.inr (List.mem_cons_of_mem _ h1)

set_option maxHeartbeats 4000000 in
set_option maxRecDepth 100000 in
theorem catalogPlays_walk (A : Option Addr) (n c : Nat) (l : List Ev) (wd : ByteArray) (t : Int) (w : World) (ha : EvArg w A n c l) (hwd : wd.size ≤ 140737488355328) (hg : GlobAt w) :
    Calls Tryd.prog 8 #[.slice A n c, .string wd, .int .i64 t] w fun e w' => e = .returned (.bool true) ∧ Below w.heap.size w w' := by
  obtain ⟨hn, hl, hnb, hnil, hbd⟩ := ha
  have HW := Lib.hid (awake_any w hg)
  have HN := Lib.hid hn
  have HL := Lib.hid hl
  have HD := Lib.hid hbd
  have HG := Lib.hid hg
  have hgl := hg.1
  clear hn hl hbd hg
  go_enter Tryd.func8, Tryd.ntmps8
  go_wp2_with fail
  refine HW.out.mono ?_
  rintro e w1 ⟨rfl, hb1⟩
  have HL1 : Hid (EvsAt w1 w.heap.size A l) := Lib.hid (HL.out.below hb1)
  have HFW := Lib.hid (few_any w1 w.heap.size A l n c HN.out HL1.out hb1.size hnb HD.out)
  have HB1 := Lib.hid hb1
  clear HW hb1
  go_wp2_with fail
  refine HFW.out.mono ?_
  rintro e w2 ⟨bf, rfl, hbf, q, hw2⟩
  have HB2 : Hid (Below w.heap.size w w2) := Lib.hid (by rw [hw2]; exact below_drewN HB1.out _)
  clear HFW hw2 HB1 HL1
  cases bf
  · go_wp2_with fail
    go_ret
    exact ⟨rfl, HB2.out⟩
  obtain ⟨h61, hfew⟩ := hbf rfl
  have HFEW := Lib.hid hfew
  clear hbf hfew
  by_cases gwd : (300 : Int) < (wd.size : Int)
  · go_wp2_with fail
    go_ret
    exact ⟨rfl, HB2.out⟩
  have HN1 := Lib.hid (new_any w2)
  go_wp2_with fail
  refine HN1.out.mono ?_
  rintro e w3 ⟨cb, F0, rfl, hc3, hf3, hb3⟩
  have HB3 : Hid (Below w.heap.size w w3) := Lib.hid (HB2.out.trans (hb3.mono HB2.out.size))
  have HC3 := Lib.hid hc3
  have HF3 : Hid (∀ q, F0 q → w.heap.size ≤ q) := Lib.hid (fun q hq => Nat.le_trans HB2.out.size (hf3 q hq))
  clear hc3 hf3 hb3 HN1 HB2
  go_wp2_with fail
  go_loopw [8, 9] (fun s i wr => ∃ (k : Nat) (A5 : Option Addr) (m5 c5 : Nat), k ≤ n ∧ i = .int .i64 k ∧ s = .slice A5 m5 c5 ∧ m5 ≤ k ∧ Hid ((takeAll [] (l.take k)).length = m5) ∧ Hid (∃ F, CatAt wr cb F (takeAll [] (l.take k)) ∧ (∀ q, F q → w.heap.size ≤ q) ∧ ∀ ad, A5 = some ad → ¬ F ad.block ∧ ad.block < wr.heap.size) ∧ Hid (EvsAt wr wr.heap.size A5 (takeAll [] (l.take k))) ∧ Hid (A5 = none → c5 = 0) ∧ Hid (Below w.heap.size w wr)) (fun _ i _ => n - (intOf i).toNat)
  case atStart => exact ⟨0, none, 0, 0, Nat.zero_le _, rfl, rfl, Nat.le_refl _, Lib.hid rfl, Lib.hid ⟨F0, HC3.out, HF3.out, fun ad h => (by cases h)⟩, Lib.hid (RowIn.nil _ _ _ _), Lib.hid (fun _ => rfl), HB3⟩
  case round =>
    clear HC3 HF3 HB3
    obtain ⟨k, A5, m5, c5, hk, rfl, rfl, hmk, hml, hcat, hrow, hnil5, hbw⟩ := hrel
    have HSB : Hid (∀ e ∈ takeAll [] (l.take k), EvFew e) := Lib.hid (fun e he => HFEW.out e (by
      rcases take_sub _ _ e he with h | h
      · cases h
      · exact List.mem_of_mem_take h))
    by_cases hlt : k < n
    · obtain ⟨x, hx⟩ : ∃ x, l[k]? = some x := ⟨l[k]'(by rw [HN.out]; exact hlt), List.getElem?_eq_getElem _⟩
      obtain ⟨g, o, rfl, hgB, hcl⟩ := HL.out.at (by rw [HN.out]; omega)
      have HE0 := Lib.hid (hcl k x hx)
      have HSC : Hid (∀ W, Below w.heap.size w W → EvAt W g (o + k * 8) x) := Lib.hid (fun W hW => HE0.out.keep (fun j => hW.cell (p := ⟨g, j, none⟩) hgB))
      obtain ⟨e0, e1, e2, e3, e4, e5, e6, e7⟩ : EvAt wr g (o + k * 8) x := HSC.out wr hbw.out
      obtain ⟨F, hc, hF, hA5⟩ := hcat.out
      have hsh : EvSh x := (HFEW.out x (List.mem_of_getElem? hx)).sh
      have hxi : x.item.size ≤ 1000000 := by have := HFEW.out x (List.mem_of_getElem? hx); unfold EvFew at this; omega
      have HRA := Lib.hid (rapply_any wr wr.heap.size A5 (takeAll [] (l.take k)) m5 c5 x hml.out hrow.out (Nat.le_refl _) hnil5.out hsh (by omega))
      have HTK : Hid (takeAll [] (l.take (k + 1)) = aftP (takeAll [] (l.take k)) x) := Lib.hid (by rw [take_snoc hx, takeAll_snoc])
      have HFA : Hid (∀ e ∈ aftP (takeAll [] (l.take k)) x, EvFew e) := Lib.hid (fun e he => by
        unfold aftP at he
        split at he
        · rcases List.mem_append.1 he with h | h
          · exact HSB.out e h
          · simp at h; subst h; exact HFEW.out _ (List.mem_of_getElem? hx)
        · exact HSB.out e he)
      have HCC := Lib.hid hc
      have HFF := Lib.hid hF
      have HA5 := Lib.hid hA5
      have HSX := Lib.hid hsh
      have hk8 : (k : Int) < (n : Int) := by omega
      have hk9 : (0 : Int) ≤ (k : Int) := by omega
      unfold evA at HRA
      clear hcl hx hc hF hsh hA5 HSB
      generalize takeAll [] (l.take k) = es at *
      generalize htk : takesB es x = tk at *
      have HTQ := Lib.hid htk
      obtain ⟨m6, hm6⟩ : ∃ m6, (aftP es x).length = m6 := ⟨_, rfl⟩
      have hm6k : m6 ≤ k + 1 := by
        rw [← hm6]
        have := hml.out
        unfold aftP
        split
        · rw [List.length_append]; simp; omega
        · omega
      rw [hm6] at HRA
      have HM6 := Lib.hid hm6
      clear htk hm6
      go_wp2_with fail
      refine HRA.out.mono ?_
      rintro e w5 ⟨A6, c6, rfl, hr6, hn6, hfr6, hb5⟩
      have HB5 : Hid (Below w.heap.size w w5) := Lib.hid (hbw.out.trans (hb5.mono hbw.out.size))
      have HC5 : Hid (CatAt w5 cb F es) := Lib.hid (HCC.out.below hb5)
      have HR6 := Lib.hid hr6
      have HN6 := Lib.hid hn6
      have HA6 : Hid (∀ ad, A6 = some ad → ¬ F ad.block ∧ ad.block < w5.heap.size) := Lib.hid (fun ad h => by
        rcases hfr6 with h1 | h1
        · rw [h1] at h
          obtain ⟨h2, h3⟩ := HA5.out ad h
          exact ⟨h2, Nat.lt_of_lt_of_le h3 hb5.size⟩
        · obtain ⟨h2, h3⟩ := h1 ad h
          exact ⟨fun hq => by have := HCC.out.lt _ hq; omega, h3⟩)
      clear HRA hr6 hn6 hfr6 hb5 e0 e1 e2 e3 e4 e5 e6 e7
      obtain ⟨e0, e1, e2, e3, e4, e5, e6, e7⟩ : EvAt w5 g (o + k * 8) x := HSC.out w5 HB5.out
      have HA := Lib.hid (apply_any cb F es x w5 HC5.out HSX.out (HG.out.keep HB5.out (Nat.le_refl _)) (by have := hml.out; omega) (fun i hi hFi => by have := HFF.out i hFi; omega))
      unfold evA at HA
      rw [HTQ.out] at HA
      have htt : (tk != tk) = false := by simp
      go_wp2_with fail
      refine HA.out.mono ?_
      rintro e w6 ⟨rfl, F2, hc6, hs6, hf6, hk6⟩
      have HB6 : Hid (Below w.heap.size w w6) := Lib.hid (HB5.out.trans (hk6.toBelow HFF.out HB5.out.size))
      have HC6 := Lib.hid hc6
      have HR6' : Hid (EvsAt w6 w6.heap.size A6 (aftP es x)) := Lib.hid ((evs_off HR6.out hk6 (Nat.le_refl _) (fun ad h => (HA6.out ad h).1)).more hk6.size)
      have HF6 : Hid (∀ q, F2 q → w.heap.size ≤ q) := Lib.hid (fun q hq => (hf6 q hq).elim (HFF.out q) (fun h => Nat.le_trans HB5.out.size h))
      have HA6' : Hid (∀ ad, A6 = some ad → ¬ F2 ad.block ∧ ad.block < w6.heap.size) := Lib.hid (fun ad h => by
        obtain ⟨h1, h2⟩ := HA6.out ad h
        refine ⟨fun hq => ?_, Nat.lt_of_lt_of_le h2 hk6.size⟩
        rcases hf6 _ hq with h3 | h3
        · exact h1 h3
        · omega)
      have HAL1 := Lib.hid (alike_any cb F2 (aftP es x) A6 m6 c6 x.item wd t w6 HC6.out HM6.out HR6'.out (by omega) HFA.out (HG.out.keep HB6.out (Nat.le_refl _)) hxi (by omega))
      clear HA hc6 hs6 hf6 hk6 e0 e1 e2 e3 e4 e5 e6 e7 HR6 HA6 HC5 HB5 HCC
      go_wp2_with fail
      have HS0 : Hid (Below w.heap.size w w6.drew) := Lib.hid ⟨HB6.out.os, HB6.out.tape, HB6.out.output, HB6.out.size, HB6.out.block⟩
      have HAD := Lib.hid (alike_any cb F2 (aftP es x) A6 m6 c6 x.item wd t w6.drew (HC6.out.below ⟨rfl, rfl, rfl, Nat.le_refl _, fun _ _ => rfl⟩) HM6.out HR6'.out (by omega) HFA.out (HG.out.keep HS0.out (Nat.le_refl _)) hxi (by omega))
      clear HAL1
      refine wp_plan (fun W => Below w.heap.size w W) [(0, false), (1, false), (2, false), (3, false), (4, false), (5, false), (6, false), (7, false), (8, false), (9, true), (10, false), (11, false), (12, false), (13, false), (14, false), (15, false), (16, false), (17, false), (18, false), (19, false), (20, false), (21, false), (22, false), (23, false), (24, false), (25, true), (26, false), (27, false)] (by kernel_rfl) (by kernel_rfl) HS0.out ?_
      simp only [planL, List.getElem?_cons_zero, List.getElem?_cons_succ]
      repeat (first | (refine plan_on _ (by rfl) (fun W hW => by (obtain ⟨x0, x1, x2, x3, x4, x5, x6, x7⟩ := HSC.out W hW; go_simp; try with_reducible rfl)) ?_; simp only [Act.put, List.setIfInBounds_toArray, List.set_cons_zero, List.set_cons_succ]) | (refine plan_off (by rfl) ?_; simp only [Act.put, List.setIfInBounds_toArray, List.set_cons_zero, List.set_cons_succ]))
      refine plan_turn ?_
      go_wp2_with fail
      refine HAD.out.mono ?_
      rintro e w7 ⟨rfl, hb7⟩
      have hb7' : Below w6.heap.size w6 w7 := ⟨hb7.os, hb7.tape, hb7.output, hb7.size, hb7.block⟩
      have HB7 : Hid (Below w.heap.size w w7) := Lib.hid (HB6.out.trans (hb7'.mono HB6.out.size))
      have HC7 : Hid (CatAt w7 cb F2 (aftP es x)) := Lib.hid (HC6.out.below hb7')
      have HR7 : Hid (EvsAt w7 w7.heap.size A6 (aftP es x)) := Lib.hid ((HR6'.out.below hb7').more hb7'.size)
      have HA7 : Hid (∀ ad, A6 = some ad → ¬ F2 ad.block ∧ ad.block < w7.heap.size) := Lib.hid (fun ad h => ⟨(HA6'.out ad h).1, Nat.lt_of_lt_of_le (HA6'.out ad h).2 hb7'.size⟩)
      have HAE := Lib.hid (alike_any cb F2 (aftP es x) A6 m6 c6 x.item wd x.tick w7 HC7.out HM6.out HR7.out (by omega) HFA.out (HG.out.keep HB7.out (Nat.le_refl _)) hxi (by omega))
      clear HAD hb7 hb7' HC6 HR6' HA6' HB6
      go_wp2_with fail
      refine ⟨HB7.out, ?_⟩
      repeat (first | (refine plan_on _ (by rfl) (fun W hW => by (obtain ⟨x0, x1, x2, x3, x4, x5, x6, x7⟩ := HSC.out W hW; go_simp; try with_reducible rfl)) ?_; simp only [Act.put, List.setIfInBounds_toArray, List.set_cons_zero, List.set_cons_succ]) | (refine plan_off (by rfl) ?_; simp only [Act.put, List.setIfInBounds_toArray, List.set_cons_zero, List.set_cons_succ]))
      refine plan_turn ?_
      go_wp2_with fail
      refine HAE.out.mono ?_
      rintro e w8 ⟨rfl, hb8⟩
      have HB8 : Hid (Below w.heap.size w w8) := Lib.hid (HB7.out.trans (hb8.mono HB7.out.size))
      have HC8 : Hid (CatAt w8 cb F2 (aftP es x)) := Lib.hid (HC7.out.below hb8)
      have HR8 : Hid (EvsAt w8 w8.heap.size A6 (aftP es x)) := Lib.hid ((HR7.out.below hb8).more hb8.size)
      have HA8 : Hid (∀ ad, A6 = some ad → ¬ F2 ad.block ∧ ad.block < w8.heap.size) := Lib.hid (fun ad h => ⟨(HA7.out ad h).1, Nat.lt_of_lt_of_le (HA7.out ad h).2 hb8.size⟩)
      clear HAE hb8 HC7 HR7 HA7 HB7
      go_wp2_with fail
      refine ⟨HB8.out, ?_⟩
      repeat (first | (refine plan_on _ (by rfl) (fun W hW => by (obtain ⟨x0, x1, x2, x3, x4, x5, x6, x7⟩ := HSC.out W hW; go_simp; try with_reducible rfl)) ?_; simp only [Act.put, List.setIfInBounds_toArray, List.set_cons_zero, List.set_cons_succ]) | (refine plan_off (by rfl) ?_; simp only [Act.put, List.setIfInBounds_toArray, List.set_cons_zero, List.set_cons_succ]))
      refine plan_done ?_
      go_wp2_with fail
      go_roundw
      case rel =>
        refine ⟨k + 1, A6, m6, c6, by omega, by go_num, rfl, hm6k, Lib.hid ?_, Lib.hid ⟨F2, ?_, HF6.out, HA8.out⟩, Lib.hid ?_, HN6, HB8⟩
        · rw [HTK.out]; exact HM6.out
        · rw [HTK.out]; exact HC8.out
        · rw [HTK.out]; exact HR8.out
      case measure => simp [intOf]; omega
    · obtain rfl : n = k := by omega
      have htl : l.take n = l := by rw [← HN.out, List.take_length]
      rw [htl] at hcat hrow hml HSB
      obtain ⟨F, hc, hF, hA5⟩ := hcat.out
      have HAL := Lib.hid (alike_any cb F (takeAll [] l) A5 m5 c5 wd wd t wr hc hml.out hrow.out (by omega) HSB.out (HG.out.keep hbw.out (Nat.le_refl _)) (by omega) (by omega))
      clear hc hF hA5 htl
      generalize takeAll [] l = es at *
      go_wp2_with fail
      refine HAL.out.mono ?_
      rintro e w5 ⟨rfl, hb5⟩
      have HB5 : Hid (Below w.heap.size w w5) := Lib.hid (hbw.out.trans (hb5.mono hbw.out.size))
      go_wp2_with fail
      go_ret
      exact ⟨rfl, HB5.out⟩

end Go.Proofs.YtpnfnmpohacnoaaDoor
