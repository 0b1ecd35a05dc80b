/- ClockPlays: whatever is heard, of whatever sources, with ticks between: each is told just as the document says; so the clock stands behind it. -/
import Derived.Test.YtobkgkiomapabaaDoorDcL
import Derived.Test.YtobkgkiomapabaaDoorActs
namespace Go.Proofs.YtobkgkiomapabaaDoor
open Go.RowKit Go.Maps Go.Shelf
set_option linter.unusedVariables false

theorem Rose.one {c d e : Ck} (h : Rose c d) (k : Rose c e) : d = e := by
  obtain ⟨m, a, ht, rfl⟩ := h
  obtain ⟨m', a', ht', rfl⟩ := k
  obtain ⟨rfl, rfl⟩ := ht.unique ht'
  rfl
theorem Hears.one {c d e : Ck} {s : ByteArray} {a n : Int} {r r' : Bool} (h : Hears c s a n r d) (k : Hears c s a n r' e) : r = r' ∧ d = e := by
  obtain ⟨c1, ht, hc⟩ := h
  obtain ⟨c2, ht', hc'⟩ := k
  obtain rfl := Rose.one ht ht'
  rcases hc with ⟨rfl, rfl, h1⟩ | ⟨rfl, h1, h2⟩ <;> rcases hc' with ⟨rfl, rfl, h1'⟩ | ⟨rfl, h1', h2'⟩
  · exact ⟨rfl, rfl⟩
  · exact absurd h1' h1
  · exact absurd h1 h1'
  · exact ⟨rfl, h2.one h2'⟩
theorem ClockAt.drew {w : World} {cb mb n : Nat} {c : Ck} (h : ClockAt w cb mb n c) : ClockAt w.drew cb mb n c := ⟨h.blk, h.map, h.ok⟩
theorem ClockAt.more {w : World} {cb mb n n' : Nat} {c : Ck} (h : ClockAt w cb mb n c) (hn : n ≤ n') : ClockAt w cb mb n' c := ⟨h.blk, h.map.mono hn, h.ok⟩
theorem DocAt.drew {w : World} {D db n : Nat} {c : Ck} (h : DocAt w D db n c) : DocAt w.drew D db n c := by
  obtain ⟨A, cc, l, h1, h2⟩ := h
  exact ⟨A, cc, l, h1, h2.keep (w' := w.drew) (Nat.le_refl _) (fun _ _ _ => rfl)⟩
theorem DocAt.below {w w' : World} {D db n : Nat} {c : Ck} (h : DocAt w D db n c) (k : Below w.heap.size w w') : DocAt w' D db n c := by
  obtain ⟨A, cc, l, h1, h2⟩ := h
  exact ⟨A, cc, l, h1, h2.below k⟩
theorem DocAt.more {w : World} {D db n n' : Nat} {c : Ck} (h : DocAt w D db n c) (hn : n ≤ n') : DocAt w D db n' c := by
  obtain ⟨A, cc, l, h1, h2⟩ := h
  exact ⟨A, cc, l, by omega, h2⟩
theorem DocAt.base {w : World} {D db n : Nat} {c : Ck} (h : DocAt w D db n c) : D ≤ db ∧ db < w.heap.size := by
  obtain ⟨A, cc, l, h1, h2⟩ := h
  exact ⟨h2.base, h2.blk.lt⟩

theorem tabB_of {w : World} {s : String} (hs : tabN = s) (h : Lib.TabIs Tryd.prog w s .u64 Lib.pow10Tab) : TabB w.heap.size w := by
  subst hs
  exact Lib.tabBelow_of_tabIs h

set_option maxRecDepth 100000 in
theorem few2_any (a : Option Addr) (len cap B : Nat) (l : List ActD) (w : World) (hl : l.length = len) (ha : ActsAt w B a l) (hm : len ≤ 9223372036854775807) :
    Calls Tryd.prog 6 #[.slice a len cap] w (SomeBool (fun r => r = true → len ≤ 101 ∧ ∀ (i : Nat) (x : ActD), l[i]? = some x → x.name.size ≤ 100) w) := by
  go_enter Tryd.func6, Tryd.ntmps6
  go_wp2
  go_loop [3] (fun i => ∃ k : Nat, k ≤ len ∧ k ≤ 101 ∧ i = .int .i64 k ∧ Hid (∀ (j : Nat) (x : ActD), j < k → l[j]? = some x → x.name.size ≤ 100)) (fun i => len - (intOf i).toNat)
  case atStart => exact ⟨0, Nat.zero_le _, by omega, rfl, Lib.hid (fun j x hj => by omega)⟩
  case round =>
    obtain ⟨k, hk, hk1, rfl, hsz⟩ := hrel
    by_cases hlt : k < len
    · obtain ⟨x, hx⟩ : ∃ x, l[k]? = some x := ⟨l[k]'(by omega), List.getElem?_eq_getElem (by omega)⟩
      have HX := Lib.hid hx
      obtain ⟨b, off, rfl, hB, c0, c1, c2, c3⟩ := ha k x hx
      clear hx
      by_cases h1 : 100 < x.name.size
      · go_wp2
        go_ret
        exact ⟨false, rfl, (by intro h; cases h), rfl⟩
      · have HS : Hid (∀ j y, j < k + 1 → l[j]? = some y → y.name.size ≤ 100) := Lib.hid (fun j y hj hy => by
          by_cases e : j = k
          · subst e; rw [HX.out] at hy; cases hy; omega
          · exact hsz.out j y (by omega) hy)
        by_cases h2 : 100 < k
        · go_wp2
          go_ret
          exact ⟨false, rfl, (by intro h; cases h), rfl⟩
        · go_wp2
          go_round
          case rel => exact ⟨k + 1, by omega, by omega, by go_num, HS⟩
          case measure => simp [intOf]; omega
    · have HS : Hid (∀ (i : Nat) (x : ActD), l[i]? = some x → x.name.size ≤ 100) := Lib.hid (fun i x hx => hsz.out i x (by have := (List.getElem?_eq_some_iff.1 hx).1; omega) hx)
      go_wp2
      go_ret
      exact ⟨true, rfl, fun _ => ⟨by omega, HS.out⟩, rfl⟩

set_option maxHeartbeats 8000000 in
set_option maxRecDepth 100000 in
theorem clockPlays_walk (slack idle : Int) (a : Option Addr) (len cap : Nat) (l : List ActD) (w : World) (hl : l.length = len) (ha : ActsAt w w.heap.size a l) (hm : len ≤ 9223372036854775807) (htb : TabB w.heap.size w) :
    Calls Tryd.prog 3 #[.int .i64 slack, .int .i64 idle, .slice a len cap] w fun e w' => e = .returned (.bool true) ∧ Below w.heap.size w w' := by
  have HTB : Hid (∀ V, Below w.heap.size w V → TabB V.heap.size V) := Lib.hid (fun V hV w' hw' => (htb.on hV) w' (hw'.mono hV.size))
  have HA : Hid (∀ V, Below w.heap.size w V → ActsAt V w.heap.size a l) := Lib.hid (fun V hV => ha.below hV)
  have HLN := Lib.hid hl
  clear htb ha
  go_enter Tryd.func3, Tryd.ntmps3
  go_wp2_with fail
  refine (awake_any w).mono ?_
  rintro e w1 ⟨rfl, hb1⟩
  have HB1 := Lib.hid hb1
  clear hb1
  go_wp2_with fail
  refine (few2_any a len cap w.heap.size l w1 hl (HA.out w1 HB1.out) hm).mono ?_
  rintro e w1' ⟨r, rfl, hr, rfl⟩
  cases r
  · clear hr
    go_wp2_with fail
    go_ret
    exact ⟨rfl, HB1.out⟩
  obtain ⟨hlen, hnm⟩ := hr rfl
  have HNMS := Lib.hid hnm
  clear hr hnm hm hl
  go_wp2_with fail
  refine (new_any slack idle w1).mono ?_
  rintro e w2 ⟨cb, mb, rfl, h0, hb2, hcb, hmb⟩
  have HC2 := Lib.hid h0
  have HB2 : Hid (Below w.heap.size w w2) := Lib.hid (HB1.out.trans (hb2.mono HB1.out.size))
  have hcb' : w.heap.size ≤ cb := Nat.le_trans HB1.out.size hcb
  have hmb' : w.heap.size ≤ mb := Nat.le_trans HB1.out.size hmb
  clear h0 hb2 hcb hmb
  go_wp2_with fail
  refine (rnew_any slack idle w2).mono ?_
  rintro e w3 ⟨db, rfl, hd3, hb3⟩
  obtain ⟨D, hD⟩ : ∃ D, w2.heap.size = D := ⟨_, rfl⟩
  have HC3 := Lib.hid (HC2.out.below hb3 HC2.out.blk.lt HC2.out.map.lt (Nat.le_refl _))
  have HB3 : Hid (Below w.heap.size w w3) := Lib.hid (HB2.out.trans (hb3.mono HB2.out.size))
  have hcD : cb < D := by rw [← hD]; exact HC2.out.blk.lt
  have hmD : mb < D := by rw [← hD]; exact HC2.out.map.lt
  rw [hD] at hd3
  have HD3 := Lib.hid hd3
  have HDB := Lib.hid hd3.base
  clear hd3 hb3 HC2 hD
  obtain ⟨c0, hc0⟩ : ∃ c0, fresh slack idle = c0 := ⟨_, rfl⟩
  rw [hc0] at HC3 HD3
  clear hc0
  have HAL := Lib.hid (alike_any D cb mb db 0 c0 w3 HC3.out HD3.out (by omega) (HTB.out _ HB3.out))
  go_wp2_with fail
  refine HAL.out.mono ?_
  rintro e w4 ⟨rfl, hb4⟩
  have HC4 := Lib.hid (HC3.out.below hb4 HC3.out.blk.lt HC3.out.map.lt (Nat.le_refl _))
  have HD4 := Lib.hid (HD3.out.below hb4)
  have HB4 : Hid (Below w.heap.size w w4) := Lib.hid (HB3.out.trans (hb4.mono HB3.out.size))
  have hdD : D ≤ db := HDB.out.1
  clear hb4 HAL HC3 HD3
  go_wp2_with fail
  go_loopw [9] (fun i wr => ∃ (k : Nat) (c : Ck), k ≤ len ∧ i = .int .i64 k ∧ Hid (ClockAt wr cb mb k c) ∧ Hid (DocAt wr D db k c) ∧ Hid (Below w.heap.size w wr)) (fun i _ => len - (intOf i).toNat)
  case atStart => exact ⟨0, c0, Nat.zero_le _, rfl, HC4, HD4, HB4⟩
  case round =>
    obtain ⟨k, c, hk, rfl, hc, hd, hbw⟩ := hrel
    by_cases hlt : k < len
    · obtain ⟨x, hx⟩ : ∃ x, l[k]? = some x := ⟨l[k]'(by rw [HLN.out]; exact hlt), List.getElem?_eq_getElem _⟩
      obtain ⟨kd, nm, at_, nw⟩ := x
      have HNM : Hid (nm.size ≤ maxLen) := Lib.hid (by have := HNMS.out k _ hx; dsimp only at this; unfold maxLen; omega)
      obtain ⟨b, off, rfl, hbB, d0, d1, d2, d3⟩ := HA.out wr hbw.out k _ hx
      dsimp only at d0 d1 d2 d3
      have HSC : Hid (∀ V, Below w.heap.size w V → V.cell? ⟨b, off + k * 4 + 1, none⟩ = some (.string nm) ∧ V.cell? ⟨b, off + k * 4 + 2, none⟩ = some (.int .i64 at_) ∧ V.cell? ⟨b, off + k * 4 + 3, none⟩ = some (.int .i64 nw)) := Lib.hid (fun V hV => by
        have e : ∀ o, V.cell? ⟨b, o, none⟩ = wr.cell? ⟨b, o, none⟩ := fun o => (hV.cell (p := ⟨b, o, none⟩) hbB).trans (hbw.out.cell (p := ⟨b, o, none⟩) hbB).symm
        exact ⟨(e _).trans d1, (e _).trans d2, (e _).trans d3⟩)
      have hk8 : (k : Int) < (len : Int) := by omega
      have hk9 : (0 : Int) ≤ (k : Int) := by omega
      have hzr : w.heap.size ≤ wr.heap.size := hbw.out.size
      have HSr : Hid (Below w.heap.size w wr.drew) := Lib.hid (below_drew hbw.out)
      clear hx d1 d2 d3
      by_cases hkd : kd = 0
      · have hkb : (kd == 0) = true := by simpa using hkd
        have HTK := Lib.hid (tick_any cb mb k c nw wr.drew hc.out.drew)
        clear hkd
        go_wp2_with fail
        refine wp_plan (fun V => Below w.heap.size w V) [(0, false), (1, false), (2, false), (3, false), (4, false), (5, false), (7, false), (8, false), (9, false), (10, false), (11, false), (12, false), (6, true), (13, true), (14, false)] (by kernel_rfl) (by kernel_rfl) HSr.out ?_
        simp only [planL, List.getElem?_cons_zero, List.getElem?_cons_succ]
        repeat (first | (refine plan_on _ (by rfl) (fun W hW => by (obtain ⟨y1, y2, y3⟩ := HSC.out W hW; go_simp; try with_reducible rfl)) ?_; simp only [Act.put, List.setIfInBounds_toArray, List.set_cons_zero, List.set_cons_succ]) | (refine plan_off (by rfl) ?_; simp only [Act.put, List.setIfInBounds_toArray, List.set_cons_zero, List.set_cons_succ]))
        refine plan_turn ?_
        go_wp2_with fail
        refine HTK.out.mono ?_
        rintro e w5 ⟨c', rfl, ht, h5, hk5⟩
        have HT5 := Lib.hid ht
        have HC5 := Lib.hid h5
        have HD5 := Lib.hid (hd.out.drew.kept hk5 (fun i hi => by omega))
        have HB5 : Hid (Below w.heap.size w w5) := Lib.hid (HSr.out.trans (hk5.toBelow (fun i hi => by omega) HSr.out.size))
        clear ht h5 hk5 HTK
        go_wp2_with fail
        refine ⟨HB5.out, ?_⟩
        have HTD := Lib.hid (rtick_any D db k c nw w5 (by omega) HD5.out)
        refine plan_turn ?_
        go_wp2_with fail
        refine HTD.out.mono ?_
        rintro e w6 ⟨c2, rfl, ht2, h6, hk6⟩
        obtain rfl : c' = c2 := Rose.one HT5.out ht2
        have HC6 : Hid (ClockAt w6 cb mb (k + 1) c') := Lib.hid ((HC5.out.kept hk6 (by omega) (by omega)).more (by omega))
        have HD6 : Hid (DocAt w6 D db (k + 1) c') := Lib.hid (h6.more (by omega))
        have HB6 : Hid (Below w.heap.size w w6) := Lib.hid (HB5.out.trans (hk6.toBelow (fun i hi => by omega) HB5.out.size))
        clear ht2 h6 hk6 HTD
        go_wp2_with fail
        refine ⟨HB6.out, ?_⟩
        repeat (first | (refine plan_on _ (by rfl) (fun W hW => by (obtain ⟨y1, y2, y3⟩ := HSC.out W hW; go_simp; try with_reducible rfl)) ?_; simp only [Act.put, List.setIfInBounds_toArray, List.set_cons_zero, List.set_cons_succ]) | (refine plan_off (by rfl) ?_; simp only [Act.put, List.setIfInBounds_toArray, List.set_cons_zero, List.set_cons_succ]))
        refine plan_done ?_
        obtain ⟨hv, hhv⟩ : ∃ hv, heardOf c' nm.data.toList = hv := ⟨_, rfl⟩
        obtain ⟨ab, hab⟩ : ∃ ab, activeOf c' nm.data.toList = ab := ⟨_, rfl⟩
        have HHV := Lib.hid hhv
        have HAV := Lib.hid hab
        clear hhv hab
        have hne : (c'.mark != c'.mark) = false := by simp
        go_wp2_with fail
        have HAL := Lib.hid (alike_any D cb mb db (k + 1) c' _ (HC6.out.drew) (HD6.out.drew) (by omega) (HTB.out _ (below_drew HB6.out)))
        have HS6 : Hid (Below w.heap.size w w6.drew) := Lib.hid (below_drew HB6.out)
        have HHE : Hid (∀ V, Below w6.heap.size w6 V → Calls Tryd.prog 14 #[.pointer (some ⟨cb, 0, none⟩), .string nm] V fun e w' => e = .returned (.int .i64 hv) ∧ Below V.heap.size V w') := Lib.hid (fun V hV => by rw [← HHV.out]; exact heard_any cb mb (k + 1) c' nm V (HC6.out.below hV HC6.out.blk.lt HC6.out.map.lt (Nat.le_refl _)) HNM.out)
        have HRH : Hid (∀ V, Below w6.heap.size w6 V → Calls Tryd.prog 15 #[.pointer (some ⟨db, 0, none⟩), .string nm] V fun e w' => e = .returned (.int .i64 hv) ∧ Below V.heap.size V w') := Lib.hid (fun V hV => by rw [← HHV.out]; exact rheard_any D db (k + 1) c' nm V (by omega) (HD6.out.below hV))
        have HAC : Hid (∀ V, Below w6.heap.size w6 V → Calls Tryd.prog 16 #[.pointer (some ⟨cb, 0, none⟩), .string nm] V fun e w' => e = .returned (.bool ab) ∧ Below V.heap.size V w') := Lib.hid (fun V hV => by rw [← HAV.out]; exact active_says cb mb (k + 1) c' nm V (HC6.out.below hV HC6.out.blk.lt HC6.out.map.lt (Nat.le_refl _)) HNM.out)
        have HRA : Hid (∀ V, Below w6.heap.size w6 V → Calls Tryd.prog 17 #[.pointer (some ⟨db, 0, none⟩), .string nm] V fun e w' => e = .returned (.bool ab) ∧ Below V.heap.size V w') := Lib.hid (fun V hV => by rw [← HAV.out]; exact ractive_says D db (k + 1) c' nm V (by omega) (HD6.out.below hV))
        refine wp_plan (fun V => Below w.heap.size w V) [(0, false), (1, false), (2, true), (3, false), (4, false), (5, false), (6, false), (7, false), (8, false), (9, false), (10, false), (12, false), (13, false), (14, false), (15, false), (16, false), (17, false), (11, true), (18, true), (19, false), (20, false), (21, false), (22, false), (23, false), (24, false), (25, false), (26, false), (27, false), (29, false), (30, false), (31, false), (32, false), (33, false), (34, false), (28, true), (35, true), (36, false), (37, false)] (by kernel_rfl) (by kernel_rfl) HS6.out ?_
        simp only [planL, List.getElem?_cons_zero, List.getElem?_cons_succ]
        try (repeat (first | (refine plan_on _ (by rfl) (fun W hW => by (obtain ⟨y1, y2, y3⟩ := HSC.out W hW; go_simp; try with_reducible rfl)) ?_; simp only [Act.put, List.setIfInBounds_toArray, List.set_cons_zero, List.set_cons_succ]) | (refine plan_off (by rfl) ?_; simp only [Act.put, List.setIfInBounds_toArray, List.set_cons_zero, List.set_cons_succ])))
        refine plan_turn ?_
        go_wp2_with fail
        refine HAL.out.mono ?_
        rintro e w7 ⟨rfl, hb7⟩
        have HX7 : Hid (Below w6.heap.size w6 w7) := Lib.hid ((below_drew (Below.refl _ _)).trans hb7)
        have HB7 : Hid (Below w.heap.size w w7) := Lib.hid (HB6.out.trans (HX7.out.mono HB6.out.size))
        clear hb7 HAL
        go_wp2_with fail
        refine ⟨HB7.out, ?_⟩
        try (repeat (first | (refine plan_on _ (by rfl) (fun W hW => by (obtain ⟨y1, y2, y3⟩ := HSC.out W hW; go_simp; try with_reducible rfl)) ?_; simp only [Act.put, List.setIfInBounds_toArray, List.set_cons_zero, List.set_cons_succ]) | (refine plan_off (by rfl) ?_; simp only [Act.put, List.setIfInBounds_toArray, List.set_cons_zero, List.set_cons_succ])))
        refine plan_turn ?_
        go_wp2_with fail
        refine (HHE.out _ HX7.out).mono ?_
        rintro e w8 ⟨rfl, hb8⟩
        have HX8 : Hid (Below w6.heap.size w6 w8) := Lib.hid (HX7.out.trans (hb8.mono HX7.out.size))
        have HB8 : Hid (Below w.heap.size w w8) := Lib.hid (HB6.out.trans (HX8.out.mono HB6.out.size))
        clear hb8
        go_wp2_with fail
        refine ⟨HB8.out, ?_⟩
        try (repeat (first | (refine plan_on _ (by rfl) (fun W hW => by (obtain ⟨y1, y2, y3⟩ := HSC.out W hW; go_simp; try with_reducible rfl)) ?_; simp only [Act.put, List.setIfInBounds_toArray, List.set_cons_zero, List.set_cons_succ]) | (refine plan_off (by rfl) ?_; simp only [Act.put, List.setIfInBounds_toArray, List.set_cons_zero, List.set_cons_succ])))
        refine plan_turn ?_
        go_wp2_with fail
        refine (HRH.out _ HX8.out).mono ?_
        rintro e w9 ⟨rfl, hb9⟩
        have HX9 : Hid (Below w6.heap.size w6 w9) := Lib.hid (HX8.out.trans (hb9.mono HX8.out.size))
        have HB9 : Hid (Below w.heap.size w w9) := Lib.hid (HB6.out.trans (HX9.out.mono HB6.out.size))
        clear hb9
        go_wp2_with fail
        refine ⟨HB9.out, ?_⟩
        try (repeat (first | (refine plan_on _ (by rfl) (fun W hW => by (obtain ⟨y1, y2, y3⟩ := HSC.out W hW; go_simp; try with_reducible rfl)) ?_; simp only [Act.put, List.setIfInBounds_toArray, List.set_cons_zero, List.set_cons_succ]) | (refine plan_off (by rfl) ?_; simp only [Act.put, List.setIfInBounds_toArray, List.set_cons_zero, List.set_cons_succ])))
        refine plan_turn ?_
        go_wp2_with fail
        refine (HAC.out _ HX9.out).mono ?_
        rintro e w10 ⟨rfl, hb10⟩
        have HX10 : Hid (Below w6.heap.size w6 w10) := Lib.hid (HX9.out.trans (hb10.mono HX9.out.size))
        have HB10 : Hid (Below w.heap.size w w10) := Lib.hid (HB6.out.trans (HX10.out.mono HB6.out.size))
        clear hb10
        go_wp2_with fail
        refine ⟨HB10.out, ?_⟩
        try (repeat (first | (refine plan_on _ (by rfl) (fun W hW => by (obtain ⟨y1, y2, y3⟩ := HSC.out W hW; go_simp; try with_reducible rfl)) ?_; simp only [Act.put, List.setIfInBounds_toArray, List.set_cons_zero, List.set_cons_succ]) | (refine plan_off (by rfl) ?_; simp only [Act.put, List.setIfInBounds_toArray, List.set_cons_zero, List.set_cons_succ])))
        refine plan_turn ?_
        go_wp2_with fail
        refine (HRA.out _ HX10.out).mono ?_
        rintro e w11 ⟨rfl, hb11⟩
        have HX11 : Hid (Below w6.heap.size w6 w11) := Lib.hid (HX10.out.trans (hb11.mono HX10.out.size))
        have HB11 : Hid (Below w.heap.size w w11) := Lib.hid (HB6.out.trans (HX11.out.mono HB6.out.size))
        clear hb11
        go_wp2_with fail
        refine ⟨HB11.out, ?_⟩
        repeat (first | (refine plan_on _ (by rfl) (fun W hW => by (obtain ⟨y1, y2, y3⟩ := HSC.out W hW; go_simp; try with_reducible rfl)) ?_; simp only [Act.put, List.setIfInBounds_toArray, List.set_cons_zero, List.set_cons_succ]) | (refine plan_off (by rfl) ?_; simp only [Act.put, List.setIfInBounds_toArray, List.set_cons_zero, List.set_cons_succ]))
        refine plan_done ?_
        go_wp2_with fail
        go_roundw
        case rel => exact ⟨k + 1, c', by omega, by go_num, Lib.hid (HC6.out.below HX11.out HC6.out.blk.lt HC6.out.map.lt (Nat.le_refl _)), Lib.hid (HD6.out.below HX11.out), HB11⟩
        case measure => simp [intOf]; omega
      · have hkb : (kd == 0) = false := by simpa using hkd
        have HTK := Lib.hid (hear_any cb mb k c nm at_ nw wr.drew hc.out.drew (by omega))
        clear hkd
        go_wp2_with fail
        refine wp_plan (fun V => Below w.heap.size w V) [(0, false), (1, false), (2, false), (3, false), (4, false), (5, false), (6, false), (7, false), (8, false), (9, false), (10, false), (11, false), (12, false), (13, false), (14, false), (15, false), (17, false), (18, false), (19, false), (20, false), (21, false), (22, false), (23, false), (24, false), (25, false), (26, false), (27, false), (28, false), (29, false), (30, false), (31, false), (32, false), (16, true), (33, true), (34, false)] (by kernel_rfl) (by kernel_rfl) HSr.out ?_
        simp only [planL, List.getElem?_cons_zero, List.getElem?_cons_succ]
        repeat (first | (refine plan_on _ (by rfl) (fun W hW => by (obtain ⟨y1, y2, y3⟩ := HSC.out W hW; go_simp; try with_reducible rfl)) ?_; simp only [Act.put, List.setIfInBounds_toArray, List.set_cons_zero, List.set_cons_succ]) | (refine plan_off (by rfl) ?_; simp only [Act.put, List.setIfInBounds_toArray, List.set_cons_zero, List.set_cons_succ]))
        refine plan_turn ?_
        go_wp2_with fail
        refine HTK.out.mono ?_
        rintro e w5 ⟨res, c', rfl, ht, h5, hk5⟩
        have HT5 := Lib.hid ht
        have HC5 := Lib.hid h5
        have HD5 := Lib.hid (hd.out.drew.kept hk5 (fun i hi => by omega))
        have HB5 : Hid (Below w.heap.size w w5) := Lib.hid (HSr.out.trans (hk5.toBelow (fun i hi => by omega) HSr.out.size))
        clear ht h5 hk5 HTK
        go_wp2_with fail
        refine ⟨HB5.out, ?_⟩
        have HTD := Lib.hid (rhear_any D db k c nm at_ nw w5 (by omega) HNM.out HD5.out)
        refine plan_turn ?_
        go_wp2_with fail
        refine HTD.out.mono ?_
        rintro e w6 ⟨v2, c2, rfl, ⟨res2, rfl, ht2⟩, h6, hk6⟩
        obtain ⟨rfl, rfl⟩ := HT5.out.one ht2
        have HC6 : Hid (ClockAt w6 cb mb (k + 1) c') := Lib.hid (HC5.out.kept hk6 (by omega) (by omega))
        have HD6 : Hid (DocAt w6 D db (k + 1) c') := Lib.hid h6
        have HB6 : Hid (Below w.heap.size w w6) := Lib.hid (HB5.out.trans (hk6.toBelow (fun i hi => by omega) HB5.out.size))
        clear ht2 h6 hk6 HTD
        go_wp2_with fail
        refine ⟨HB6.out, ?_⟩
        repeat (first | (refine plan_on _ (by rfl) (fun W hW => by (obtain ⟨y1, y2, y3⟩ := HSC.out W hW; go_simp; try with_reducible rfl)) ?_; simp only [Act.put, List.setIfInBounds_toArray, List.set_cons_zero, List.set_cons_succ]) | (refine plan_off (by rfl) ?_; simp only [Act.put, List.setIfInBounds_toArray, List.set_cons_zero, List.set_cons_succ]))
        refine plan_done ?_
        obtain ⟨hv, hhv⟩ : ∃ hv, heardOf c' nm.data.toList = hv := ⟨_, rfl⟩
        obtain ⟨ab, hab⟩ : ∃ ab, activeOf c' nm.data.toList = ab := ⟨_, rfl⟩
        have HHV := Lib.hid hhv
        have HAV := Lib.hid hab
        clear hhv hab
        have hne : (res != res) = false := by simp
        go_wp2_with fail
        have HAL := Lib.hid (alike_any D cb mb db (k + 1) c' _ (HC6.out.drew) (HD6.out.drew) (by omega) (HTB.out _ (below_drew HB6.out)))
        have HS6 : Hid (Below w.heap.size w w6.drew) := Lib.hid (below_drew HB6.out)
        have HHE : Hid (∀ V, Below w6.heap.size w6 V → Calls Tryd.prog 14 #[.pointer (some ⟨cb, 0, none⟩), .string nm] V fun e w' => e = .returned (.int .i64 hv) ∧ Below V.heap.size V w') := Lib.hid (fun V hV => by rw [← HHV.out]; exact heard_any cb mb (k + 1) c' nm V (HC6.out.below hV HC6.out.blk.lt HC6.out.map.lt (Nat.le_refl _)) HNM.out)
        have HRH : Hid (∀ V, Below w6.heap.size w6 V → Calls Tryd.prog 15 #[.pointer (some ⟨db, 0, none⟩), .string nm] V fun e w' => e = .returned (.int .i64 hv) ∧ Below V.heap.size V w') := Lib.hid (fun V hV => by rw [← HHV.out]; exact rheard_any D db (k + 1) c' nm V (by omega) (HD6.out.below hV))
        have HAC : Hid (∀ V, Below w6.heap.size w6 V → Calls Tryd.prog 16 #[.pointer (some ⟨cb, 0, none⟩), .string nm] V fun e w' => e = .returned (.bool ab) ∧ Below V.heap.size V w') := Lib.hid (fun V hV => by rw [← HAV.out]; exact active_says cb mb (k + 1) c' nm V (HC6.out.below hV HC6.out.blk.lt HC6.out.map.lt (Nat.le_refl _)) HNM.out)
        have HRA : Hid (∀ V, Below w6.heap.size w6 V → Calls Tryd.prog 17 #[.pointer (some ⟨db, 0, none⟩), .string nm] V fun e w' => e = .returned (.bool ab) ∧ Below V.heap.size V w') := Lib.hid (fun V hV => by rw [← HAV.out]; exact ractive_says D db (k + 1) c' nm V (by omega) (HD6.out.below hV))
        refine wp_plan (fun V => Below w.heap.size w V) [(0, false), (1, false), (2, true), (3, false), (4, false), (5, false), (6, false), (7, false), (8, false), (9, false), (10, false), (12, false), (13, false), (14, false), (15, false), (16, false), (17, false), (11, true), (18, true), (19, false), (20, false), (21, false), (22, false), (23, false), (24, false), (25, false), (26, false), (27, false), (29, false), (30, false), (31, false), (32, false), (33, false), (34, false), (28, true), (35, true), (36, false), (37, false)] (by kernel_rfl) (by kernel_rfl) HS6.out ?_
        simp only [planL, List.getElem?_cons_zero, List.getElem?_cons_succ]
        try (repeat (first | (refine plan_on _ (by rfl) (fun W hW => by (obtain ⟨y1, y2, y3⟩ := HSC.out W hW; go_simp; try with_reducible rfl)) ?_; simp only [Act.put, List.setIfInBounds_toArray, List.set_cons_zero, List.set_cons_succ]) | (refine plan_off (by rfl) ?_; simp only [Act.put, List.setIfInBounds_toArray, List.set_cons_zero, List.set_cons_succ])))
        refine plan_turn ?_
        go_wp2_with fail
        refine HAL.out.mono ?_
        rintro e w7 ⟨rfl, hb7⟩
        have HX7 : Hid (Below w6.heap.size w6 w7) := Lib.hid ((below_drew (Below.refl _ _)).trans hb7)
        have HB7 : Hid (Below w.heap.size w w7) := Lib.hid (HB6.out.trans (HX7.out.mono HB6.out.size))
        clear hb7 HAL
        go_wp2_with fail
        refine ⟨HB7.out, ?_⟩
        try (repeat (first | (refine plan_on _ (by rfl) (fun W hW => by (obtain ⟨y1, y2, y3⟩ := HSC.out W hW; go_simp; try with_reducible rfl)) ?_; simp only [Act.put, List.setIfInBounds_toArray, List.set_cons_zero, List.set_cons_succ]) | (refine plan_off (by rfl) ?_; simp only [Act.put, List.setIfInBounds_toArray, List.set_cons_zero, List.set_cons_succ])))
        refine plan_turn ?_
        go_wp2_with fail
        refine (HHE.out _ HX7.out).mono ?_
        rintro e w8 ⟨rfl, hb8⟩
        have HX8 : Hid (Below w6.heap.size w6 w8) := Lib.hid (HX7.out.trans (hb8.mono HX7.out.size))
        have HB8 : Hid (Below w.heap.size w w8) := Lib.hid (HB6.out.trans (HX8.out.mono HB6.out.size))
        clear hb8
        go_wp2_with fail
        refine ⟨HB8.out, ?_⟩
        try (repeat (first | (refine plan_on _ (by rfl) (fun W hW => by (obtain ⟨y1, y2, y3⟩ := HSC.out W hW; go_simp; try with_reducible rfl)) ?_; simp only [Act.put, List.setIfInBounds_toArray, List.set_cons_zero, List.set_cons_succ]) | (refine plan_off (by rfl) ?_; simp only [Act.put, List.setIfInBounds_toArray, List.set_cons_zero, List.set_cons_succ])))
        refine plan_turn ?_
        go_wp2_with fail
        refine (HRH.out _ HX8.out).mono ?_
        rintro e w9 ⟨rfl, hb9⟩
        have HX9 : Hid (Below w6.heap.size w6 w9) := Lib.hid (HX8.out.trans (hb9.mono HX8.out.size))
        have HB9 : Hid (Below w.heap.size w w9) := Lib.hid (HB6.out.trans (HX9.out.mono HB6.out.size))
        clear hb9
        go_wp2_with fail
        refine ⟨HB9.out, ?_⟩
        try (repeat (first | (refine plan_on _ (by rfl) (fun W hW => by (obtain ⟨y1, y2, y3⟩ := HSC.out W hW; go_simp; try with_reducible rfl)) ?_; simp only [Act.put, List.setIfInBounds_toArray, List.set_cons_zero, List.set_cons_succ]) | (refine plan_off (by rfl) ?_; simp only [Act.put, List.setIfInBounds_toArray, List.set_cons_zero, List.set_cons_succ])))
        refine plan_turn ?_
        go_wp2_with fail
        refine (HAC.out _ HX9.out).mono ?_
        rintro e w10 ⟨rfl, hb10⟩
        have HX10 : Hid (Below w6.heap.size w6 w10) := Lib.hid (HX9.out.trans (hb10.mono HX9.out.size))
        have HB10 : Hid (Below w.heap.size w w10) := Lib.hid (HB6.out.trans (HX10.out.mono HB6.out.size))
        clear hb10
        go_wp2_with fail
        refine ⟨HB10.out, ?_⟩
        try (repeat (first | (refine plan_on _ (by rfl) (fun W hW => by (obtain ⟨y1, y2, y3⟩ := HSC.out W hW; go_simp; try with_reducible rfl)) ?_; simp only [Act.put, List.setIfInBounds_toArray, List.set_cons_zero, List.set_cons_succ]) | (refine plan_off (by rfl) ?_; simp only [Act.put, List.setIfInBounds_toArray, List.set_cons_zero, List.set_cons_succ])))
        refine plan_turn ?_
        go_wp2_with fail
        refine (HRA.out _ HX10.out).mono ?_
        rintro e w11 ⟨rfl, hb11⟩
        have HX11 : Hid (Below w6.heap.size w6 w11) := Lib.hid (HX10.out.trans (hb11.mono HX10.out.size))
        have HB11 : Hid (Below w.heap.size w w11) := Lib.hid (HB6.out.trans (HX11.out.mono HB6.out.size))
        clear hb11
        go_wp2_with fail
        refine ⟨HB11.out, ?_⟩
        repeat (first | (refine plan_on _ (by rfl) (fun W hW => by (obtain ⟨y1, y2, y3⟩ := HSC.out W hW; go_simp; try with_reducible rfl)) ?_; simp only [Act.put, List.setIfInBounds_toArray, List.set_cons_zero, List.set_cons_succ]) | (refine plan_off (by rfl) ?_; simp only [Act.put, List.setIfInBounds_toArray, List.set_cons_zero, List.set_cons_succ]))
        refine plan_done ?_
        go_wp2_with fail
        go_roundw
        case rel => exact ⟨k + 1, c', by omega, by go_num, Lib.hid (HC6.out.below HX11.out HC6.out.blk.lt HC6.out.map.lt (Nat.le_refl _)), Lib.hid (HD6.out.below HX11.out), HB11⟩
        case measure => simp [intOf]; omega
    · obtain rfl : k = len := by omega
      go_wp2_with fail
      go_ret
      exact ⟨rfl, hbw.out⟩

end Go.Proofs.YtobkgkiomapabaaDoor
