/- BasketApart: the walk. -/
import Derived.Test.YtcgangmmehbdoaaDoorBkL
namespace Go.Proofs.YtcgangmmehbdoaaDoor
open Go.Shelf Go.RowKit Go.Maps
set_option linter.unusedVariables false

theorem nS_app (B C : List Bsk) (x : ByteArray) : nS (B ++ C) x = nS B x + nS C x := by unfold nS; rw [List.countP_append]
theorem nC_app (B C : List Bsk) (x y : ByteArray) : nC (B ++ C) x y = nC B x y + nC C x y := by unfold nC; rw [List.countP_append]
theorem flat_same {α β : Type} {f g : α → List β} : ∀ (D : List α), (∀ q ∈ D, f q = g q) → D.flatMap f = D.flatMap g
  | [], _ => rfl
  | x :: D, h => by rw [List.flatMap_cons, List.flatMap_cons, h x (by simp), flat_same D (fun q hq => h q (List.mem_cons_of_mem _ hq))]
/-- Those of a person, and the others. -/
def ofP (l : List Ev) (p : ByteArray) : List Ev := l.filter fun e => decide (e.person = p)
def noP (l : List Ev) (p : ByteArray) : List Ev := l.filter fun e => !decide (e.person = p)
theorem BD_apart {g : Int} {l : List Ev} {p : ByteArray} {D D1 D2 : List ByteArray} (h : IsPpl l D) (h1 : IsPpl (ofP l p) D1) (h2 : IsPpl (noP l p) D2) : (BD g l D).Perm (BD g (ofP l p) D1 ++ BD g (noP l p) D2) := by
  have m1 : ∀ q ∈ D1, q = p := fun q hq => by
    obtain ⟨e, he, _, rfl⟩ := (h1.2 q).1 hq
    unfold ofP at he
    rw [List.mem_filter, decide_eq_true_eq] at he
    exact he.2
  have m2 : ∀ q ∈ D2, q ≠ p := fun q hq => by
    obtain ⟨e, he, _, rfl⟩ := (h2.2 q).1 hq
    unfold noP at he
    rw [List.mem_filter, Bool.not_eq_true', decide_eq_false_iff_not] at he
    exact he.2
  have hall : IsPpl l (D1 ++ D2) := by
    refine ⟨?_, fun q => ?_⟩
    · rw [List.nodup_append]
      exact ⟨h1.1, h2.1, fun a ha b hb e => m2 b hb (by rw [← e]; exact m1 a ha)⟩
    · rw [List.mem_append, h1.2, h2.2]
      constructor
      · rintro (⟨e, he, h3⟩ | ⟨e, he, h3⟩)
        · exact ⟨e, (List.mem_filter.1 he).1, h3⟩
        · exact ⟨e, (List.mem_filter.1 he).1, h3⟩
      · rintro ⟨e, he, h3, h4⟩
        by_cases hp : e.person = p
        · exact Or.inl ⟨e, List.mem_filter.2 ⟨he, by simp [hp]⟩, h3, h4⟩
        · exact Or.inr ⟨e, List.mem_filter.2 ⟨he, by simp [hp]⟩, h3, h4⟩
  refine (BD_perm (h.perm hall)).trans ?_
  have e1 : BD g l (D1 ++ D2) = BD g (ofP l p) D1 ++ BD g (noP l p) D2 := by
    unfold BD
    rw [List.flatMap_append]
    congr 1
    · refine flat_same _ (fun q hq => BL_mem (fun e => ?_))
      have := m1 q hq
      subst this
      rw [ownB_mem, ownB_mem]
      unfold ofP
      rw [List.mem_filter, decide_eq_true_eq]
      exact ⟨fun h3 => ⟨⟨h3.1, h3.2.2⟩, h3.2⟩, fun h3 => ⟨h3.1.1, h3.2⟩⟩
    · refine flat_same _ (fun q hq => BL_mem (fun e => ?_))
      have := m2 q hq
      rw [ownB_mem, ownB_mem]
      unfold noP
      rw [List.mem_filter, Bool.not_eq_true', decide_eq_false_iff_not]
      exact ⟨fun h3 => ⟨⟨h3.1, fun e => this (h3.2.2 ▸ e)⟩, h3.2⟩, fun h3 => ⟨h3.1.1, h3.2⟩⟩
  rw [e1]

set_option maxHeartbeats 4000000 in
set_option maxRecDepth 100000 in
theorem basketApart_walk (gap : Int) (A : Option Addr) (n c : Nat) (l : List Ev) (ps a b : ByteArray) (w : World) (ha : EvArg w A n c l) (hps : ps.size ≤ 140737488355328) (has : a.size ≤ 140737488355328) (hbs : b.size ≤ 140737488355328) (hg : GlobAt w) :
    Calls Tryd.prog 4 #[.int .i64 gap, .slice A n c, .string ps, .string a, .string b] w fun e w' => e = .returned (.bool true) ∧ Below w.heap.size w w' := by
  have HLG := Lib.hid (long_any w A l n c ha)
  obtain ⟨hn, hl, hnb, hnil, hbd⟩ := ha
  have HN := Lib.hid hn
  have HL := Lib.hid hl
  have HG := Lib.hid hg
  obtain ⟨i0, hi0, hz0, hz1, hz2⟩ := info_parts ev_info
  clear hn hl hbd hg
  go_enter Tryd.func4, Tryd.ntmps4
  go_wp2_with fail
  refine HLG.out.mono ?_
  rintro e w1 ⟨bl, rfl, hbl, hb1⟩
  have HB1 := Lib.hid hb1
  have HW1 := Lib.hid (awake_any w1 (HG.out.keep hb1 (Nat.le_refl _)))
  clear HLG hb1
  cases bl
  rotate_left
  · go_wp2_with fail
    refine HW1.out.mono ?_
    rintro e w2 ⟨rfl, hb2⟩
    have HB2 : Hid (Below w.heap.size w w2) := Lib.hid (HB1.out.trans (hb2.mono HB1.out.size))
    go_wp2_with fail
    go_ret
    exact ⟨rfl, HB2.out⟩
  obtain ⟨h30, hsm⟩ := hbl rfl
  have HSM := Lib.hid hsm
  clear hbl hsm
  by_cases gps : (60 : Int) < (ps.size : Int)
  · go_wp2_with fail
    refine HW1.out.mono ?_
    rintro e w2 ⟨rfl, hb2⟩
    have HB2 : Hid (Below w.heap.size w w2) := Lib.hid (HB1.out.trans (hb2.mono HB1.out.size))
    go_wp2_with fail
    go_ret
    exact ⟨rfl, HB2.out⟩
  have dps : decide ((60 : Int) < (ps.size : Int)) = false := decide_eq_false gps
  by_cases ga : (60 : Int) < (a.size : Int)
  · go_wp2_with fail
    refine HW1.out.mono ?_
    rintro e w2 ⟨rfl, hb2⟩
    have HB2 : Hid (Below w.heap.size w w2) := Lib.hid (HB1.out.trans (hb2.mono HB1.out.size))
    go_wp2_with fail
    go_ret
    exact ⟨rfl, HB2.out⟩
  have da : decide ((60 : Int) < (a.size : Int)) = false := decide_eq_false ga
  by_cases gb : (60 : Int) < (b.size : Int)
  · go_wp2_with fail
    refine HW1.out.mono ?_
    rintro e w2 ⟨rfl, hb2⟩
    have HB2 : Hid (Below w.heap.size w w2) := Lib.hid (HB1.out.trans (hb2.mono HB1.out.size))
    go_wp2_with fail
    go_ret
    exact ⟨rfl, HB2.out⟩
  have db : decide ((60 : Int) < (b.size : Int)) = false := decide_eq_false gb
  clear HW1
  go_wp2_with fail
  go_loopw [11, 12, 38] (fun s1 s2 i wr => ∃ k : Nat, k ≤ n ∧ i = .int .i64 k ∧ Hid ((ofP (l.take k) ps).length ≤ k ∧ (noP (l.take k) ps).length ≤ k) ∧ Hid (wr.ownsRow w1.heap.size 33 8 s1 (ofP (l.take k) ps).length ((ofP (l.take k) ps).flatMap evC)) ∧ Hid (wr.ownsRow w1.heap.size 33 8 s2 (noP (l.take k) ps).length ((noP (l.take k) ps).flatMap evC)) ∧ Hid (Apart s1 s2) ∧ Hid (Below w1.heap.size w1 wr)) (fun _ _ i _ => n - (intOf i).toNat)
  case atStart => exact ⟨0, Nat.zero_le _, rfl, Lib.hid ⟨Nat.le_refl _, Nat.le_refl _⟩, Lib.hid (own_nil _ _ _ _), Lib.hid (own_nil _ _ _ _), Lib.hid (fun g hg => by cases hg), Lib.hid (Below.refl _ _)⟩
  case round =>
    obtain ⟨k, hk, rfl, hlens, hr1, hr2, hap, hbw⟩ := hrel
    obtain ⟨A5, c5, hq1⟩ := own_shape hr1.out
    rw [hq1] at hr1 hap ⊢
    obtain ⟨A6, c6, hq2⟩ := own_shape hr2.out
    rw [hq2] at hr2 hap ⊢
    clear hq1 hq2
    have hwz := hbw.out.size
    have HBW : Hid (Below w.heap.size w wr) := Lib.hid (HB1.out.trans (hbw.out.mono HB1.out.size))
    by_cases hlt : k < n
    · obtain ⟨x, hx⟩ : ∃ x, l[k]? = some x := ⟨l[k]'(by rw [HN.out]; exact hlt), List.getElem?_eq_getElem _⟩
      obtain ⟨g, o, rfl, hgB, hcl⟩ := HL.out.at (by rw [HN.out]; omega)
      obtain ⟨e0, e1, e2, e3, e4, e5, e6, e7⟩ : EvAt wr g (o + k * 8) x := (hcl k x hx).keep (fun j => HBW.out.cell (p := ⟨g, j, none⟩) hgB)
      have HT1 : Hid (ofP (l.take (k + 1)) ps = ofP (l.take k) ps ++ [x].filter (fun e => decide (e.person = ps))) := Lib.hid (by unfold ofP; rw [take_snoc hx, List.filter_append])
      have HT2 : Hid (noP (l.take (k + 1)) ps = noP (l.take k) ps ++ [x].filter (fun e => !decide (e.person = ps))) := Lib.hid (by unfold noP; rw [take_snoc hx, List.filter_append])
      have hk8 : (k : Int) < (n : Int) := by omega
      have hk9 : (0 : Int) ≤ (k : Int) := by omega
      have hlens' := hlens.out
      clear hcl hx hlens
      generalize ofP (l.take k) ps = o1 at *
      generalize noP (l.take k) ps = o2 at *
      obtain ⟨m1, hm1⟩ : ∃ m1, o1.length = m1 := ⟨_, rfl⟩
      obtain ⟨m2, hm2⟩ : ∃ m2, o2.length = m2 := ⟨_, rfl⟩
      rw [hm1] at hlens' hr1 hap ⊢
      rw [hm2] at hlens' hr2 hap ⊢
      have HM1 := Lib.hid hm1
      have HM2 := Lib.hid hm2
      obtain ⟨hl1, hl2⟩ := hlens'
      clear hm1 hm2
      obtain ⟨w3, hw3⟩ : ∃ w3, wr.alloc (.cells (evArr x) 33) = w3 := ⟨_, rfl⟩
      have HBX : Hid (Blk w3 wr.heap.size 33 (evArr x)) := Lib.hid (by rw [← hw3]; exact Blk.new _ _ _)
      have HB3 : Hid (Below w1.heap.size w1 w3) := Lib.hid (by rw [← hw3]; exact hbw.out.alloc hwz _)
      have HR1 : Hid (w3.ownsRow w1.heap.size 33 8 (.slice A5 m1 c5) m1 (o1.flatMap evC)) := Lib.hid (by rw [← hw3]; exact hr1.out.alloc _)
      have HR2 : Hid (w3.ownsRow w1.heap.size 33 8 (.slice A6 m2 c6) m2 (o2.flatMap evC)) := Lib.hid (by rw [← hw3]; exact hr2.out.alloc _)
      have hz3 := HB3.out.size
      unfold evArr at hw3
      have d0 : w3.cell? ⟨wr.heap.size, 0, none⟩ = some (.string x.src) := HBX.out.cell 0
      have d1 : w3.cell? ⟨wr.heap.size, 1, none⟩ = some (.int .i64 x.num) := HBX.out.cell 1
      have d2 : w3.cell? ⟨wr.heap.size, 2, none⟩ = some (.int .i64 x.tick) := HBX.out.cell 2
      have d3 : w3.cell? ⟨wr.heap.size, 3, none⟩ = some (.int .i64 x.kind) := HBX.out.cell 3
      have d4 : w3.cell? ⟨wr.heap.size, 4, none⟩ = some (.string x.person) := HBX.out.cell 4
      have d5 : w3.cell? ⟨wr.heap.size, 5, none⟩ = some (.string x.item) := HBX.out.cell 5
      have d6 : w3.cell? ⟨wr.heap.size, 6, none⟩ = some (.int .i64 x.value) := HBX.out.cell 6
      have d7 : w3.cell? ⟨wr.heap.size, 7, none⟩ = some (.string x.text) := HBX.out.cell 7
      have hfl : [x].flatMap evC = evC x := by simp
      have HFL := Lib.hid hfl
      clear hfl
      by_cases hp : x.person = ps
      · have q1 : (x.person.toList == ps.toList) = true := (beq_list _ _).2 hp
        have HF1 : Hid ([x].filter (fun e => decide (e.person = ps)) = [x]) := Lib.hid (by simp [hp])
        have HF2 : Hid ([x].filter (fun e => !decide (e.person = ps)) = []) := Lib.hid (by simp [hp])
        clear hp
        go_wp2_with (first
          | (at_builtin; refine wpList_append_row _ rfl _ _ 22 rfl w1.heap.size 33 i0 _ 8 96 Tryd.underlying22 hi0 hz0 hz1 hz2 rfl (by omega) (.slice A5 m1 c5) m1 _ rfl (HR1.out.alloc _) (w3.heap.size + 1) (some ⟨w3.heap.size, 0, none⟩) 1 1 (evC x) rfl (one_ev w3 x _) (fun h => by cases h) (fun u hu => evC_one [x] u (by simpa using hu)) (by unfold maxLen; omega) (by omega) (by simp; omega) ?_; intro v7 w7 ho7 hg7 hv7))
        go_roundw
        case rel =>
          refine ⟨k + 1, by omega, by go_num, Lib.hid ?_, Lib.hid ?_, Lib.hid ?_, Lib.hid (apart_step hap.out HR2.out hv7), Lib.hid ((HB3.out.alloc HB3.out.size _).grown hg7 (by simp; omega) (fun j hj => (HR1.out.lt _ hj).1))⟩
          · rw [HT1.out, HT2.out, HF1.out, HF2.out, List.append_nil, List.length_append, HM1.out, HM2.out]; simp; omega
          · rw [HT1.out, HF1.out, List.length_append, HM1.out, List.flatMap_append, HFL.out]; exact ho7
          · rw [HT2.out, HF2.out, List.append_nil, HM2.out]; exact owns_step hap.out HR2.out hg7
        case measure => simp [intOf]; omega
      · have q1 : (x.person.toList == ps.toList) = false := Bool.eq_false_iff.2 (fun e => hp ((beq_list _ _).1 e))
        have HF1 : Hid ([x].filter (fun e => decide (e.person = ps)) = []) := Lib.hid (by simp [hp])
        have HF2 : Hid ([x].filter (fun e => !decide (e.person = ps)) = [x]) := Lib.hid (by simp [hp])
        clear hp
        go_wp2_with (first
          | (at_builtin; refine wpList_append_row _ rfl _ _ 22 rfl w1.heap.size 33 i0 _ 8 96 Tryd.underlying22 hi0 hz0 hz1 hz2 rfl (by omega) (.slice A6 m2 c6) m2 _ rfl (HR2.out.alloc _) (w3.heap.size + 1) (some ⟨w3.heap.size, 0, none⟩) 1 1 (evC x) rfl (one_ev w3 x _) (fun h => by cases h) (fun u hu => evC_one [x] u (by simpa using hu)) (by unfold maxLen; omega) (by omega) (by simp; omega) ?_; intro v7 w7 ho7 hg7 hv7))
        go_roundw
        case rel =>
          refine ⟨k + 1, by omega, by go_num, Lib.hid ?_, Lib.hid ?_, Lib.hid ?_, Lib.hid (apart_step hap.out.symm HR1.out hv7).symm, Lib.hid ((HB3.out.alloc HB3.out.size _).grown hg7 (by simp; omega) (fun j hj => (HR2.out.lt _ hj).1))⟩
          · rw [HT1.out, HT2.out, HF1.out, HF2.out, List.append_nil, List.length_append, HM1.out, HM2.out]; simp; omega
          · rw [HT1.out, HF1.out, List.append_nil, HM1.out]; exact owns_step hap.out.symm HR1.out hg7
          · rw [HT2.out, HF2.out, List.length_append, HM2.out, List.flatMap_append, HFL.out]; exact ho7
        case measure => simp [intOf]; omega
    · obtain rfl : n = k := by omega
      have htl : l.take n = l := by rw [← HN.out, List.take_length]
      rw [htl] at hlens hr1 hr2 hap ⊢
      have hlens' := hlens.out
      have HS1 : Hid (∀ e ∈ ofP l ps, EvSh e) := Lib.hid (fun e he => (HSM.out e (List.mem_filter.1 he).1).sh)
      have HS2 : Hid (∀ e ∈ noP l ps, EvSh e) := Lib.hid (fun e he => (HSM.out e (List.mem_filter.1 he).1).sh)
      obtain ⟨L1, hL1⟩ : ∃ L1, ofP l ps = L1 := ⟨_, rfl⟩
      obtain ⟨L2, hL2⟩ : ∃ L2, noP l ps = L2 := ⟨_, rfl⟩
      rw [hL1] at hlens' hr1 hap HS1 ⊢
      rw [hL2] at hlens' hr2 hap HS2 ⊢
      have HL1 := Lib.hid hL1
      have HL2 := Lib.hid hL2
      obtain ⟨m1, hm1⟩ : ∃ m1, L1.length = m1 := ⟨_, rfl⟩
      obtain ⟨m2, hm2⟩ : ∃ m2, L2.length = m2 := ⟨_, rfl⟩
      rw [hm1] at hlens' hr1 hap ⊢
      rw [hm2] at hlens' hr2 hap ⊢
      obtain ⟨hl1, hl2⟩ := hlens'
      have HM1 := Lib.hid hm1
      have HM2 := Lib.hid hm2
      clear hL1 hL2 hm1 hm2 htl hlens
      have HE1 : Hid (EvsAt wr wr.heap.size A5 L1) := Lib.hid (by have := RowIn.of_own hr1.out; unfold EvsAt; rw [HM1.out]; exact this)
      have HE2 : Hid (EvsAt wr wr.heap.size A6 L2) := Lib.hid (by have := RowIn.of_own hr2.out; unfold EvsAt; rw [HM2.out]; exact this)
      have HO1 := Lib.hid (of_any gap A l n c wr w.heap.size HN.out (HL.out.below HBW.out) HBW.out.size (by omega) (fun e he => (HSM.out e he).sh) (HG.out.keep HBW.out (Nat.le_refl _)))
      clear hr1 hr2 hap
      obtain ⟨w4, rfl⟩ : ∃ w4 : World, w4 = wr := ⟨_, rfl⟩
      go_wp2_with fail
      refine HO1.out.mono ?_
      rintro e w5 ⟨b1, D, rfl, hD, hlD, hk5, hb5⟩
      have HB5 : Hid (Below w.heap.size w w5) := Lib.hid (HBW.out.trans (hb5.mono HBW.out.size))
      have HK5 := Lib.hid hk5
      have HD := Lib.hid hD
      have HO2 := Lib.hid (of_any gap A5 L1 m1 c5 w5 w4.heap.size HM1.out (HE1.out.below hb5) hb5.size (by omega) HS1.out (HG.out.keep HB5.out (Nat.le_refl _)))
      have HE2' : Hid (EvsAt w5 w4.heap.size A6 L2) := Lib.hid (HE2.out.below hb5)
      have HZ5 : Hid (w4.heap.size ≤ w5.heap.size) := Lib.hid hb5.size
      clear HO1 hk5 hb5 hD HE1 HE2
      go_wp2_with fail
      refine HO2.out.mono ?_
      rintro e w6 ⟨b2, D1, rfl, hD1, hlD1, hk6, hb6⟩
      have HB6 : Hid (Below w.heap.size w w6) := Lib.hid (HB5.out.trans (hb6.mono HB5.out.size))
      have HK6 := Lib.hid hk6
      have HKb6 := Lib.hid (HK5.out.below hb6)
      have HD1 := Lib.hid hD1
      have HO3 := Lib.hid (of_any gap A6 L2 m2 c6 w6 w4.heap.size HM2.out (HE2'.out.below (hb6.mono HZ5.out)) (Nat.le_trans HZ5.out hb6.size) (by omega) HS2.out (HG.out.keep HB6.out (Nat.le_refl _)))
      clear HO2 hk6 hb6 hD1 HK5
      go_wp2_with fail
      refine HO3.out.mono ?_
      rintro e w7 ⟨b3, D2, rfl, hD2, hlD2, hk7, hb7⟩
      have HB7 : Hid (Below w.heap.size w w7) := Lib.hid (HB6.out.trans (hb7.mono HB6.out.size))
      have HKb7 := Lib.hid (HKb6.out.below hb7)
      have HKc7 := Lib.hid (HK6.out.below hb7)
      have HKd7 := Lib.hid hk7
      have HPM : Hid ((BD (clampG gap) l D).Perm (BD (clampG gap) L1 D1 ++ BD (clampG gap) L2 D2)) := Lib.hid (by rw [← HL1.out, ← HL2.out] at *; exact BD_apart HD.out (by first | exact HD1.out | (rw [HL1.out]; exact HD1.out)) (by first | exact hD2 | (rw [HL2.out]; exact hD2)))
      clear HO3 hk7 hb7 hD2 HKb6 HK6
      generalize BD (clampG gap) l D = Bb at *
      generalize BD (clampG gap) L1 D1 = Bc at *
      generalize BD (clampG gap) L2 D2 = Bd at *
      have HQ1 : Hid (Bb.length = Bc.length + Bd.length) := Lib.hid (by rw [HPM.out.length_eq, List.length_append])
      have HQ2 : Hid (nS Bb a = nS Bc a + nS Bd a) := Lib.hid (by rw [← nS_app]; exact HPM.out.countP_eq _)
      have HQ3 : Hid (nC Bb a b = nC Bc a b + nC Bd a b) := Lib.hid (by rw [← nC_app]; exact HPM.out.countP_eq _)
      have ham : a.size ≤ maxLen := by unfold maxLen; omega
      have hbm : b.size ≤ maxLen := by unfold maxLen; omega
      have HA1 := Lib.hid (all_any w7 b1 _ _ HKb7.out)
      have HA2 := Lib.hid (all_any w7 b2 _ _ HKc7.out)
      have HA3 := Lib.hid (all_any w7 b3 _ _ HKd7.out)
      have HS1' := Lib.hid (single_any w7 b1 _ _ a HKb7.out ham)
      have HS2' := Lib.hid (single_any w7 b2 _ _ a HKc7.out ham)
      have HS3' := Lib.hid (single_any w7 b3 _ _ a HKd7.out ham)
      have HC1' := Lib.hid (count_any w7 b1 _ _ a b HKb7.out ham hbm)
      have HC2' := Lib.hid (count_any w7 b2 _ _ a b HKc7.out ham hbm)
      have HC3' := Lib.hid (count_any w7 b3 _ _ a b HKd7.out ham hbm)
      have HAW := Lib.hid (awake_any w7 (HG.out.keep HB7.out (Nat.le_refl _)))
      have l1 := nS_le Bc a
      have l2 := nS_le Bd a
      have l3 := nC_le Bc a b
      have l4 := nC_le Bd a b
      rw [HQ1.out] at HA1
      rw [HQ2.out] at HS1'
      rw [HQ3.out] at HC1'
      generalize Bc.length = nc at *
      generalize Bd.length = nd at *
      generalize nS Bc a = sc at *
      generalize nS Bd a = sd at *
      generalize nC Bc a b = cc at *
      generalize nC Bd a b = cd at *
      have hcd1 : nc ≤ 100000 := by omega
      have hcd2 : nd ≤ 100000 := by omega
      clear hlD hlD1 hlD2 HKb7 HKc7 HKd7 HPM HQ1 HQ2 HQ3
      go_wp2_with fail
      refine HA1.out.mono ?_
      rintro e w8 ⟨rfl, rfl⟩
      go_wp2_with fail
      refine HA2.out.mono ?_
      rintro e w8 ⟨rfl, rfl⟩
      go_wp2_with fail
      refine HA3.out.mono ?_
      rintro e w8 ⟨rfl, rfl⟩
      go_wp2_with fail
      refine HS1'.out.mono ?_
      rintro e w8 ⟨rfl, rfl⟩
      go_wp2_with fail
      refine HS2'.out.mono ?_
      rintro e w8 ⟨rfl, rfl⟩
      go_wp2_with fail
      refine HS3'.out.mono ?_
      rintro e w8 ⟨rfl, rfl⟩
      go_wp2_with fail
      refine HC1'.out.mono ?_
      rintro e w8 ⟨rfl, rfl⟩
      go_wp2_with fail
      refine HC2'.out.mono ?_
      rintro e w8 ⟨rfl, rfl⟩
      go_wp2_with fail
      refine HC3'.out.mono ?_
      rintro e w8 ⟨rfl, rfl⟩
      go_wp2_with fail
      refine HAW.out.mono ?_
      rintro e w9 ⟨rfl, hb9⟩
      have HB9 : Hid (Below w.heap.size w w9) := Lib.hid (HB7.out.trans (hb9.mono HB7.out.size))
      go_wp2_with fail
      go_ret
      exact ⟨rfl, HB9.out⟩

end Go.Proofs.YtcgangmmehbdoaaDoor
