/- BasketBounds: the walk. -/
import Derived.Test.YtcgangmmehbdoaaDoorBoundsP
namespace Go.Proofs.YtcgangmmehbdoaaDoor
open Go.Shelf Go.RowKit Go.Maps
set_option linter.unusedVariables false

set_option maxHeartbeats 4000000 in
set_option maxRecDepth 100000 in
theorem basketBounds_walk (gap more : Int) (A : Option Addr) (n c : Nat) (l : List Ev) (a b : ByteArray) (w : World) (hmw : (Lit.int .u16 more).wf = true) (ha : EvArg w A n c l) (has : a.size ≤ 140737488355328) (hbs : b.size ≤ 140737488355328) (hg : GlobAt w) :
    Calls Tryd.prog 5 #[.int .i64 gap, .int .u16 more, .slice A n c, .string a, .string b] w fun e w' => e = .returned (.bool true) ∧ Below w.heap.size w w' := by
  have hmr : 0 ≤ more ∧ more ≤ 65535 := by
    simp [Lit.wf, IntKind.min, IntKind.max, IntKind.signed, IntKind.bits] at hmw
    omega
  obtain ⟨hm0, hm1⟩ := hmr
  clear hmw
  have HLG := Lib.hid (long_any w A l n c ha)
  obtain ⟨hn, hl, hnb, hnil, hbd⟩ := ha
  have HN := Lib.hid hn
  have HL := Lib.hid hl
  have HG := Lib.hid hg
  clear hn hl hbd hg
  go_enter Tryd.func5, Tryd.ntmps5
  go_wp2_with fail
  refine HLG.out.mono ?_
  rintro e w1 ⟨bl, rfl, hbl, hb1⟩
  have HB1 := Lib.hid hb1
  have HW1 := Lib.hid (awake_any w1 (HG.out.keep hb1 (Nat.le_refl _)))
  clear HLG hb1
  cases bl
  rotate_left
  · go_wp2_with fail
    refine HW1.out.mono ?_
    rintro e w2 ⟨rfl, hb2⟩
    have HB2 : Hid (Below w.heap.size w w2) := Lib.hid (HB1.out.trans (hb2.mono HB1.out.size))
    go_wp2_with fail
    go_ret
    exact ⟨rfl, HB2.out⟩
  obtain ⟨h30, hsm⟩ := hbl rfl
  have HSM := Lib.hid hsm
  clear hbl hsm
  by_cases ga : (60 : Int) < (a.size : Int)
  · go_wp2_with fail
    refine HW1.out.mono ?_
    rintro e w2 ⟨rfl, hb2⟩
    have HB2 : Hid (Below w.heap.size w w2) := Lib.hid (HB1.out.trans (hb2.mono HB1.out.size))
    go_wp2_with fail
    go_ret
    exact ⟨rfl, HB2.out⟩
  have da : decide ((60 : Int) < (a.size : Int)) = false := decide_eq_false ga
  by_cases gb : (60 : Int) < (b.size : Int)
  · go_wp2_with fail
    refine HW1.out.mono ?_
    rintro e w2 ⟨rfl, hb2⟩
    have HB2 : Hid (Below w.heap.size w w2) := Lib.hid (HB1.out.trans (hb2.mono HB1.out.size))
    go_wp2_with fail
    go_ret
    exact ⟨rfl, HB2.out⟩
  have db : decide ((60 : Int) < (b.size : Int)) = false := decide_eq_false gb
  by_cases gg0 : gap < 0
  · go_wp2_with fail
    refine HW1.out.mono ?_
    rintro e w2 ⟨rfl, hb2⟩
    have HB2 : Hid (Below w.heap.size w w2) := Lib.hid (HB1.out.trans (hb2.mono HB1.out.size))
    go_wp2_with fail
    go_ret
    exact ⟨rfl, HB2.out⟩
  have dg0 : decide (gap < 0) = false := decide_eq_false gg0
  by_cases gg1 : (549755813888 : Int) < gap
  · go_wp2_with fail
    refine HW1.out.mono ?_
    rintro e w2 ⟨rfl, hb2⟩
    have HB2 : Hid (Below w.heap.size w w2) := Lib.hid (HB1.out.trans (hb2.mono HB1.out.size))
    go_wp2_with fail
    go_ret
    exact ⟨rfl, HB2.out⟩
  have dg1 : decide ((549755813888 : Int) < gap) = false := decide_eq_false gg1
  clear HW1
  have HSH : Hid (∀ e ∈ l, EvSh e) := Lib.hid (fun e he => (HSM.out e he).sh)
  have HL1 : Hid (EvsAt w1 w.heap.size A l) := Lib.hid (HL.out.below HB1.out)
  have HO1 := Lib.hid (of_any gap A l n c w1 w.heap.size HN.out HL1.out HB1.out.size (by omega) HSH.out (HG.out.keep HB1.out (Nat.le_refl _)))
  have ham : a.size ≤ maxLen := by unfold maxLen; omega
  have hbm : b.size ≤ maxLen := by unfold maxLen; omega
  go_wp2_with fail
  refine HO1.out.mono ?_
  rintro e w5 ⟨b1, D, rfl, hD, hlD, hk5, hb5⟩
  have HB5 : Hid (Below w.heap.size w w5) := Lib.hid (HB1.out.trans (hb5.mono HB1.out.size))
  have HK5 := Lib.hid hk5
  have HD := Lib.hid hD
  have HO2 := Lib.hid (of_any (gap + more) A l n c w5 w.heap.size HN.out (HL.out.below HB5.out) HB5.out.size (by omega) HSH.out (HG.out.keep HB5.out (Nat.le_refl _)))
  clear HO1 hk5 hb5 hD
  go_wp2_with fail
  refine HO2.out.mono ?_
  rintro e w6 ⟨b2, D1, rfl, hD1, hlD1, hk6, hb6⟩
  have HB6 : Hid (Below w.heap.size w w6) := Lib.hid (HB5.out.trans (hb6.mono HB5.out.size))
  have HK6 := Lib.hid hk6
  have HKb6 := Lib.hid (HK5.out.below hb6)
  have HD1 := Lib.hid hD1
  have HO3 := Lib.hid (of_any 1099511627776 A l n c w6 w.heap.size HN.out (HL.out.below HB6.out) HB6.out.size (by omega) HSH.out (HG.out.keep HB6.out (Nat.le_refl _)))
  clear HO2 hk6 hb6 hD1 HK5
  go_wp2_with fail
  refine HO3.out.mono ?_
  rintro e w7 ⟨b3, D2, rfl, hD2, hlD2, hk7, hb7⟩
  have HB7 : Hid (Below w.heap.size w w7) := Lib.hid (HB6.out.trans (hb7.mono HB6.out.size))
  have HKb7 := Lib.hid (HKb6.out.below hb7)
  have HKc7 := Lib.hid (HK6.out.below hb7)
  have HKd7 := Lib.hid hk7
  have HD2 := Lib.hid hD2
  have HQ1 : Hid ((BD (clampG (gap + more)) l D1).length ≤ (BD (clampG gap) l D).length) := Lib.hid (by
    rw [BD_len HD1.out HD.out]
    exact BD_less (by unfold clampG; split <;> split <;> (try split) <;> (try split) <;> omega) l D)
  have HQ2 : Hid (∀ ns, IsPpl l ns → (BD (clampG 1099511627776) l D2).length = ns.length) := Lib.hid (fun ns hns => by
    rw [BD_len hD2 hns]
    exact BD_lone (fun p hp => (hns.2 p).1 hp))
  clear HO3 hk7 hb7 hD2 HKb6 HK6 hlD1 hlD2
  generalize BD (clampG gap) l D = Bb at *
  generalize BD (clampG (gap + more)) l D1 = Bc at *
  generalize BD (clampG 1099511627776) l D2 = Bd at *
  have HQ3 := Lib.hid (nC_two Bb a b)
  have HC0 := Lib.hid (count_any w7 b1 _ _ a a HKb7.out ham ham)
  rw [nC_self] at HC0
  have hmm := @run_makeMap Tryd.prog
  go_wp2_with fail
  refine HC0.out.mono ?_
  rintro e w8 ⟨rfl, rfl⟩
  clear HC0
  obtain ⟨w8, hw8⟩ : ∃ w8, w7.alloc (.map #[] 0) = w8 := ⟨_, rfl⟩
  have HM8 : Hid (MapSz Tryd.prog 9 okBool w8 w7.heap.size ([] : List ByteArray).length (mapG (setG []))) := Lib.hid (by rw [← hw8]; exact (MapSz.made w7 Tryd.prog 9 okBool).congr (fun kl => by cases kl <;> rfl))
  have hb8 : Below w7.heap.size w7 w8 := by rw [← hw8]; exact (Below.refl _ _).alloc (Nat.le_refl _) _
  have HB8 : Hid (Below w.heap.size w w8) := Lib.hid (HB7.out.trans (hb8.mono HB7.out.size))
  have HX8 := Lib.hid hb8
  clear hb8
  go_wp2_with fail
  clear hw8
  go_loopw [70] (fun i wr => ∃ k : Nat, k ≤ n ∧ i = .int .i64 k ∧ Hid (∃ ns, IsPpl (l.take k) ns ∧ ns.length ≤ k ∧ MapSz Tryd.prog 9 okBool wr w7.heap.size ns.length (mapG (setG ns))) ∧ Hid (Below w7.heap.size w7 wr)) (fun i _ => n - (intOf i).toNat)
  case atStart => exact ⟨0, Nat.zero_le _, rfl, Lib.hid ⟨[], ⟨List.Pairwise.nil, fun p => ⟨fun h => (by cases h), fun h => (by obtain ⟨e, he, _⟩ := h; cases he)⟩⟩, Nat.le_refl _, HM8.out⟩, HX8⟩
  case round =>
    clear HM8 HX8 HB8
    obtain ⟨k, hk, rfl, hns, hbw⟩ := hrel
    have HBW : Hid (Below w.heap.size w wr) := Lib.hid (HB7.out.trans (hbw.out.mono HB7.out.size))
    obtain ⟨ns, hip, hlen, hmap⟩ := hns.out
    have hwz := hbw.out.size
    by_cases hlt : k < n
    · obtain ⟨x, hx⟩ : ∃ x, l[k]? = some x := ⟨l[k]'(by rw [HN.out]; exact hlt), List.getElem?_eq_getElem _⟩
      obtain ⟨g, o, rfl, hgB, hcl⟩ := HL.out.at (by rw [HN.out]; omega)
      obtain ⟨e0, e1, e2, e3, e4, e5, e6, e7⟩ : EvAt wr g (o + k * 8) x := (hcl k x hx).keep (fun j => HBW.out.cell (p := ⟨g, j, none⟩) hgB)
      have hshx := HSH.out x (List.mem_of_getElem? hx)
      have hpx : x.person.size ≤ maxLen := by have := hshx.2.1; unfold maxLen; omega
      have HTK : Hid (l.take (k + 1) = l.take k ++ [x]) := Lib.hid (take_snoc hx)
      have hk8 : (k : Int) < (n : Int) := by omega
      have hk9 : (0 : Int) ≤ (k : Int) := by omega
      obtain ⟨w9, hw9⟩ : ∃ w9, wr.alloc (.cells (evArr x) 33) = w9 := ⟨_, rfl⟩
      have HBX : Hid (Blk w9 wr.heap.size 33 (evArr x)) := Lib.hid (by rw [← hw9]; exact Blk.new _ _ _)
      have hb9 : Below w7.heap.size w7 w9 := by rw [← hw9]; exact hbw.out.alloc hwz _
      have HB9 := Lib.hid hb9
      have HM9 : Hid (MapSz Tryd.prog 9 okBool w9 w7.heap.size ns.length (mapG (setG ns))) := Lib.hid (by rw [← hw9]; exact hmap.alloc _)
      have HBY := Lib.hid (rbuy_any x w9 hshx)
      unfold evA at HBY
      unfold evArr at hw9
      have d0 : w9.cell? ⟨wr.heap.size, 0, none⟩ = some (.string x.src) := HBX.out.cell 0
      have d1 : w9.cell? ⟨wr.heap.size, 1, none⟩ = some (.int .i64 x.num) := HBX.out.cell 1
      have d2 : w9.cell? ⟨wr.heap.size, 2, none⟩ = some (.int .i64 x.tick) := HBX.out.cell 2
      have d3 : w9.cell? ⟨wr.heap.size, 3, none⟩ = some (.int .i64 x.kind) := HBX.out.cell 3
      have d4 : w9.cell? ⟨wr.heap.size, 4, none⟩ = some (.string x.person) := HBX.out.cell 4
      have d5 : w9.cell? ⟨wr.heap.size, 5, none⟩ = some (.string x.item) := HBX.out.cell 5
      have d6 : w9.cell? ⟨wr.heap.size, 6, none⟩ = some (.int .i64 x.value) := HBX.out.cell 6
      have d7 : w9.cell? ⟨wr.heap.size, 7, none⟩ = some (.string x.text) := HBX.out.cell 7
      have HIP := Lib.hid hip
      have HLT9 := Lib.hid HBX.out.lt
      clear hcl hx hip hmap hns hb9 hshx
      go_wp2_with fail
      refine HBY.out.mono ?_
      rintro e w10 ⟨rfl, hb10⟩
      have HB10 : Hid (Below w7.heap.size w7 w10) := Lib.hid (HB9.out.trans (hb10.mono HB9.out.size))
      have HM10 : Hid (MapSz Tryd.prog 9 okBool w10 w7.heap.size ns.length (mapG (setG ns))) := Lib.hid (HM9.out.kept (below_kept (S := fun _ => False) hb10 (Nat.le_refl _)) (fun h => h))
      have f4 : w10.cell? ⟨wr.heap.size, 4, none⟩ = some (.string x.person) := (hb10.cell (p := ⟨wr.heap.size, 4, none⟩) HLT9.out).trans d4
      clear HBY hb10 HB9 HM9 HBX hw9 d0 d1 d2 d3 d4 d5 d6 d7 e0 e1 e2 e3 e4 e5 e6 e7
      cases hby : buyB x
      · have HNX : Hid (IsPpl (l.take (k + 1)) ns) := Lib.hid (by rw [HTK.out]; exact ppl_same HIP.out hby)
        clear hby
        go_wp2_with fail
        go_roundw
        case rel => exact ⟨k + 1, by omega, by go_num, Lib.hid ⟨ns, HNX.out, by omega, HM10.out⟩, HB10⟩
        case measure => simp [intOf]; omega
      · have HNX : Hid (IsPpl (l.take (k + 1)) (if memB x.person ns then ns else ns ++ [x.person])) := Lib.hid (by rw [HTK.out]; exact ppl_next HIP.out hby)
        clear hby
        go_wp2_with (first
          | (at_mapUpdate; refine wpList_storeZ _ rfl _ _ _ 39 rfl 9 4 (string_keyed Tryd.underlying9) Tryd.underlying39 okBool w7.heap.size ns.length (mapG (setG ns)) rfl HM10.out (by unfold maxLen; omega) _ (.bool true) _ rfl rfl (WideMaps.keyOf_string_mk Tryd.underlying9 hpx) rfl ?_; intro w11 hm11 hg11 hs11)
          | fail)
        have HM11 : Hid (MapSz Tryd.prog 9 okBool w11 w7.heap.size (if memB x.person ns then ns else ns ++ [x.person]).length (mapG (setG (if memB x.person ns then ns else ns ++ [x.person])))) := Lib.hid (by
          exact setZ hm11)
        have HB11 : Hid (Below w7.heap.size w7 w11) := Lib.hid (HB10.out.grown hg11 HB10.out.size (fun j hj => by cases hj; exact Nat.le_refl _))
        clear hm11 hg11 hs11
        go_roundw
        case rel => exact ⟨k + 1, by omega, by go_num, Lib.hid ⟨_, HNX.out, by split <;> (first | omega | (rw [List.length_append]; simp; omega)), HM11.out⟩, HB11⟩
        case measure => simp [intOf]; omega
    · obtain rfl : n = k := by omega
      have htl : l.take n = l := by rw [← HN.out, List.take_length]
      rw [htl] at hip
      have HKb := Lib.hid (HKb7.out.below hbw.out)
      have HKc := Lib.hid (HKc7.out.below hbw.out)
      have HKd := Lib.hid (HKd7.out.below hbw.out)
      have HEQ : Hid (Bd.length = ns.length) := Lib.hid (HQ2.out ns hip)
      have hlenm : ∀ ty, (Builtin.len_ #[39] ty #[.map (some w7.heap.size)]).run Tryd.prog wr = .ok (.int .i64 ns.length) wr := fun ty => hmap.len Tryd.underlying39 ty
      have HA1 := Lib.hid (all_any wr b1 _ _ HKb.out)
      have HA2 := Lib.hid (all_any wr b2 _ _ HKc.out)
      have HA3 := Lib.hid (all_any wr b3 _ _ HKd.out)
      have HS1 := Lib.hid (single_any wr b1 _ _ a HKb.out ham)
      have HS2 := Lib.hid (single_any wr b1 _ _ b HKb.out hbm)
      have HC1 := Lib.hid (count_any wr b1 _ _ a b HKb.out ham hbm)
      have HC2 := Lib.hid (count_any wr b1 _ _ b a HKb.out hbm ham)
      have HAW := Lib.hid (awake_any wr (HG.out.keep HBW.out (Nat.le_refl _)))
      have HSF : Hid (a = b → nC Bb a b = 0) := Lib.hid (fun h => by rw [h]; exact nC_self _ _)
      have l1 := nS_le Bb a
      have l2 := nS_le Bb b
      have q3 := HQ3.out
      have q1 := HQ1.out
      rw [HEQ.out] at HA3
      obtain ⟨q4, q5⟩ := q3
      clear hip hmap hns htl HKb7 HKc7 HKd7 HKb HKc HKd HQ1 HQ2 HQ3 hlt hk
      generalize nC Bb a b = cc at *
      generalize nC Bb b a = cd at *
      generalize nS Bb a = sa at *
      generalize nS Bb b = sb at *
      generalize Bb.length = nb at *
      generalize Bc.length = nc at *
      generalize ns.length = nn at *
      have z1 : (nc : Int) ≤ (nb : Int) := by omega
      by_cases hab : a = b
      · have qab : (a.toList == b.toList) = true := (beq_list _ _).2 hab
        have qab2 : (a.toList != b.toList) = false := by simp [hab]
        obtain rfl : cc = 0 := HSF.out hab
        clear hab q4 q5 q1 l1 l2
        go_wp2_with fail
        refine HC1.out.mono ?_
        rintro e w8 ⟨rfl, rfl⟩
        go_wp2_with fail
        refine HS1.out.mono ?_
        rintro e w8 ⟨rfl, rfl⟩
        go_wp2_with fail
        refine HS2.out.mono ?_
        rintro e w8 ⟨rfl, rfl⟩
        go_wp2_with fail
        refine HA2.out.mono ?_
        rintro e w8 ⟨rfl, rfl⟩
        go_wp2_with fail
        refine HA1.out.mono ?_
        rintro e w8 ⟨rfl, rfl⟩
        go_wp2_with fail
        refine HA3.out.mono ?_
        rintro e w8 ⟨rfl, rfl⟩
        go_wp2_with fail
        refine HAW.out.mono ?_
        rintro e w9 ⟨rfl, hb9⟩
        have HB9 : Hid (Below w.heap.size w w9) := Lib.hid (HBW.out.trans (hb9.mono HBW.out.size))
        go_wp2_with fail
        go_ret
        exact ⟨rfl, HB9.out⟩
      · have qab : (a.toList == b.toList) = false := Bool.eq_false_iff.2 (fun e => hab ((beq_list _ _).1 e))
        have qab2 : (a.toList != b.toList) = true := by unfold bne; rw [qab]; rfl
        have z2 : (cc : Int) + (cd : Int) ≤ (sa : Int) := by omega
        have z3 : (cc : Int) + (cd : Int) ≤ (sb : Int) := by omega
        have z4 : cc ≤ 100000 := by omega
        have z5 : cd ≤ 100000 := by omega
        clear hab q1 q4 q5 HSF
        go_wp2_with fail
        refine HC1.out.mono ?_
        rintro e w8 ⟨rfl, rfl⟩
        go_wp2_with fail
        refine HC2.out.mono ?_
        rintro e w8 ⟨rfl, rfl⟩
        go_wp2_with fail
        refine HS1.out.mono ?_
        rintro e w8 ⟨rfl, rfl⟩
        go_wp2_with fail
        refine HS2.out.mono ?_
        rintro e w8 ⟨rfl, rfl⟩
        go_wp2_with fail
        refine HA2.out.mono ?_
        rintro e w8 ⟨rfl, rfl⟩
        go_wp2_with fail
        refine HA1.out.mono ?_
        rintro e w8 ⟨rfl, rfl⟩
        go_wp2_with fail
        refine HA3.out.mono ?_
        rintro e w8 ⟨rfl, rfl⟩
        go_wp2_with fail
        refine HAW.out.mono ?_
        rintro e w9 ⟨rfl, hb9⟩
        have HB9 : Hid (Below w.heap.size w w9) := Lib.hid (HBW.out.trans (hb9.mono HBW.out.size))
        go_wp2_with fail
        go_ret
        exact ⟨rfl, HB9.out⟩

end Go.Proofs.YtcgangmmehbdoaaDoor
