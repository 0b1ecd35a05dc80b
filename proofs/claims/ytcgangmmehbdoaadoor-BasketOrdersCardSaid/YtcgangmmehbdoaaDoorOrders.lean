/- BasketOrders: the walk. -/
import Derived.Test.YtcgangmmehbdoaaDoorLawPairs
import Derived.Test.YtcgangmmehbdoaaDoorApart
namespace Go.Proofs.YtcgangmmehbdoaaDoor
open Go.Shelf Go.RowKit Go.Maps
set_option linter.unusedVariables false

/-- A row from its end and from its head, k steps. -/
def mixP (l : List Ev) (n k : Nat) : List Ev := (List.range k).flatMap fun j => (l[n - 1 - j]?).toList ++ (l[j]?).toList
theorem mix_snoc {l : List Ev} {n k : Nat} {x y : Ev} (hx : l[n - 1 - k]? = some x) (hy : l[k]? = some y) : mixP l n (k + 1) = mixP l n k ++ [x, y] := by
  unfold mixP
  rw [List.range_succ, List.flatMap_append]
  simp [hx, hy]
theorem mix_mem {l : List Ev} {n : Nat} (hn : l.length = n) (e : Ev) : e ∈ mixP l n n ↔ e ∈ l := by
  unfold mixP
  rw [List.mem_flatMap]
  constructor
  · rintro ⟨j, _, h⟩
    rcases List.mem_append.1 h with h | h
    · exact List.mem_of_getElem? (by simpa using h)
    · exact List.mem_of_getElem? (by simpa using h)
  · intro h
    obtain ⟨j, hj⟩ := List.mem_iff_getElem?.1 h
    have := (List.getElem?_eq_some_iff.1 hj).1
    exact ⟨j, List.mem_range.2 (by omega), List.mem_append.2 (Or.inr (by simp [hj]))⟩
theorem ppl_mem {l m : List Ev} {D : List ByteArray} (h : ∀ e, e ∈ m ↔ e ∈ l) (hD : IsPpl m D) : IsPpl l D := ⟨hD.1, fun p => by
  rw [hD.2]
  constructor
  · rintro ⟨e, he, h1⟩; exact ⟨e, (h e).1 he, h1⟩
  · rintro ⟨e, he, h1⟩; exact ⟨e, (h e).2 he, h1⟩⟩
theorem BD_mem {g : Int} {l m : List Ev} (h : ∀ e, e ∈ m ↔ e ∈ l) (D : List ByteArray) : BD g m D = BD g l D := by
  unfold BD
  have : BL g m = BL g l := by
    funext p
    exact BL_mem (fun e => by rw [ownB_mem, ownB_mem, h])
  rw [this]
theorem two_ev (w : World) (x y : Ev) (t : TypeId) : RowIn (w.alloc (.cells (evArr x ++ evArr y) t)) (w.heap.size + 1) 8 (some ⟨w.heap.size, 0, none⟩) 2 ([x, y].flatMap evC) := by
  refine ⟨rfl, Or.inr ⟨w.heap.size, 0, rfl, by omega, fun j u hu => ?_⟩⟩
  rw [(Blk.new w t _).cell]
  rw [← hu, Nat.zero_add]
  simp [evC, evArr]

set_option maxHeartbeats 8000000 in
set_option maxRecDepth 100000 in
theorem basketOrders_walk (gap : Int) (A : Option Addr) (n c : Nat) (l : List Ev) (a b : ByteArray) (w : World) (ha : EvArg w A n c l) (has : a.size ≤ 140737488355328) (hbs : b.size ≤ 140737488355328) (hg : GlobAt w) :
    Calls Tryd.prog 7 #[.int .i64 gap, .slice A n c, .string a, .string b] w fun e w' => e = .returned (.bool true) ∧ Below w.heap.size w w' := by
  have HLG := Lib.hid (long_any w A l n c ha)
  obtain ⟨hn, hl, hnb, hnil, hbd⟩ := ha
  have HN := Lib.hid hn
  have HL := Lib.hid hl
  have HG := Lib.hid hg
  obtain ⟨i0, hi0, hz0, hz1, hz2⟩ := info_parts ev_info
  clear hn hl hbd hg
  go_enter Tryd.func7, Tryd.ntmps7
  go_wp2_with fail
  refine HLG.out.mono ?_
  rintro e w1 ⟨bl, rfl, hbl, hb1⟩
  have HB1 := Lib.hid hb1
  have HW1 := Lib.hid (awake_any w1 (HG.out.keep hb1 (Nat.le_refl _)))
  clear HLG hb1
  cases bl
  rotate_left
  · go_wp2_with fail
    refine HW1.out.mono ?_
    rintro e w2 ⟨rfl, hb2⟩
    have HB2 : Hid (Below w.heap.size w w2) := Lib.hid (HB1.out.trans (hb2.mono HB1.out.size))
    go_wp2_with fail
    go_ret
    exact ⟨rfl, HB2.out⟩
  obtain ⟨h30, hsm⟩ := hbl rfl
  have HSM := Lib.hid hsm
  clear hbl hsm
  by_cases ga : (60 : Int) < (a.size : Int)
  · go_wp2_with fail
    refine HW1.out.mono ?_
    rintro e w2 ⟨rfl, hb2⟩
    have HB2 : Hid (Below w.heap.size w w2) := Lib.hid (HB1.out.trans (hb2.mono HB1.out.size))
    go_wp2_with fail
    go_ret
    exact ⟨rfl, HB2.out⟩
  have da : decide ((60 : Int) < (a.size : Int)) = false := decide_eq_false ga
  by_cases gb : (60 : Int) < (b.size : Int)
  · go_wp2_with fail
    refine HW1.out.mono ?_
    rintro e w2 ⟨rfl, hb2⟩
    have HB2 : Hid (Below w.heap.size w w2) := Lib.hid (HB1.out.trans (hb2.mono HB1.out.size))
    go_wp2_with fail
    go_ret
    exact ⟨rfl, HB2.out⟩
  have db : decide ((60 : Int) < (b.size : Int)) = false := decide_eq_false gb
  clear HW1
  go_wp2_with fail
  go_loopw [9, 31] (fun s1 i wr => ∃ k : Nat, k ≤ n ∧ i = .int .i64 k ∧ Hid ((mixP l n k).length = 2 * k) ∧ Hid (wr.ownsRow w1.heap.size 33 8 s1 (2 * k) ((mixP l n k).flatMap evC)) ∧ Hid (Below w1.heap.size w1 wr)) (fun _ i _ => n - (intOf i).toNat)
  case atStart => exact ⟨0, Nat.zero_le _, rfl, Lib.hid rfl, Lib.hid (own_nil _ _ _ _), Lib.hid (Below.refl _ _)⟩
  case round =>
    obtain ⟨k, hk, rfl, hlen, hr1, hbw⟩ := hrel
    obtain ⟨A5, c5, hq1⟩ := own_shape hr1.out
    rw [hq1] at hr1 ⊢
    clear hq1
    have hwz := hbw.out.size
    have HBW : Hid (Below w.heap.size w wr) := Lib.hid (HB1.out.trans (hbw.out.mono HB1.out.size))
    by_cases hlt : k < n
    · obtain ⟨x, hx⟩ : ∃ x, l[n - 1 - k]? = some x := ⟨l[n - 1 - k]'(by rw [HN.out]; omega), List.getElem?_eq_getElem _⟩
      obtain ⟨y, hy⟩ : ∃ y, l[k]? = some y := ⟨l[k]'(by rw [HN.out]; omega), List.getElem?_eq_getElem _⟩
      have HMX : Hid (mixP l n (k + 1) = mixP l n k ++ [x, y]) := Lib.hid (mix_snoc hx hy)
      obtain ⟨r, hr⟩ : ∃ r : Nat, n - 1 - k = r := ⟨_, rfl⟩
      obtain ⟨g, o, rfl, hgB, hcl⟩ := HL.out.at (by rw [HN.out]; omega)
      obtain ⟨e0, e1, e2, e3, e4, e5, e6, e7⟩ : EvAt wr g (o + r * 8) x := (hcl r x (by rw [← hr]; exact hx)).keep (fun j => HBW.out.cell (p := ⟨g, j, none⟩) hgB)
      obtain ⟨d0, d1, d2, d3, d4, d5, d6, d7⟩ : EvAt wr g (o + k * 8) y := (hcl k y hy).keep (fun j => HBW.out.cell (p := ⟨g, j, none⟩) hgB)
      have hk8 : (k : Int) < (n : Int) := by omega
      have hk9 : (0 : Int) ≤ (k : Int) := by omega
      have hr8 : (r : Int) < (n : Int) := by omega
      have hr9 : (0 : Int) ≤ (r : Int) := by omega
      have hwq : IntKind.i64.wrap (IntKind.i64.wrap ((n : Int) - 1) - (k : Int)) = (r : Int) := by
        have t1 : IntKind.i64.wrap ((n : Int) - 1) = (n : Int) - 1 := IntWalk.i64_in _ (by omega)
        have t2 : IntKind.i64.wrap ((n : Int) - 1 - (k : Int)) = (n : Int) - 1 - (k : Int) := IntWalk.i64_in _ (by omega)
        rw [t1, t2]
        omega
      clear hcl hx hy hr
      go_wp2_with fail
      have HXY : Hid (EvAt wr.drew g (o + r * 8) x ∧ EvAt wr.drew g (o + k * 8) y) := Lib.hid ⟨⟨e0, e1, e2, e3, e4, e5, e6, e7⟩, ⟨d0, d1, d2, d3, d4, d5, d6, d7⟩⟩
      clear e0 e1 e2 e3 e4 e5 e6 e7 d0 d1 d2 d3 d4 d5 d6 d7
      refine wp_planN (fun W => EvAt W g (o + r * 8) x ∧ EvAt W g (o + k * 8) y) [(0, 1), (1, 1), (2, 1), (3, 1), (4, 1), (5, 1), (6, 1), (7, 1), (8, 1), (9, 1), (10, 1), (11, 1), (12, 1), (13, 2), (14, 3), (15, 0)] (by kernel_rfl) (by kernel_rfl) HXY.out ?_
      simp only [planNL, List.getElem?_cons_zero, List.getElem?_cons_succ]
      repeat (first | (refine planN_on _ (by rfl) (fun W hW => by (obtain ⟨⟨e0, e1, e2, e3, e4, e5, e6, e7⟩, d0, d1, d2, d3, d4, d5, d6, d7⟩ := hW; go_simp; try with_reducible rfl)) ?_; simp only [Act.put, List.setIfInBounds_toArray, List.set_cons_zero, List.set_cons_succ]) | (refine planN_off (by rfl) ?_; simp only [Act.put, List.setIfInBounds_toArray, List.set_cons_zero, List.set_cons_succ]))
      refine planN_turn ?_
      go_wp2_with fail
      obtain ⟨w4, hw4⟩ : ∃ w4, (wr.alloc (.cells #[.string x.src, .int .i64 x.num, .int .i64 x.tick, .int .i64 x.kind, .string x.person, .string x.item, .int .i64 x.value, .string x.text, .string y.src, .int .i64 y.num, .int .i64 y.tick, .int .i64 y.kind, .string y.person, .string y.item, .int .i64 y.value, .string y.text] 33)).drew = w4 := ⟨_, rfl⟩
      rw [hw4]
      have HR4 : Hid (RowIn w4 (wr.heap.size + 1) 8 (some ⟨wr.heap.size, 0, none⟩) 2 ([x, y].flatMap evC)) := Lib.hid (by rw [← hw4]; exact two_ev wr x y _)
      have HBq4 : Hid (Below wr.heap.size wr w4) := Lib.hid (by rw [← hw4]; exact below_drew ((Below.refl _ _).alloc (Nat.le_refl _) _))
      have HB4 : Hid (Below w1.heap.size w1 w4) := Lib.hid (hbw.out.trans (HBq4.out.mono hwz))
      have HO4 : Hid (w4.ownsRow w1.heap.size 33 8 (.slice A5 (2 * k) c5) (2 * k) ((mixP l n k).flatMap evC)) := Lib.hid (by rw [← hw4]; exact hr1.out.alloc _)
      have hz4 := HB4.out.size
      have hz5 : wr.heap.size + 1 ≤ w4.heap.size := by rw [← hw4]; simp
      have HXY4 : Hid (EvAt w4 g (o + r * 8) x ∧ EvAt w4 g (o + k * 8) y) := Lib.hid ⟨HXY.out.1.keep (fun j => HBq4.out.cell (p := ⟨g, j, none⟩) (by have := HBW.out.size; show g < _; omega)), HXY.out.2.keep (fun j => HBq4.out.cell (p := ⟨g, j, none⟩) (by have := HBW.out.size; show g < _; omega))⟩
      clear hw4 HXY
      refine ⟨HXY4.out, ?_⟩
      refine planN_last ?_
      go_wp2_with (first
        | (at_builtin; refine wpList_append_row _ rfl _ _ 22 rfl w1.heap.size 33 i0 _ 8 96 Tryd.underlying22 hi0 hz0 hz1 hz2 rfl (by omega) (.slice A5 (2 * k) c5) (2 * k) _ rfl HO4.out (wr.heap.size + 1) (some ⟨wr.heap.size, 0, none⟩) 2 2 ([x, y].flatMap evC) rfl HR4.out (fun h => by cases h) (fun u hu => evC_one [x, y] u hu) (by unfold maxLen; omega) (by omega) hz4 ?_; intro v7 w7 ho7 hg7 hv7))
      have HO7 : Hid (w7.ownsRow w1.heap.size 33 8 v7 (2 * (k + 1)) ((mixP l n (k + 1)).flatMap evC)) := Lib.hid (by rw [HMX.out, List.flatMap_append, show 2 * (k + 1) = 2 * k + 2 from by omega]; exact ho7)
      have HB7 : Hid (Below w1.heap.size w1 w7) := Lib.hid (HB4.out.grown hg7 (by omega) (fun j hj => (HO4.out.lt _ hj).1))
      have HL7 : Hid ((mixP l n (k + 1)).length = 2 * (k + 1)) := Lib.hid (by rw [HMX.out, List.length_append, hlen.out]; simp; omega)
      clear ho7 hg7 hv7
      repeat (first | (refine planN_on0 _ (by rfl) (fun W hW => by (go_simp; try with_reducible rfl)) ?_; simp only [Act.put, List.setIfInBounds_toArray, List.set_cons_zero, List.set_cons_succ]) | (refine planN_off (by rfl) ?_; simp only [Act.put, List.setIfInBounds_toArray, List.set_cons_zero, List.set_cons_succ]))
      refine planN_done ?_
      go_wp2_with fail
      go_roundw
      case rel => exact ⟨k + 1, by omega, by go_num, HL7, HO7, HB7⟩
      case measure => simp [intOf]; omega
    · obtain rfl : n = k := by omega
      obtain ⟨mm, hmm⟩ : ∃ mm, mixP l n n = mm := ⟨_, rfl⟩
      rw [hmm] at hlen hr1
      obtain ⟨z, hz⟩ : ∃ z, 2 * n = z := ⟨_, rfl⟩
      rw [hz] at hlen hr1 ⊢
      have hz60 : z ≤ 60 := by omega
      have HMM : Hid (∀ e, e ∈ mm ↔ e ∈ l) := Lib.hid (fun e => by rw [← hmm]; exact mix_mem HN.out e)
      have HE1 : Hid (∀ W, Below wr.heap.size wr W → EvsAt W wr.heap.size A5 mm) := Lib.hid (fun W hW => by have := (RowIn.of_own hr1.out).below hW; unfold EvsAt; rw [hlen.out]; exact this)
      have HIL : Hid ((itemsE l).length ≤ 100) := Lib.hid (by unfold itemsE; rw [List.length_map, HN.out]; omega)
      have HO1 := Lib.hid (of_any gap A l n c wr w.heap.size HN.out (HL.out.below HBW.out) HBW.out.size (by omega) (fun e he => (HSM.out e he).sh) (HG.out.keep HBW.out (Nat.le_refl _)))
      have ham : a.size ≤ maxLen := by unfold maxLen; omega
      have hbm : b.size ≤ maxLen := by unfold maxLen; omega
      clear hmm hz hr1
      go_wp2_with fail
      refine HO1.out.mono ?_
      rintro e w5 ⟨bb, D, rfl, hD, hlD, hk5, hb5⟩
      have HB5 : Hid (Below w.heap.size w w5) := Lib.hid (HBW.out.trans (hb5.mono HBW.out.size))
      have HK5 := Lib.hid hk5
      have HD := Lib.hid hD
      have HO2 := Lib.hid (of_any gap A5 mm z c5 w5 wr.heap.size hlen.out (HE1.out w5 hb5) hb5.size (by omega) (fun e he => (HSM.out e ((HMM.out e).1 he)).sh) (HG.out.keep HB5.out (Nat.le_refl _)))
      clear HO1 hk5 hb5 hD hlD
      go_wp2_with fail
      refine HO2.out.mono ?_
      rintro e w6 ⟨cb, D', rfl, hD2, hlD2, hk6, hb6⟩
      have HB6 : Hid (Below w.heap.size w w6) := Lib.hid (HB5.out.trans (hb6.mono HB5.out.size))
      have HD2 : Hid (IsPpl l D') := Lib.hid (ppl_mem HMM.out hD2)
      obtain ⟨Bs, hBs⟩ : ∃ Bs, BD (clampG gap) l D = Bs := ⟨_, rfl⟩
      obtain ⟨Cs, hCs⟩ : ∃ Cs, BD (clampG gap) mm D' = Cs := ⟨_, rfl⟩
      have hCl : Cs = BD (clampG gap) l D' := by rw [← hCs]; exact BD_mem HMM.out D'
      have HEL : Hid (Cs.length = Bs.length) := Lib.hid (by rw [hCl, ← hBs]; exact BD_len HD2.out HD.out)
      have HES : Hid (∀ x, nS Cs x = nS Bs x) := Lib.hid (fun x => by rw [hCl, ← hBs]; exact BD_S HD2.out HD.out x)
      have HEC : Hid (∀ x y, nC Cs x y = nC Bs x y) := Lib.hid (fun x y => by rw [hCl, ← hBs]; exact BD_C HD2.out HD.out x y)
      have HIT : Hid (∀ x y, nC Bs x y ≠ 0 → x ∈ itemsE l ∧ y ∈ itemsE l) := Lib.hid (fun x y h => by rw [← hBs] at h; exact nC_item HD.out HD2.out h)
      rw [hBs] at HK5
      rw [hCs] at hk6
      have HK5' : Hid (BkAt w6 bb wr.heap.size Bs) := Lib.hid (HK5.out.below hb6)
      have HK6 := Lib.hid hk6
      have HA1 := Lib.hid (all_any w6 bb _ Bs HK5'.out)
      have HA2 := Lib.hid (all_any w6 cb _ Cs HK6.out)
      have HS1 := Lib.hid (single_any w6 bb _ Bs a HK5'.out ham)
      have HS2 := Lib.hid (single_any w6 cb _ Cs a HK6.out ham)
      have HC1 := Lib.hid (count_any w6 bb _ Bs a b HK5'.out ham hbm)
      have HC2 := Lib.hid (count_any w6 cb _ Cs a b HK6.out ham hbm)
      rw [HEL.out] at HA2
      rw [HES.out] at HS2
      rw [HEC.out] at HC2
      have HSZ : Hid (∀ x ∈ itemsE l, x.size ≤ maxLen) := Lib.hid (fun x hx => by
        obtain ⟨e, he, rfl⟩ := List.mem_map.1 hx
        have := (HSM.out e he).sh.2.2.1
        unfold maxLen; omega)
      have HP1 := Lib.hid (pairs_any w6 bb _ Bs 1 100 (itemsE l) HK5'.out HIT.out HSZ.out (by have := HIL.out; omega))
      have HP2 : Hid (∀ W, Below w6.heap.size w6 W → Calls Tryd.prog 18 #[.pointer (some ⟨cb, 0, none⟩), .int .i64 1, .int .i64 100] W fun e w' => ∃ (A : Option Addr) (c k : Nat) (l : List Pr), e = .returned (.slice A k c) ∧ IsPairs (nC Cs) 1 l ∧ (k : Int) = min (max (100 : Int) 0) (l.length : Int) ∧ l.length ≤ 1000000 ∧ RowIn w' w'.heap.size 3 A k ((l.take k).flatMap prC) ∧ Below W.heap.size W w') := Lib.hid (fun W hW => pairs_any W cb _ Cs 1 100 (itemsE l) (HK6.out.below hW) (fun x y h => HIT.out x y (by rw [← HEC.out]; exact h)) HSZ.out (by have := HIL.out; omega))
      have qa : ((Bs.length : Int) != (Bs.length : Int)) = false := by simp
      have qs : ((nS Bs a : Int) != (nS Bs a : Int)) = false := by simp
      have qc : ((nC Bs a b : Int) != (nC Bs a b : Int)) = false := by simp
      clear HO2 hk6 hb6 hD2 hlD2 hBs hCs hCl HK5
      go_wp2_with fail
      refine HA1.out.mono ?_
      rintro e w7 ⟨rfl, rfl⟩
      go_wp2_with fail
      refine HA2.out.mono ?_
      rintro e w7 ⟨rfl, rfl⟩
      go_wp2_with fail
      refine HS1.out.mono ?_
      rintro e w7 ⟨rfl, rfl⟩
      go_wp2_with fail
      refine HS2.out.mono ?_
      rintro e w7 ⟨rfl, rfl⟩
      go_wp2_with fail
      refine HC1.out.mono ?_
      rintro e w7 ⟨rfl, rfl⟩
      go_wp2_with fail
      refine HC2.out.mono ?_
      rintro e w7 ⟨rfl, rfl⟩
      clear HA1 HA2 HS1 HS2 HC1 HC2
      go_wp2_with fail
      refine HP1.out.mono ?_
      rintro e w8 ⟨A8, c8, k8, l8, rfl, hi8, hk8, hl8, hr8, hb8⟩
      have HB8 : Hid (Below w.heap.size w w8) := Lib.hid (HB6.out.trans (hb8.mono HB6.out.size))
      have HR8 := Lib.hid hr8
      have HI8 := Lib.hid hi8
      have HP3 := Lib.hid (HP2.out w8 hb8)
      clear HP1 HP2 hi8 hr8 hb8
      go_wp2_with fail
      refine HP3.out.mono ?_
      rintro e w9 ⟨A9, c9, k9, l9, rfl, hi9, hk9, hl9, hr9, hb9⟩
      obtain rfl : l9 = l8 := (hi9.congr HEC.out).one HI8.out
      obtain rfl : k9 = k8 := by omega
      have HB9 : Hid (Below w.heap.size w w9) := Lib.hid (HB8.out.trans (hb9.mono HB8.out.size))
      have HTW : Hid (PrsTwo w9 A8 A9 k9 l9) := Lib.hid (prs_two ((HR8.out.below hb9).more hb9.size) hr9 (Nat.le_refl _))
      have HLEN : Hid (k9 ≤ l9.length) := Lib.hid (by omega)
      have HB0 : Hid (Below w9.heap.size w9 w9) := Lib.hid (Below.refl _ _)
      have qk : ((k9 : Int) != (k9 : Int)) = false := by simp
      have hk6 : k9 ≤ 1000000 := by omega
      clear HP3 hi9 hk9 hl9 hr9 hb9 hk8 hl8 qa qs qc
      go_wp2_with fail
      go_loopw [100] (fun i wr => ∃ q : Nat, q ≤ k9 ∧ i = .int .i64 q ∧ Hid (Below w9.heap.size w9 wr)) (fun i _ => k9 - (intOf i).toNat)
      case atStart => exact ⟨0, Nat.zero_le _, rfl, HB0⟩
      case round =>
        clear HB0
        obtain ⟨wo, rfl⟩ : ∃ wo : World, wo = wr := ⟨_, rfl⟩
        obtain ⟨q, hq, rfl, hbw2⟩ := hrel
        have hwz2 := hbw2.out.size
        by_cases hlt2 : q < k9
        · obtain ⟨x, hx⟩ : ∃ x, l9[q]? = some x := ⟨l9[q]'(by have := HLEN.out; omega), List.getElem?_eq_getElem _⟩
          obtain ⟨g, o, g2, o2, e1, e2, h3⟩ := HTW.out q x hlt2 hx
          obtain ⟨⟨y0, y1, y2⟩, y3, y4, y5⟩ := h3 _ hbw2.out
          subst e1 e2
          have hk8 : (q : Int) < (k9 : Int) := by omega
          have hk9 : (0 : Int) ≤ (q : Int) := by omega
          clear hx h3
          go_wp2_with fail
          go_quiet (fail)
          have HQ := Lib.hid (below_drewN hbw2.out nq)
          go_wp2_with fail
          go_roundw
          case rel => exact ⟨q + 1, by omega, by go_num, HQ⟩
          case measure => simp [intOf]; omega
        · have HBX := Lib.hid (HB9.out.trans (hbw2.out.mono HB9.out.size))
          have HAW := Lib.hid (awake_any _ (HG.out.keep HBX.out (Nat.le_refl _)))
          go_wp2_with fail
          refine HAW.out.mono ?_
          rintro e w10 ⟨rfl, hb10⟩
          have HB10 : Hid (Below w.heap.size w w10) := Lib.hid (HBX.out.trans (hb10.mono HBX.out.size))
          go_wp2_with fail
          go_ret
          exact ⟨rfl, HB10.out⟩

end Go.Proofs.YtcgangmmehbdoaaDoor
