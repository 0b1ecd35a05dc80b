/- CatalogFinds: the walk. -/
import Derived.Test.YtpnfnmpohacnoaaDoorItB
import Derived.Test.YtpnfnmpohacnoaaDoorCatO
import Derived.Test.YtpnfnmpohacnoaaDoorTexts
import Derived.Test.YtpnfnmpohacnoaaDoorFindsT
namespace Go.Proofs.YtpnfnmpohacnoaaDoor
open Go.Shelf Go.RowKit Go.Maps
set_option linter.unusedVariables false

set_option maxHeartbeats 4000000 in
set_option maxRecDepth 100000 in
theorem catalogFinds_walk (A : Option Addr) (n c : Nat) (l : List Ev) (wd : ByteArray) (t : Int) (w : World) (ha : EvArg w A n c l) (hwd : wd.size ≤ 140737488355328) (hg : GlobAt w) :
    Calls Tryd.prog 5 #[.slice A n c, .string wd, .int .i64 t] w fun e w' => e = .returned (.bool true) ∧ Below w.heap.size w w' := by
  obtain ⟨hn, hl, hnb, hnil, hbd⟩ := ha
  have HW := Lib.hid (awake_any w hg)
  have HN := Lib.hid hn
  have HL := Lib.hid hl
  have HD := Lib.hid hbd
  have HG := Lib.hid hg
  have hgl := hg.1
  clear hn hl hbd hg
  go_enter Tryd.func5, Tryd.ntmps5
  go_wp2_with fail
  refine HW.out.mono ?_
  rintro e w1 ⟨rfl, hb1⟩
  have HL1 : Hid (EvsAt w1 w.heap.size A l) := Lib.hid (HL.out.below hb1)
  have HFW := Lib.hid (few_any w1 w.heap.size A l n c HN.out HL1.out hb1.size hnb HD.out)
  have HB1 := Lib.hid hb1
  clear HW hb1
  go_wp2_with fail
  refine HFW.out.mono ?_
  rintro e w2 ⟨bf, rfl, hbf, q, hw2⟩
  have HB2 : Hid (Below w.heap.size w w2) := Lib.hid (by rw [hw2]; exact below_drewN HB1.out _)
  clear HFW hw2 HB1 HL1
  cases bf
  · go_wp2_with fail
    go_ret
    exact ⟨rfl, HB2.out⟩
  obtain ⟨h61, hfew⟩ := hbf rfl
  have HFEW := Lib.hid hfew
  clear hbf hfew
  by_cases gwd : (300 : Int) < (wd.size : Int)
  · go_wp2_with fail
    go_ret
    exact ⟨rfl, HB2.out⟩
  have HL2 : Hid (EvsAt w2 w.heap.size A l) := Lib.hid (HL.out.below HB2.out)
  have HMD := Lib.hid (made_any w2 w.heap.size A l n c HN.out HL2.out HB2.out.size (by omega) (fun e he => (HFEW.out e he).sh) (HG.out.keep HB2.out (Nat.le_refl _)))
  go_wp2_with fail
  refine HMD.out.mono ?_
  rintro e w3 ⟨hres, hb3⟩
  have HB3 : Hid (Below w.heap.size w w3) := Lib.hid (HB2.out.trans (hb3.mono HB2.out.size))
  clear HMD hb3 HL2 HB2
  rcases hres with ⟨_, rfl⟩ | ⟨hmade, cb, F, rfl, hcat, hF⟩
  · go_wp2_with fail
    go_ret
    exact ⟨rfl, HB3.out⟩
  have HMADE := Lib.hid hmade
  have HC3 := Lib.hid hcat
  have HLE : Hid (l.length ≤ 1000000) := Lib.hid (by rw [HN.out]; omega)
  clear hcat hF hmade
  obtain ⟨i0, hi0, hz0, hz1, hz2⟩ := info_parts str_info
  have hmm := @run_makeMap Tryd.prog
  have HKIN : Hid (∀ e ∈ l, e.kind = 11 ∨ e.kind = 12 ∨ e.kind = 13) := Lib.hid (fun e he => kind_of (HC3.out.may e he))
  have HRN := Lib.hid (refnames_any w3 w.heap.size A l n c 4611686018427387904 HN.out (HL.out.below HB3.out) HB3.out.size (by omega) HC3.out.sh HKIN.out)
  go_wp2_with fail
  refine HRN.out.mono ?_
  rintro e w4 ⟨A4, c4, ks, rfl, hks, hkl, hown4, hb4⟩
  have HB4 : Hid (Below w.heap.size w w4) := Lib.hid (HB3.out.trans (hb4.mono HB3.out.size))
  have HB34 := Lib.hid hb4
  have HKZ : Hid (∀ y ∈ ks, y.size ≤ 1000000) := Lib.hid (fun y hy => by
    obtain ⟨e, he, rfl⟩ := rl_in ((hks.2 y).1 hy)
    exact (HC3.out.sh e he).2.2.1)
  have HO4 := Lib.hid hown4
  clear HRN hks hown4 hb4
  generalize hkn : ks.length = m4 at *
  have HKN := Lib.hid hkn
  clear hkn
  go_wp2_with fail
  go_loopw [11, 12] (fun s i wr => ∃ (k m c5 : Nat) (A5 : Option Addr) (al : List ByteArray), k ≤ n ∧ i = .int .i64 k ∧ s = .slice A5 m c5 ∧ Hid (al.length = m) ∧ m ≤ n + k ∧ Hid (∀ y ∈ al, y.size ≤ 1000000) ∧ Hid (wr.ownsRow w3.heap.size 9 1 (.slice A5 m c5) m (al.map .string)) ∧ Hid (Below w3.heap.size w3 wr)) (fun _ i _ => n - (intOf i).toNat)
  case atStart => exact ⟨0, m4, c4, A4, ks, Nat.zero_le _, rfl, rfl, HKN, by omega, HKZ, HO4, HB34⟩
  case round =>
    obtain ⟨k, m, c5, A5, al, hk, rfl, rfl, hm, hmk, hz, hrow, hbw⟩ := hrel
    have hwz := hbw.out.size
    by_cases hlt : k < n
    · obtain ⟨x, hx⟩ : ∃ x, l[k]? = some x := ⟨l[k]'(by rw [HN.out]; exact hlt), List.getElem?_eq_getElem _⟩
      obtain ⟨g, o, rfl, hgB, hcl⟩ := HL.out.at (by rw [HN.out]; omega)
      have HBW : Hid (Below w.heap.size w wr) := Lib.hid (HB3.out.trans (hbw.out.mono HB3.out.size))
      have f5 : wr.cell? ⟨g, o + k * 8 + 5, none⟩ = some (.string x.item) := (HBW.out.cell (p := ⟨g, o + k * 8 + 5, none⟩) hgB).trans (hcl k x hx).2.2.2.2.2.1
      have HXZ : Hid (x.item.size ≤ 1000000) := Lib.hid (HC3.out.sh x (List.mem_of_getElem? hx)).2.2.1
      have hk8 : (k : Int) < (n : Int) := by omega
      have hk9 : (0 : Int) ≤ (k : Int) := by omega
      clear hcl hx
      go_wp2_with (first
        | (at_builtin; refine wpList_append_row _ rfl _ _ 38 rfl w3.heap.size 9 i0 _ 1 16 Tryd.underlying38 hi0 hz0 hz1 hz2 rfl (by omega) (.slice A5 m c5) m _ rfl (hrow.out.alloc _) (wr.heap.size + 1) (some ⟨wr.heap.size, 0, none⟩) 1 1 [.string x.item] rfl (one_str wr x.item _) (fun h => by cases h) (fun u hu => by simp at hu; subst hu; rfl) (by unfold maxLen; omega) (by omega) (by simp; omega) ?_; intro v7 w7 ho7 hg7 hv7))
      obtain ⟨A7, c7, hr7⟩ := own_shape ho7
      subst hr7
      go_roundw
      case rel =>
        refine ⟨k + 1, m + 1, c7, A7, al ++ [x.item], by omega, by go_num, rfl, Lib.hid (by rw [List.length_append, hm.out]; rfl), by omega, Lib.hid (fun y hy => ?_), Lib.hid ?_, Lib.hid ((hbw.out.alloc hwz _).grown hg7 (by simp; omega) (fun j hj => (hrow.out.lt _ hj).1))⟩
        · rcases List.mem_append.1 hy with hy | hy
          · exact hz.out y hy
          · obtain rfl : y = x.item := by simpa using hy
            exact HXZ.out
        · rw [List.map_append]; exact ho7
      case measure => simp [intOf]; omega
    · obtain ⟨w5, rfl⟩ : ∃ w5 : World, w5 = wr := ⟨_, rfl⟩
      obtain ⟨w6, hw6⟩ : ∃ w6, w5.alloc (.map #[] 0) = w6 := ⟨_, rfl⟩
      have hB36 : Below w3.heap.size w3 w6 := by rw [← hw6]; exact hbw.out.alloc hwz _
      have HM6 : Hid (MapIs Tryd.prog 9 okBool w6 w5.heap.size 0 (mapG (setG []))) := Lib.hid (by rw [← hw6]; exact (MapIs.made _ _ _ _).congr (fun kl => by cases kl <;> rfl))
      have HO6 : Hid (w6.ownsRow w3.heap.size 9 1 (.slice A5 m c5) m (al.map .string)) := Lib.hid (by rw [← hw6]; exact hrow.out.alloc _)
      have HOL : Hid (∀ g, (Value.slice A5 m c5).ownBlock = some g → g < w5.heap.size) := Lib.hid (fun g hg => (hrow.out.lt _ hg).2)
      have HZ6 : Hid (w6.heap.size = w5.heap.size + 1) := Lib.hid (by rw [← hw6]; simp)
      have HC6 : Hid (CatAt w6 cb F l) := Lib.hid (HC3.out.below hB36)
      have HB6 : Hid (Below w.heap.size w w6) := Lib.hid (HB3.out.trans (hB36.mono HB3.out.size))
      have HFL : Hid (∀ q, F q → q < w5.heap.size) := Lib.hid (fun q hq => Nat.lt_of_lt_of_le (HC3.out.lt q hq) hwz)
      have HNA := Lib.hid (names_any cb F l t w6 HC6.out HLE.out)
      have HMAY := Lib.hid HC3.out.may
      have HCSH := Lib.hid HC3.out.sh
      have hw35 : w3.heap.size ≤ w5.heap.size := hwz
      clear hB36 hrow hbw HO4 HB34 HKZ HC3
      go_wp2_with fail
      refine HNA.out.mono ?_
      rintro e w7 ⟨A14, c14, ns, rfl, hns, hnl, hr14, hb7⟩
      have HB7 : Hid (Below w.heap.size w w7) := Lib.hid (HB6.out.trans (hb7.mono HB6.out.size))
      have HC7 : Hid (CatAt w7 cb F l) := Lib.hid (HC6.out.below hb7)
      have HM7 : Hid (MapIs Tryd.prog 9 okBool w7 w5.heap.size 0 (mapG (setG []))) := Lib.hid (HM6.out.kept (below_kept (S := fun _ => False) hb7 (Nat.le_refl _)) (fun h => h))
      have HO7 : Hid (w7.ownsRow w3.heap.size 9 1 (.slice A5 m c5) m (al.map .string)) := Lib.hid (owns_kept HO6.out (below_kept (S := fun _ => False) hb7 (Nat.le_refl _)) (fun _ _ h => h))
      have HZ7 : Hid (w5.heap.size + 1 ≤ w7.heap.size) := Lib.hid (by rw [← HZ6.out]; exact hb7.size)
      have HNS := Lib.hid hns
      have HND := Lib.hid hns.nodup
      have HR14 := Lib.hid hr14
      have hN61 : ns.length ≤ 61 := by rw [HN.out] at hnl; omega
      obtain ⟨N, hN⟩ : ∃ N, ns.length = N := ⟨_, rfl⟩
      rw [hN] at hN61 hr14 ⊢
      have HNN := Lib.hid hN
      -- where the names lie
      have HAT : Hid (∀ (i : Nat), i < N → ∃ g o nm, A14 = some ⟨g, o, none⟩ ∧ g < w7.heap.size ∧ g ≠ w5.heap.size ∧ ns[i]? = some nm ∧ w7.cell? ⟨g, o + i, none⟩ = some (.string nm)) := Lib.hid (fun i hi => by
        obtain ⟨g, o, h1, h2, h3⟩ := hr14.at (by omega)
        have h4 := h3 i (.string (ns[i]'(by rw [HNN.out]; exact hi))) (by simp [HNN.out, hi])
        refine ⟨g, o, ns[i]'(by rw [HNN.out]; exact hi), h1, h2, ?_, List.getElem?_eq_getElem _, h4⟩
        rintro rfl
        obtain ⟨D, ⟨es, clock, hb, _⟩, _⟩ := HM7.out
        simp [World.cell?, hb] at h4)
      clear hns hr14 hN HNA HM6 HO6 HC6 HB6 hb7 hw6 HR14
      generalize hmb : w5.heap.size = mb at *
      go_wp2_with fail
      have HBASE : Hid (mb < w7.heap.size) := Lib.hid (by have := HZ7.out; omega)
      have HW0 : Hid (w.heap.size ≤ mb) := Lib.hid (Nat.le_trans HB3.out.size hw35)
      have HALL : Hid (∀ (i : Nat), i < m → ∃ g o y, A5 = some ⟨g, o, none⟩ ∧ g < mb ∧ al[i]? = some y ∧ w7.cell? ⟨g, o + i, none⟩ = some (.string y)) := Lib.hid (fun i hi => by
        obtain ⟨g, o, h1, h2, h3⟩ := (RowIn.of_own HO7.out).at (by omega)
        have h4 := h3 i (.string (al[i]'(by rw [hm.out]; exact hi))) (by simp [hm.out, hi])
        exact ⟨g, o, al[i]'(by rw [hm.out]; exact hi), h1, HOL.out g (by rw [h1]; rfl), List.getElem?_eq_getElem _, h4⟩)
      have HAZ := hz
      have hmn : m ≤ n + n := by omega
      have HT0 : Hid (Tri w7 w7 mb (ns.take 0) (.slice none 0 0) (.slice none 0 0) (.slice none 0 0) 0 0 0 (ns.take 0) (mkF l t wd (ns.take 0)) (tgF l t wd (ns.take 0))) := Lib.hid ⟨own_nil _ _ _ _, own_nil _ _ _ _, own_nil _ _ _ _, fun g h => (by cases h), fun g h => (by cases h), fun g h => (by cases h), HM7.out, Kept.refl _ _, HBASE.out⟩
      have HBG : Hid (∀ wx, Kept (fun q => q = mb) w7 wx → Below w.heap.size w wx) := Lib.hid (fun wx hk => HB7.out.trans (hk.toBelow (fun i hi => by rw [hi]; exact HW0.out) HB7.out.size))
      have HCG : Hid (∀ wx, Kept (fun q => q = mb) w7 wx → CatAt wx cb F l) := Lib.hid (fun wx hk => HC7.out.kept hk (fun q hq e => by have := HFL.out q hq; omega))
      have HNL : Hid (∀ y ∈ ns, y.size ≤ 1000000) := Lib.hid (fun y hy => by
        obtain ⟨e, he, rfl⟩ := row_ne (es := l) (n := y) (fun e => by
          have h1 := (HNS.out.2 y).1 hy
          unfold whB atP at h1; rw [e] at h1; cases h1)
        exact (HCSH.out e he).2.2.1)
      clear HM7 HO7 HC7 HB7 hz HOL HFL hw35
      go_loopw [8, 9, 10, 15] (fun v8 v9 v10 i wr => ∃ (k c8 m9 c9 m10 c10 : Nat) (A8 A9 A10 : Option Addr), k ≤ N ∧ i = .int .i64 k ∧ v8 = .slice A8 k c8 ∧ v9 = .slice A9 m9 c9 ∧ v10 = .slice A10 m10 c10 ∧ m9 ≤ k ∧ m10 ≤ k ∧ Hid (Tri w7 wr mb (ns.take k) (.slice A8 k c8) (.slice A9 m9 c9) (.slice A10 m10 c10) k m9 m10 (ns.take k) (mkF l t wd (ns.take k)) (tgF l t wd (ns.take k)))) (fun _ _ _ i _ => N - (intOf i).toNat)
      case atStart => exact ⟨0, 0, 0, 0, 0, 0, none, none, none, Nat.zero_le _, rfl, rfl, rfl, rfl, Nat.le_refl _, Nat.le_refl _, HT0⟩
      case round =>
        obtain ⟨k, c8, m9, c9, m10, c10, A8, A9, A10, hk, rfl, rfl, rfl, rfl, hm9, hm10, htr⟩ := hrel
        have hwz7 := htr.out.keep.size
        have hmbw : mb < w7.heap.size := HBASE.out
        by_cases hlt : k < N
        · obtain ⟨g, o, nm, hA, hgl, hgm, hnm, e0⟩ := HAT.out k hlt
          have HTK := Lib.hid (take_snoc hnm)
          obtain ⟨x, hx⟩ : ∃ x, atP l nm t = some x := by
            have h1 := (HNS.out.2 nm).1 (List.mem_of_getElem? hnm)
            unfold whB at h1
            cases ha : atP l nm t with
            | none => rw [ha] at h1; cases h1
            | some x => exact ⟨x, rfl⟩
          have hlis : x.listed = true := by
            have h1 := (HNS.out.2 nm).1 (List.mem_of_getElem? hnm)
            unfold whB at h1
            rw [hx] at h1
            simpa using h1
          have hnam : x.name = nm := at_name hx
          have hxt : x.tags.size ≤ 1000000 := at_tags HCSH.out hx
          have HTR := Lib.hid (at_rise HMAY.out hx)
          have hns : nm.size ≤ 1000000 := HNL.out nm (List.mem_of_getElem? hnm)
          have HNOT : Hid (memB nm (ns.take k) = false) := Lib.hid (once_tag HNS.out.1 hnm)
          have HA := Lib.hid (at_any cb F l nm t wr (HCG.out _ htr.out.keep) hns HLE.out)
          rw [hx] at HA
          unfold toldP itA at HA
          dsimp only [Option.getD_some, Option.isSome_some] at HA
          rw [hlis, hnam] at HA
          have HXP : Hid ((atP l nm t).getD it0 = x) := Lib.hid (by rw [hx]; rfl)
          have HLK : Hid ((ns.take k).length = k) := Lib.hid (by rw [List.length_take, HNN.out]; omega)
          have HFC : Hid (∀ wx, Kept (fun q => q = mb) w7 wx → wx.cell? ⟨g, o + k, none⟩ = some (.string nm)) := Lib.hid (fun wx hk => (hk.cell (p := ⟨g, o + k, none⟩) hgl hgm).trans e0)
          have f0 : wr.cell? ⟨g, o + k, none⟩ = some (.string nm) := HFC.out _ htr.out.keep
          have hk8 : (k : Int) < (N : Int) := by omega
          have hk9 : (0 : Int) ≤ (k : Int) := by omega
          subst hA
          clear hnm e0 hx hlis hnam
          go_wp2_with fail
          refine HA.out.mono ?_
          rintro e w8 ⟨rfl, hb8⟩
          clear HA
          obtain ⟨w9, hw9⟩ : ∃ w9, w8.alloc (.cells #[.string nm, .string x.maker, .string x.tags, .int .i64 x.stock, .int .i64 x.price, .int .i64 x.born, .bool true] 30) = w9 := ⟨_, rfl⟩
          have hb9 : Below wr.heap.size wr w9 := by rw [← hw9]; exact hb8.alloc hb8.size _
          have HI9 : Hid (Off w9 w8.heap.size #[.string nm, .string x.maker, .string x.tags, .int .i64 x.stock, .int .i64 x.price, .int .i64 x.born, .bool true] 30 (.slice A8 k c8) (.slice A9 m9 c9) (.slice A10 m10 c10)) := Lib.hid (by rw [← hw9]; exact Off.new htr.out hb8 _ _)
          have HT9 : Hid (Tri w7 w9 mb (ns.take k) (.slice A8 k c8) (.slice A9 m9 c9) (.slice A10 m10 c10) k m9 m10 (ns.take k) (mkF l t wd (ns.take k)) (tgF l t wd (ns.take k))) := Lib.hid (htr.out.below hb9)
          have hlk := fun q => (HT9.out.map.drewN q).look (string_keyed Tryd.underlying9) Tryd.underlying43 (zeroBool (w9.drewN q)) rfl (WideMaps.keyOf_string_mk Tryd.underlying9 (s := nm) (by unfold maxLen; omega))
          simp only [mapG_at, setG_get, HNOT.out] at hlk
          have f9 : w9.cell? ⟨g, o + k, none⟩ = some (.string nm) := HFC.out _ HT9.out.keep
          have j0 : w9.cell? ⟨w8.heap.size, 0, none⟩ = some (.string nm) := HI9.out.blk.cell 0
          have j6 : w9.cell? ⟨w8.heap.size, 6, none⟩ = some (.bool true) := HI9.out.blk.cell 6
          have q1 : (nm.toList == nm.toList) = true := (beq_list nm nm).2 rfl
          have q2 : (nm.toList != nm.toList) = false := by unfold bne; rw [q1]; rfl
          clear hb8 hb9 f0 htr
          go_wp2_with fail
          go_quiet (fail)
          clear hlk j0 j6
          obtain ⟨wa, hwa⟩ : ∃ wa, w9.drewN nq = wa := ⟨_, rfl⟩
          rw [hwa]
          have HTA : Hid (Tri w7 wa mb (ns.take k) (.slice A8 k c8) (.slice A9 m9 c9) (.slice A10 m10 c10) k m9 m10 (ns.take k) (mkF l t wd (ns.take k)) (tgF l t wd (ns.take k))) := Lib.hid (by rw [← hwa]; exact HT9.out.kept ((Kept.refl _ _).drewN _))
          obtain ⟨w11, hst, hm11, hg11, hz11⟩ := HTA.out.map.store (string_keyed Tryd.underlying9) Tryd.underlying43 (by rw [HLK.out]; unfold maxLen; omega) (WideMaps.keyOf_string_mk Tryd.underlying9 (s := nm) (by unfold maxLen; omega)) (val := .bool true) rfl
          have HT11 : Hid (Tri w7 w11 mb (ns.take (k + 1)) (.slice A8 k c8) (.slice A9 m9 c9) (.slice A10 m10 c10) k m9 m10 (ns.take k) (mkF l t wd (ns.take k)) (tgF l t wd (ns.take k))) := Lib.hid (by
            rw [HTK.out]
            exact HTA.out.set hm11 hg11)
          have HI11 : Hid (Off w11 w8.heap.size #[.string nm, .string x.maker, .string x.tags, .int .i64 x.stock, .int .i64 x.price, .int .i64 x.born, .bool true] 30 (.slice A8 k c8) (.slice A9 m9 c9) (.slice A10 m10 c10)) := Lib.hid (by
            have h1 : Off wa w8.heap.size #[.string nm, .string x.maker, .string x.tags, .int .i64 x.stock, .int .i64 x.price, .int .i64 x.born, .bool true] 30 (.slice A8 k c8) (.slice A9 m9 c9) (.slice A10 m10 c10) := by rw [← hwa]; exact HI9.out.kept ((Kept.refl (fun _ => False) _).drewN _) (fun h => h)
            exact h1.kept (Kept.grown (S := fun q => q = mb) (Kept.refl _ _) hg11 (fun j hj => Or.inl (Option.some.inj hj).symm)) (fun e => HTA.out.map.ne_blk h1.blk e.symm))
          have fa : wa.cell? ⟨g, o + k, none⟩ = some (.string nm) := HFC.out _ HTA.out.keep
          have fb : w11.cell? ⟨g, o + k, none⟩ = some (.string nm) := HFC.out _ HT11.out.keep
          have hw11 : w7.heap.size ≤ w11.heap.size := HT11.out.keep.size
          have hgl11 : g < w11.heap.size := by omega
          have hil := HI11.out.blk.lt
          clear hm11 hg11 hz11 HT9 HTA HI9 hwa f9 hw9
          go_upto_region 24 with (first
            | (at_builtin; refine wpList_append_row _ rfl _ _ 38 rfl w7.heap.size 9 i0 _ 1 16 Tryd.underlying38 hi0 hz0 hz1 hz2 rfl (by omega) (.slice A8 k c8) k _ rfl (HT11.out.ra.alloc _) (w11.heap.size + 1) (some ⟨w11.heap.size, 0, none⟩) 1 1 [.string nm] rfl (one_str w11 nm _) (fun h => by cases h) (fun u hu => by simp at hu; subst hu; rfl) (by unfold maxLen; omega) (by omega) (by simp; omega) ?_; intro v12 w12 ho12 hg12 hv12))
          obtain ⟨A12, c12, hr12⟩ := own_shape ho12
          subst hr12
          have HT12 : Hid (Tri w7 w12 mb (ns.take (k + 1)) (.slice A12 (k + 1) c12) (.slice A9 m9 c9) (.slice A10 m10 c10) (k + 1) m9 m10 (ns.take (k + 1)) (mkF l t wd (ns.take k)) (tgF l t wd (ns.take k))) := Lib.hid (by
            have := HT11.out.step ho12 hg12 hv12
            rw [← HTK.out] at this
            exact this)
          have HI12 : Hid (Off w12 w8.heap.size #[.string nm, .string x.maker, .string x.tags, .int .i64 x.stock, .int .i64 x.price, .int .i64 x.born, .bool true] 30 (.slice A12 (k + 1) c12) (.slice A9 m9 c9) (.slice A10 m10 c10)) := Lib.hid (HI11.out.step hg12 hv12)
          have j1 : w12.cell? ⟨w8.heap.size, 1, none⟩ = some (.string x.maker) := HI12.out.blk.cell 1
          have fc : w12.cell? ⟨g, o + k, none⟩ = some (.string nm) := HFC.out _ HT12.out.keep
          have hw12 : w7.heap.size ≤ w12.heap.size := HT12.out.keep.size
          clear ho12 hg12 hv12 HT11 HI11 hst fa fb hgl11 hil
          obtain ⟨bm, hbm⟩ : ∃ b, (x.maker.toList == wd.toList) = b := ⟨_, rfl⟩
          have HBM : Hid (bm = true ↔ x.maker = wd) := Lib.hid (by rw [← hbm]; exact beq_list _ _)
          go_upto_if 112 with fail
          clear hbm
          go_cut [9] (fun v9 wx => ∃ (m9' c9' : Nat) (A9' : Option Addr), v9 = .slice A9' m9' c9' ∧ m9' ≤ k + 1 ∧ Hid (Tri w7 wx mb (ns.take (k + 1)) (.slice A12 (k + 1) c12) (.slice A9' m9' c9') (.slice A10 m10 c10) (k + 1) m9' m10 (ns.take (k + 1)) (mkF l t wd (ns.take (k + 1))) (tgF l t wd (ns.take k))) ∧ Hid (Off wx w8.heap.size #[.string nm, .string x.maker, .string x.tags, .int .i64 x.stock, .int .i64 x.price, .int .i64 x.born, .bool true] 30 (.slice A12 (k + 1) c12) (.slice A9' m9' c9') (.slice A10 m10 c10)))
          case first =>
            cases bm
            · have gm : ¬ x.maker = wd := fun h => by have := HBM.out.2 h; cases this
              have HGM := Lib.hid gm
              clear gm HBM
              go_wp2_with fail
              go_meet
              refine ⟨m9, c9, A9, rfl, by omega, Lib.hid ?_, HI12⟩
              have := HT12.out
              rw [HTK.out, mkF_no _ HXP.out HGM.out, ← HTK.out]
              exact this
            · have HGM := Lib.hid (HBM.out.1 rfl)
              clear HBM
              go_wp2_with (first
                | (at_builtin; refine wpList_append_row _ rfl _ _ 38 rfl w7.heap.size 9 i0 _ 1 16 Tryd.underlying38 hi0 hz0 hz1 hz2 rfl (by omega) (.slice A9 m9 c9) m9 _ rfl (HT12.out.rb.alloc _) (w12.heap.size + 1) (some ⟨w12.heap.size, 0, none⟩) 1 1 [.string nm] rfl (one_str w12 nm _) (fun h => by cases h) (fun u hu => by simp at hu; subst hu; rfl) (by unfold maxLen; omega) (by omega) (by simp; omega) ?_; intro v13 w13 ho13 hg13 hv13))
              obtain ⟨A13, c13, hr13⟩ := own_shape ho13
              subst hr13
              go_meet
              refine ⟨m9 + 1, c13, A13, rfl, by omega, Lib.hid ?_, Lib.hid (HI12.out.rot.step hg13 hv13).rot.rot⟩
              have := (HT12.out.rot.step ho13 hg13 hv13).rot.rot
              rw [HTK.out, mkF_yes _ HXP.out HGM.out, ← HTK.out]
              exact this
          case rest =>
            obtain ⟨m9', c9', A9', rfl, hm9', HTX, HIX⟩ := hcut
            obtain ⟨w14, rfl⟩ : ∃ w14 : World, w14 = wc := ⟨_, rfl⟩
            have j2 : w14.cell? ⟨w8.heap.size, 2, none⟩ = some (.string x.tags) := HIX.out.blk.cell 2
            have HG14 : Hid (GlobAt w14) := Lib.hid (HG.out.keep (HBG.out _ HTX.out.keep) (Nat.le_refl _))
            have HTT := Lib.hid (evtags_new (⟨#[59]⟩ ++ x.tags) w14 (by rw [semi_size]; omega) HG14.out)
            have hadd : ∀ (u : World), (Op.stringOp .add ⟨#[59]⟩ x.tags).run Tryd.prog u = .ok (.string (⟨#[59]⟩ ++ x.tags)) u := fun u => run_string_add_sum _ _ _ (by show 1 + x.tags.size ≤ 9223372036854775807; omega)
            clear HT12 HI12 HIX j1 fc hm9 HBM
            go_wp2_with fail
            refine HTT.out.mono ?_
            rintro e w15 ⟨A18, c18, rfl, hnr, hb15⟩
            have HT15 : Hid (Tri w7 w15 mb (ns.take (k + 1)) (.slice A12 (k + 1) c12) (.slice A9' m9' c9') (.slice A10 m10 c10) (k + 1) m9' m10 (ns.take (k + 1)) (mkF l t wd (ns.take (k + 1))) (tgF l t wd (ns.take k))) := Lib.hid (HTX.out.below hb15)
            obtain ⟨tg, htg⟩ : ∃ tg, evTags (⟨#[59]⟩ ++ x.tags) = tg := ⟨_, rfl⟩
            have HTG : Hid (tagsOf x.tags = tg) := Lib.hid htg
            have htf := tags_few x.tags
            rw [HTG.out] at htf HTR
            rw [htg] at hnr ⊢
            obtain ⟨T, hT⟩ : ∃ T, tg.length = T := ⟨_, rfl⟩
            rw [hT] at htf ⊢
            have HTL := Lib.hid hT
            have HTB : Hid (0 < T → A18 = some ⟨w14.heap.size, 0, none⟩ ∧ Off w15 w14.heap.size (tg.map Value.string).toArray 9 (.slice A12 (k + 1) c12) (.slice A9' m9' c9') (.slice A10 m10 c10)) := Lib.hid (fun h0 => by
              rcases hnr with ⟨_, h⟩ | ⟨h1, h2⟩
              · rw [h] at hT; simp at hT; omega
              · exact ⟨h1, h2, fun e => by have := (HTX.out.ra.lt _ e).2; omega, fun e => by have := (HTX.out.rb.lt _ e).2; omega, fun e => by have := (HTX.out.rc.lt _ e).2; omega⟩)
            have HTGL := Lib.hid (tgF_len l t wd ns k)
            clear hnr htg hT hb15 HTX HTT j2 hadd hw12
            go_wp2_with fail
            go_loopw [10, 19] (fun v10 i wr => ∃ (j m10 c10 : Nat) (A10 : Option Addr), j ≤ T ∧ i = .int .i64 j ∧ v10 = .slice A10 m10 c10 ∧ m10 ≤ k + 1 ∧ Hid (Tri w7 wr mb (ns.take (k + 1)) (.slice A12 (k + 1) c12) (.slice A9' m9' c9') (.slice A10 m10 c10) (k + 1) m9' m10 (ns.take (k + 1)) (mkF l t wd (ns.take (k + 1))) (tgF l t wd (ns.take k) ++ more (memB wd (tg.take j)) nm)) ∧ Hid (0 < T → Off wr w14.heap.size (tg.map Value.string).toArray 9 (.slice A12 (k + 1) c12) (.slice A9' m9' c9') (.slice A10 m10 c10))) (fun _ i _ => T - (intOf i).toNat)
            case atStart => exact ⟨0, m10, c10, A10, Nat.zero_le _, rfl, rfl, by omega, Lib.hid (by have h := HT15.out; simpa [more, memB] using h), Lib.hid (fun h0 => (HTB.out h0).2)⟩
            case round =>
              obtain ⟨j, m10', c10', A10', hj, rfl, rfl, hm10', htl, hof⟩ := hrel
              by_cases hlj : j < T
              · obtain ⟨y, hy⟩ : ∃ y, tg[j]? = some y := ⟨tg[j]'(by rw [HTL.out]; exact hlj), List.getElem?_eq_getElem _⟩
                have hA18 := (HTB.out (by omega)).1
                subst hA18
                have t0 : wr.cell? ⟨w14.heap.size, 0 + j, none⟩ = some (.string y) := by
                  rw [Nat.zero_add, (hof.out (by omega)).blk.cell]
                  simp [hy]
                have t0' : wr.cell? ⟨w14.heap.size, j, none⟩ = some (.string y) := by rw [Nat.zero_add] at t0; exact t0
                have ff : wr.cell? ⟨g, o + k, none⟩ = some (.string nm) := HFC.out _ htl.out.keep
                have hwr7 : w7.heap.size ≤ wr.heap.size := htl.out.keep.size
                have HSN := Lib.hid (take_snoc hy)
                have hj8 : (j : Int) < (T : Int) := by omega
                have hj9 : (0 : Int) ≤ (j : Int) := by omega
                by_cases gy : y = wd
                · subst gy
                  have q4 : (y.toList == y.toList) = true := (beq_list _ _).2 rfl
                  have HNO : Hid (memB y (tg.take j) = false) := Lib.hid (once_tag HTR.out hy)
                  have hm10k : m10' ≤ k := by
                    have h1 := htl.out.rc.1
                    rw [HNO.out] at h1
                    simp [more] at h1
                    have := HTGL.out
                    omega
                  clear hy
                  go_wp2_with (first
                    | (at_builtin; refine wpList_append_row _ rfl _ _ 38 rfl w7.heap.size 9 i0 _ 1 16 Tryd.underlying38 hi0 hz0 hz1 hz2 rfl (by omega) (.slice A10' m10' c10') m10' _ rfl (htl.out.rc.alloc _) (wr.heap.size + 1) (some ⟨wr.heap.size, 0, none⟩) 1 1 [.string nm] rfl (one_str wr nm _) (fun h => by cases h) (fun u hu => by simp at hu; subst hu; rfl) (by unfold maxLen; omega) (by omega) (by simp; omega) ?_; intro v17 w17 ho17 hg17 hv17))
                  obtain ⟨A17, c17, hr17⟩ := own_shape ho17
                  subst hr17
                  go_roundw
                  case rel =>
                    refine ⟨j + 1, m10' + 1, c17, A17, by omega, by go_num, rfl, by omega, Lib.hid ?_, Lib.hid (fun h0 => ((hof.out h0).rot.rot.step hg17 hv17).rot)⟩
                    have h1 := (htl.out.rot.rot.step ho17 hg17 hv17).rot
                    rw [HSN.out, memB_snoc, HNO.out]
                    rw [HNO.out] at h1
                    simpa [more] using h1
                  case measure => simp [intOf]; omega
                · have q4 : (y.toList == wd.toList) = false := by rw [Bool.eq_false_iff]; exact fun h => gy ((beq_list _ _).1 h)
                  have HNE : Hid (decide (y = wd) = false) := Lib.hid (decide_eq_false gy)
                  clear hy gy
                  go_wp2_with fail
                  go_roundw
                  case rel =>
                    refine ⟨j + 1, m10', c10', A10', by omega, by go_num, rfl, by omega, Lib.hid ?_, hof⟩
                    rw [HSN.out, memB_snoc, HNE.out, Bool.or_false]
                    exact htl.out
                  case measure => simp [intOf]; omega
              · have hjT : j = T := by omega
                subst hjT
                go_wp2_with fail
                go_roundw
                case rel =>
                  refine ⟨k + 1, c12, m9', c9', m10', c10', A12, A9', A10', by omega, by go_num, rfl, rfl, rfl, by omega, by omega, Lib.hid ?_⟩
                  have h1 := htl.out
                  rw [← HTL.out, List.take_length, ← HTG.out, ← tgF_snoc _ HXP.out, ← HTK.out] at h1
                  exact h1
                case measure => simp [intOf]; omega
        · obtain rfl : k = N := by omega
          have HTN : Hid (Tri w7 wr mb ns (.slice A8 k c8) (.slice A9 m9 c9) (.slice A10 m10 c10) k m9 m10 ns (mkF l t wd ns) (tgF l t wd ns)) := Lib.hid (by
            have h := htr.out
            rw [← HNN.out, List.take_length] at h
            rw [← HNN.out]
            exact h)
          clear htr
          go_wp2_with fail
          go_loopw [20] (fun i wr => ∃ (j : Nat), j ≤ m ∧ i = .int .i64 j ∧ Hid (Tri w7 wr mb ns (.slice A8 k c8) (.slice A9 m9 c9) (.slice A10 m10 c10) k m9 m10 ns (mkF l t wd ns) (tgF l t wd ns))) (fun i _ => m - (intOf i).toNat)
          case atStart => exact ⟨0, Nat.zero_le _, rfl, HTN⟩
          case round =>
            obtain ⟨j, hj, rfl, htn⟩ := hrel
            by_cases hlj : j < m
            · obtain ⟨g, o, y, hA, hgl, hy, e0⟩ := HALL.out j hlj
              have hyz : y.size ≤ 1000000 := HAZ.out y (List.mem_of_getElem? hy)
              have HA := Lib.hid (at_any cb F l y t wr (HCG.out _ htn.out.keep) hyz HLE.out)
              unfold toldP itA at HA
              obtain ⟨x, hx⟩ : ∃ x, (atP l y t).getD it0 = x := ⟨_, rfl⟩
              have hlis : x.listed = memB y ns := by rw [← hx]; exact listed_is HNS.out y
              obtain ⟨b, hb⟩ : ∃ b, memB y ns = b := ⟨_, rfl⟩
              have HBB := Lib.hid hb
              rw [hx, hlis, hb] at HA
              obtain ⟨isb, his⟩ : ∃ b, (atP l y t).isSome = b := ⟨_, rfl⟩
              rw [his] at HA
              have HFC : Hid (∀ wx, Kept (fun q => q = mb) w7 wx → wx.cell? ⟨g, o + j, none⟩ = some (.string y)) := Lib.hid (fun wx hk => (hk.cell (p := ⟨g, o + j, none⟩) (by show g < _; omega) (by show ¬ g = mb; omega)).trans e0)
              have f0 : wr.cell? ⟨g, o + j, none⟩ = some (.string y) := HFC.out _ htn.out.keep
              have hj8 : (j : Int) < (m : Int) := by omega
              have hj9 : (0 : Int) ≤ (j : Int) := by omega
              subst hA
              clear hy e0 hx hlis hb his
              go_wp2_with fail
              refine HA.out.mono ?_
              rintro e w8 ⟨rfl, hb8⟩
              clear HA
              obtain ⟨w9, hw9⟩ : ∃ w9, w8.alloc (.cells #[.string x.name, .string x.maker, .string x.tags, .int .i64 x.stock, .int .i64 x.price, .int .i64 x.born, .bool b] 30) = w9 := ⟨_, rfl⟩
              have hb9 : Below wr.heap.size wr w9 := by rw [← hw9]; exact hb8.alloc hb8.size _
              have HT9 : Hid (Tri w7 w9 mb ns (.slice A8 k c8) (.slice A9 m9 c9) (.slice A10 m10 c10) k m9 m10 ns (mkF l t wd ns) (tgF l t wd ns)) := Lib.hid (htn.out.below hb9)
              have hlk := fun q => (HT9.out.map.drewN q).look (string_keyed Tryd.underlying9) Tryd.underlying43 (zeroBool (w9.drewN q)) rfl (WideMaps.keyOf_string_mk Tryd.underlying9 (s := y) (by unfold maxLen; omega))
              simp only [mapG_at, setG_get, HBB.out] at hlk
              have f9 : w9.cell? ⟨g, o + j, none⟩ = some (.string y) := HFC.out _ HT9.out.keep
              have j6 : w9.cell? ⟨w8.heap.size, 6, none⟩ = some (.bool b) := by rw [← hw9]; exact (Blk.new _ _ _).cell 6
              have q1 : (b != b) = false := by cases b <;> rfl
              clear hb8 hb9 f0 htn
              go_wp2_with fail
              go_quiet (fail)
              go_wp2_with fail
              go_roundw
              case rel => exact ⟨j + 1, by omega, by go_num, Lib.hid (HT9.out.kept ((Kept.refl _ _).drewN _))⟩
              case measure => simp [intOf]; omega
            · obtain ⟨w20, rfl⟩ : ∃ w20 : World, w20 = wr := ⟨_, rfl⟩
              have HG20 : Hid (GlobAt w20) := Lib.hid (HG.out.keep (HBG.out _ htn.out.keep) (Nat.le_refl _))
              have HBM := Lib.hid (bymaker_any cb F l wd t w20 (HCG.out _ htn.out.keep) HG20.out HLE.out)
              have HM1 := Lib.hid (filt_is HNS.out (fun x => decide (x.maker = wd)))
              have HM2 := Lib.hid (filt_is HNS.out (fun x => memB wd (tagsOf x.tags)))
              go_wp2_with fail
              refine HBM.out.mono ?_
              rintro e w21 ⟨A21, c21, k1, rfl, hk1, hl1, hr21, hb21⟩
              have HT21 : Hid (Tri w7 w21 mb ns (.slice A8 k c8) (.slice A9 m9 c9) (.slice A10 m10 c10) k m9 m10 ns (mkF l t wd ns) (tgF l t wd ns)) := Lib.hid (htn.out.below hb21)
              have HE1 : Hid (k1 = mkF l t wd ns) := Lib.hid (hk1.one HM1.out (fun _ => rfl))
              have HX1 := Lib.hid (texts_any w21 A21 A9 k1 (mkF l t wd ns) k1.length m9 c21 c9 _ _ rfl (by have := HT21.out.rb.1; simpa using this) hr21 (RowIn.of_own HT21.out.rb) (by have := HLE.out; omega))
              clear HBM hk1 hl1 hr21 hb21 htn HG20
              go_wp2_with fail
              refine HX1.out.mono ?_
              rintro e w22 ⟨b1, rfl, hbb1, q22, hw22⟩
              obtain rfl : b1 = true := hbb1.2 HE1.out
              have HT22 : Hid (Tri w7 w22 mb ns (.slice A8 k c8) (.slice A9 m9 c9) (.slice A10 m10 c10) k m9 m10 ns (mkF l t wd ns) (tgF l t wd ns)) := Lib.hid (by rw [hw22]; exact HT21.out.kept ((Kept.refl _ _).drewN _))
              have HG22 : Hid (GlobAt w22) := Lib.hid (HG.out.keep (HBG.out _ HT22.out.keep) (Nat.le_refl _))
              have HBT := Lib.hid (bytag_any cb F l wd t w22 (HCG.out _ HT22.out.keep) HG22.out HLE.out)
              clear hbb1 hw22 HX1
              go_wp2_with fail
              refine HBT.out.mono ?_
              rintro e w23 ⟨A23, c23, k2, rfl, hk2, hl2, hr23, hb23⟩
              have HT23 : Hid (Tri w7 w23 mb ns (.slice A8 k c8) (.slice A9 m9 c9) (.slice A10 m10 c10) k m9 m10 ns (mkF l t wd ns) (tgF l t wd ns)) := Lib.hid (HT22.out.below hb23)
              have HE2 : Hid (k2 = tgF l t wd ns) := Lib.hid (hk2.one HM2.out (fun _ => rfl))
              have HX2 := Lib.hid (texts_any w23 A23 A10 k2 (tgF l t wd ns) k2.length m10 c23 c10 _ _ rfl (by have := HT23.out.rc.1; simpa using this) hr23 (RowIn.of_own HT23.out.rc) (by have := HLE.out; omega))
              clear HBT hk2 hl2 hr23 hb23 HT22 HG22
              go_wp2_with fail
              refine HX2.out.mono ?_
              rintro e w24 ⟨b2, rfl, hbb2, q24, hw24⟩
              obtain rfl : b2 = true := hbb2.2 HE2.out
              have HB24 : Hid (Below w.heap.size w w24) := Lib.hid (by rw [hw24]; exact below_drewN (HBG.out _ HT23.out.keep) _)
              clear hbb2 hw24 HX2
              go_wp2_with fail
              go_ret
              exact ⟨rfl, HB24.out⟩

end Go.Proofs.YtpnfnmpohacnoaaDoor
