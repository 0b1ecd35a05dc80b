/- CatalogAhead: the walk. -/
import Derived.Test.YtpnfnmpohacnoaaDoorItB
import Derived.Test.YtpnfnmpohacnoaaDoorCatO
import Derived.Test.YtpnfnmpohacnoaaDoorTexts
namespace Go.Proofs.YtpnfnmpohacnoaaDoor
open Go.Shelf Go.RowKit Go.Maps
set_option linter.unusedVariables false

theorem one_ev (w : World) (x : Ev) (t : TypeId) : RowIn (w.alloc (.cells #[.string x.src, .int .i64 x.num, .int .i64 x.tick, .int .i64 x.kind, .string x.person, .string x.item, .int .i64 x.value, .string x.text] t)) (w.heap.size + 1) 8 (some ⟨w.heap.size, 0, none⟩) 1 (evC x) := by
  refine ⟨rfl, Or.inr ⟨w.heap.size, 0, rfl, by omega, fun j u hu => ?_⟩⟩
  rw [(Blk.new w t _).cell]
  rw [← hu, Nat.zero_add]
  simp [evC]

theorem wh_same {es es' : List Ev} {t : Int} (h : ∀ n, atP es n t = atP es' n t) (p : It → Bool) : ∀ n, whB es t p n = whB es' t p n := fun n => by unfold whB; rw [h n]

set_option maxHeartbeats 4000000 in
set_option maxRecDepth 100000 in
theorem catalogAhead_walk (A : Option Addr) (n c : Nat) (l : List Ev) (nm : ByteArray) (wd : ByteArray) (t : Int) (w : World) (ha : EvArg w A n c l) (hnm : nm.size ≤ 140737488355328) (hwd : wd.size ≤ 140737488355328) (hg : GlobAt w) :
    Calls Tryd.prog 4 #[.slice A n c, .string nm, .string wd, .int .i64 t] w fun e w' => e = .returned (.bool true) ∧ Below w.heap.size w w' := by
  obtain ⟨hn, hl, hnb, hnil, hbd⟩ := ha
  have HW := Lib.hid (awake_any w hg)
  have HN := Lib.hid hn
  have HL := Lib.hid hl
  have HD := Lib.hid hbd
  have HG := Lib.hid hg
  have hgl := hg.1
  clear hn hl hbd hg
  go_enter Tryd.func4, Tryd.ntmps4
  go_wp2_with fail
  refine HW.out.mono ?_
  rintro e w1 ⟨rfl, hb1⟩
  have HL1 : Hid (EvsAt w1 w.heap.size A l) := Lib.hid (HL.out.below hb1)
  have HFW := Lib.hid (few_any w1 w.heap.size A l n c HN.out HL1.out hb1.size hnb HD.out)
  have HB1 := Lib.hid hb1
  clear HW hb1
  go_wp2_with fail
  refine HFW.out.mono ?_
  rintro e w2 ⟨bf, rfl, hbf, q, hw2⟩
  have HB2 : Hid (Below w.heap.size w w2) := Lib.hid (by rw [hw2]; exact below_drewN HB1.out _)
  clear HFW hw2 HB1 HL1
  cases bf
  · go_wp2_with fail
    go_ret
    exact ⟨rfl, HB2.out⟩
  obtain ⟨h61, hfew⟩ := hbf rfl
  have HFEW := Lib.hid hfew
  clear hbf hfew
  by_cases gnm : (300 : Int) < (nm.size : Int)
  · go_wp2_with fail
    go_ret
    exact ⟨rfl, HB2.out⟩
  by_cases gwd : (300 : Int) < (wd.size : Int)
  · go_wp2_with fail
    go_ret
    exact ⟨rfl, HB2.out⟩
  have HL2 : Hid (EvsAt w2 w.heap.size A l) := Lib.hid (HL.out.below HB2.out)
  have HMD := Lib.hid (made_any w2 w.heap.size A l n c HN.out HL2.out HB2.out.size (by omega) (fun e he => (HFEW.out e he).sh) (HG.out.keep HB2.out (Nat.le_refl _)))
  go_wp2_with fail
  refine HMD.out.mono ?_
  rintro e w3 ⟨hres, hb3⟩
  have HB3 : Hid (Below w.heap.size w w3) := Lib.hid (HB2.out.trans (hb3.mono HB2.out.size))
  clear HMD hb3 HL2 HB2
  rcases hres with ⟨_, rfl⟩ | ⟨hmade, cb, F, rfl, hcat, hF⟩
  · go_wp2_with fail
    go_ret
    exact ⟨rfl, HB3.out⟩
  have HMADE := Lib.hid hmade
  have HC3 := Lib.hid hcat
  have HLE : Hid (l.length ≤ 1000000) := Lib.hid (by rw [HN.out]; omega)
  clear hcat hF hmade
  obtain ⟨i0, hi0, hz0, hz1, hz2⟩ := info_parts ev_info
  go_wp2_with fail
  go_loopw [10, 11] (fun s i wr => ∃ (k : Nat), k ≤ n ∧ i = .int .i64 k ∧ Hid (((l.take k).filter (fun e => decide (e.tick ≤ t))).length ≤ k) ∧ Hid (wr.ownsRow w3.heap.size 36 8 s ((l.take k).filter (fun e => decide (e.tick ≤ t))).length (((l.take k).filter (fun e => decide (e.tick ≤ t))).flatMap evC)) ∧ Hid (Below w3.heap.size w3 wr)) (fun _ i _ => n - (intOf i).toNat)
  case atStart => exact ⟨0, Nat.zero_le _, rfl, Lib.hid (by simp), Lib.hid (own_nil _ _ _ _), Lib.hid (Below.refl _ _)⟩
  case round =>
    obtain ⟨k, hk, rfl, hol, hrow, hbw⟩ := hrel
    obtain ⟨A5, c5, hr⟩ := own_shape hrow.out
    rw [hr] at hrow ⊢
    clear hr
    have hwz := hbw.out.size
    by_cases hlt : k < n
    · obtain ⟨x, hx⟩ : ∃ x, l[k]? = some x := ⟨l[k]'(by rw [HN.out]; exact hlt), List.getElem?_eq_getElem _⟩
      obtain ⟨g, o, rfl, hgB, hcl⟩ := HL.out.at (by rw [HN.out]; omega)
      have HBW : Hid (Below w.heap.size w wr) := Lib.hid (HB3.out.trans (hbw.out.mono HB3.out.size))
      obtain ⟨e0, e1, e2, e3, e4, e5, e6, e7⟩ : EvAt wr g (o + k * 8) x := (hcl k x hx).keep (fun j => HBW.out.cell (p := ⟨g, j, none⟩) hgB)
      have htk : l.take (k + 1) = l.take k ++ [x] := by rw [List.take_add_one, hx]; rfl
      have HTK : Hid ((l.take (k + 1)).filter (fun e => decide (e.tick ≤ t)) = (l.take k).filter (fun e => decide (e.tick ≤ t)) ++ [x].filter (fun e => decide (e.tick ≤ t))) := Lib.hid (by rw [htk, List.filter_append])
      have hk8 : (k : Int) < (n : Int) := by omega
      have hk9 : (0 : Int) ≤ (k : Int) := by omega
      clear hcl hx htk
      have hol' := hol.out
      generalize (l.take k).filter (fun e => decide (e.tick ≤ t)) = out at *
      obtain ⟨m, hm⟩ : ∃ m, out.length = m := ⟨_, rfl⟩
      rw [hm] at hol' hrow ⊢
      have HM := Lib.hid hm
      clear hm
      by_cases hc : x.tick ≤ t
      rotate_left
      · have HF : Hid ([x].filter (fun e => decide (e.tick ≤ t)) = []) := Lib.hid (by simp [hc])
        go_wp2_with fail
        go_roundw
        case rel =>
          refine ⟨k + 1, by omega, by go_num, Lib.hid ?_, Lib.hid ?_, hbw⟩
          · rw [HTK.out, HF.out, List.append_nil, HM.out]; omega
          · rw [HTK.out, HF.out, List.append_nil, HM.out]; exact hrow.out
        case measure => simp [intOf]; omega
      · have HF : Hid ([x].filter (fun e => decide (e.tick ≤ t)) = [x]) := Lib.hid (by simp [hc])
        go_wp2_with (first
          | (at_builtin; refine wpList_append_row _ rfl _ _ 22 rfl w3.heap.size 36 i0 _ 8 96 Tryd.underlying22 hi0 hz0 hz1 hz2 rfl (by omega) (.slice A5 m c5) m _ rfl (hrow.out.alloc _) (wr.heap.size + 1) (some ⟨wr.heap.size, 0, none⟩) 1 1 (evC x) rfl (one_ev wr x _) (fun h => by cases h) (fun u hu => evC_one [x] u (by simpa using hu)) (by unfold maxLen; omega) (by omega) (by simp; omega) ?_; intro v7 w7 ho7 hg7 hv7))
        go_roundw
        case rel =>
          refine ⟨k + 1, by omega, by go_num, Lib.hid ?_, Lib.hid ?_, Lib.hid ((hbw.out.alloc hwz _).grown hg7 (by simp; omega) (fun j hj => (hrow.out.lt _ hj).1))⟩
          · rw [HTK.out, HF.out, List.length_append, HM.out]; simp; omega
          · rw [HTK.out, HF.out, List.length_append, HM.out, List.flatMap_append]
            have : [x].flatMap evC = evC x := by simp
            rw [this]
            exact ho7
        case measure => simp [intOf]; omega
    · obtain rfl : n = k := by omega
      have htl : l.take n = l := by rw [← HN.out, List.take_length]
      rw [htl] at hrow hol ⊢
      clear htl
      have HBW : Hid (Below w.heap.size w wr) := Lib.hid (HB3.out.trans (hbw.out.mono HB3.out.size))
      have HC4 : Hid (CatAt wr cb F l) := Lib.hid (HC3.out.below hbw.out)
      have HSUB : Hid (List.Sublist (l.filter (fun e => decide (e.tick ≤ t))) l) := Lib.hid List.filter_sublist
      obtain ⟨L2, hL2⟩ : ∃ L2, l.filter (fun e => decide (e.tick ≤ t)) = L2 := ⟨_, rfl⟩
      rw [hL2] at hrow HSUB hol ⊢
      have HFI := Lib.hid hL2
      have HMD2 := Lib.hid (made_any wr wr.heap.size A5 L2 L2.length c5 rfl (by have := RowIn.of_own hrow.out; exact this) (Nat.le_refl _) (by have := hol.out; omega) (fun e he => (HFEW.out e (HSUB.out.subset he)).sh) (HG.out.keep HBW.out (Nat.le_refl _)))
      have HM2 := Lib.hid (made_sub HMADE.out HSUB.out)
      have HLE2 : Hid (L2.length ≤ 1000000) := Lib.hid (by have := hol.out; omega)
      clear hL2 hrow hol
      generalize L2.length = n2 at HMD2 ⊢
      obtain ⟨w4, rfl⟩ : ∃ w4 : World, w4 = wr := ⟨_, rfl⟩
      go_wp2_with fail
      refine HMD2.out.mono ?_
      rintro e w5 ⟨hres, hb5⟩
      have HB5 : Hid (Below w.heap.size w w5) := Lib.hid (HBW.out.trans (hb5.mono HBW.out.size))
      have HC5 : Hid (CatAt w5 cb F l) := Lib.hid (HC4.out.below hb5)
      clear HMD2 hb5 HC4 HC3 HB3 hbw hwz
      rcases hres with ⟨hf, _⟩ | ⟨_, db, F', rfl, hcat2, hF2⟩
      · rw [HM2.out] at hf; cases hf
      have HD5 := Lib.hid hcat2
      clear hcat2 hF2
      have HRI := Lib.hid HC5.out.rise
      have HAH : Hid (∀ n', atP l n' t = atP L2 n' t) := Lib.hid (fun n' => by rw [at_ahead HRI.out n' t, HFI.out, at_all (t := t) (fun e he => by rw [← HFI.out] at he; simpa using (List.mem_filter.1 he).2) n'])
      have HAZ : Hid (atP l nm t = atP L2 nm 4611686018427387904) := Lib.hid (by rw [at_ahead HRI.out nm t, HFI.out, at_all (t := 4611686018427387904) (fun e he => by have := cat_tick (HD5.out.may e he); omega) nm])
      have HAa := Lib.hid (at_any cb F l nm t w5 HC5.out (by omega) HLE.out)
      unfold toldP itA at HAa
      generalize hxa : (atP l nm t).getD it0 = xa at HAa
      generalize hoa : (atP l nm t).isSome = oka at HAa
      have HXa := Lib.hid hxa
      have HOKa := Lib.hid hoa
      clear hxa hoa
      go_wp2_with fail
      refine HAa.out.mono ?_
      rintro e w6 ⟨rfl, hb⟩
      have HB6 : Hid (Below w.heap.size w w6) := Lib.hid (HB5.out.trans (hb.mono HB5.out.size))
      have HC6 : Hid (CatAt w6 cb F l) := Lib.hid (HC5.out.below hb)
      have HD6 : Hid (CatAt w6 db F' L2) := Lib.hid (HD5.out.below hb)
      clear HAa hb
      go_wp2_with fail
      obtain ⟨w7, hw7⟩ : ∃ w7, w6.alloc (.cells #[.string xa.name, .string xa.maker, .string xa.tags, .int .i64 xa.stock, .int .i64 xa.price, .int .i64 xa.born, .bool xa.listed] 30) = w7 := ⟨_, rfl⟩
      rw [hw7]
      have HB7 : Hid (Below w.heap.size w w7) := Lib.hid (by rw [← hw7]; exact HB6.out.alloc HB6.out.size _)
      have hbb : Below w6.heap.size w6 w7 := by rw [← hw7]; exact (Below.refl _ _).alloc (Nat.le_refl _) _
      have HC7 : Hid (CatAt w7 cb F l) := Lib.hid (HC6.out.below hbb)
      have HD7 : Hid (CatAt w7 db F' L2) := Lib.hid (HD6.out.below hbb)
      have HIa7 : Hid (Blk w7 w6.heap.size 30 (itArr xa)) := Lib.hid (by rw [← hw7]; exact Blk.new _ _ _)
      clear hbb hw7
      have HAb := Lib.hid (at_any db F' L2 nm t w7 HD7.out (by omega) HLE2.out)
      unfold toldP itA at HAb
      generalize hxb : (atP L2 nm t).getD it0 = xb at HAb
      generalize hob : (atP L2 nm t).isSome = okb at HAb
      have HXb := Lib.hid hxb
      have HOKb := Lib.hid hob
      clear hxb hob
      go_wp2_with fail
      refine HAb.out.mono ?_
      rintro e w8 ⟨rfl, hb⟩
      have HB8 : Hid (Below w.heap.size w w8) := Lib.hid (HB7.out.trans (hb.mono HB7.out.size))
      have HC8 : Hid (CatAt w8 cb F l) := Lib.hid (HC7.out.below hb)
      have HD8 : Hid (CatAt w8 db F' L2) := Lib.hid (HD7.out.below hb)
      have HIa8 : Hid (Blk w8 w6.heap.size 30 (itArr xa)) := Lib.hid ((hb.block _ HIa7.out.lt).trans HIa7.out)
      clear HAb hb
      go_wp2_with fail
      obtain ⟨w9, hw9⟩ : ∃ w9, w8.alloc (.cells #[.string xb.name, .string xb.maker, .string xb.tags, .int .i64 xb.stock, .int .i64 xb.price, .int .i64 xb.born, .bool xb.listed] 30) = w9 := ⟨_, rfl⟩
      rw [hw9]
      have HB9 : Hid (Below w.heap.size w w9) := Lib.hid (by rw [← hw9]; exact HB8.out.alloc HB8.out.size _)
      have hbb : Below w8.heap.size w8 w9 := by rw [← hw9]; exact (Below.refl _ _).alloc (Nat.le_refl _) _
      have HC9 : Hid (CatAt w9 cb F l) := Lib.hid (HC8.out.below hbb)
      have HD9 : Hid (CatAt w9 db F' L2) := Lib.hid (HD8.out.below hbb)
      have HIa9 : Hid (Blk w9 w6.heap.size 30 (itArr xa)) := Lib.hid ((hbb.block _ HIa8.out.lt).trans HIa8.out)
      have HIb9 : Hid (Blk w9 w8.heap.size 30 (itArr xb)) := Lib.hid (by rw [← hw9]; exact Blk.new _ _ _)
      clear hbb hw9
      have HAz := Lib.hid (at_any db F' L2 nm 4611686018427387904 w9 HD9.out (by omega) HLE2.out)
      unfold toldP itA at HAz
      generalize hxz : (atP L2 nm 4611686018427387904).getD it0 = xz at HAz
      generalize hoz : (atP L2 nm 4611686018427387904).isSome = okz at HAz
      have HXz := Lib.hid hxz
      have HOKz := Lib.hid hoz
      clear hxz hoz
      go_wp2_with fail
      refine HAz.out.mono ?_
      rintro e w10 ⟨rfl, hb⟩
      have HB10 : Hid (Below w.heap.size w w10) := Lib.hid (HB9.out.trans (hb.mono HB9.out.size))
      have HC10 : Hid (CatAt w10 cb F l) := Lib.hid (HC9.out.below hb)
      have HD10 : Hid (CatAt w10 db F' L2) := Lib.hid (HD9.out.below hb)
      have HIa10 : Hid (Blk w10 w6.heap.size 30 (itArr xa)) := Lib.hid ((hb.block _ HIa9.out.lt).trans HIa9.out)
      have HIb10 : Hid (Blk w10 w8.heap.size 30 (itArr xb)) := Lib.hid ((hb.block _ HIb9.out.lt).trans HIb9.out)
      clear HAz hb
      obtain ⟨w11, hw11⟩ : ∃ w11, w10.alloc (.cells #[.string xz.name, .string xz.maker, .string xz.tags, .int .i64 xz.stock, .int .i64 xz.price, .int .i64 xz.born, .bool xz.listed] 30) = w11 := ⟨_, rfl⟩
      have HB11 : Hid (Below w.heap.size w w11) := Lib.hid (by rw [← hw11]; exact HB10.out.alloc HB10.out.size _)
      have hbb : Below w10.heap.size w10 w11 := by rw [← hw11]; exact (Below.refl _ _).alloc (Nat.le_refl _) _
      have HC11 : Hid (CatAt w11 cb F l) := Lib.hid (HC10.out.below hbb)
      have HD11 : Hid (CatAt w11 db F' L2) := Lib.hid (HD10.out.below hbb)
      have HIa11 : Hid (Blk w11 w6.heap.size 30 (itArr xa)) := Lib.hid ((hbb.block _ HIa10.out.lt).trans HIa10.out)
      have HIb11 : Hid (Blk w11 w8.heap.size 30 (itArr xb)) := Lib.hid ((hbb.block _ HIb10.out.lt).trans HIb10.out)
      have HIz11 : Hid (Blk w11 w10.heap.size 30 (itArr xz)) := Lib.hid (by rw [← hw11]; exact Blk.new _ _ _)
      clear hbb
      obtain rfl : xa = xb := by rw [← HXa.out, ← HXb.out, HAH.out]
      obtain rfl : xa = xz := by rw [← HXa.out, ← HXz.out, HAZ.out]
      obtain rfl : oka = okb := by rw [← HOKa.out, ← HOKb.out, HAH.out]
      obtain rfl : oka = okz := by rw [← HOKa.out, ← HOKz.out, HAZ.out]
      have hxx := itB_rfl xa
      have hoo : (oka == oka) = true := by simp
      have a0 : w11.cell? ⟨w6.heap.size, 0, none⟩ = some (.string xa.name) := HIa11.out.cell 0
      have a1 : w11.cell? ⟨w6.heap.size, 1, none⟩ = some (.string xa.maker) := HIa11.out.cell 1
      have a2 : w11.cell? ⟨w6.heap.size, 2, none⟩ = some (.string xa.tags) := HIa11.out.cell 2
      have a3 : w11.cell? ⟨w6.heap.size, 3, none⟩ = some (.int .i64 xa.stock) := HIa11.out.cell 3
      have a4 : w11.cell? ⟨w6.heap.size, 4, none⟩ = some (.int .i64 xa.price) := HIa11.out.cell 4
      have a5 : w11.cell? ⟨w6.heap.size, 5, none⟩ = some (.int .i64 xa.born) := HIa11.out.cell 5
      have a6 : w11.cell? ⟨w6.heap.size, 6, none⟩ = some (.bool xa.listed) := HIa11.out.cell 6
      have b0 : w11.cell? ⟨w8.heap.size, 0, none⟩ = some (.string xa.name) := HIb11.out.cell 0
      have b1 : w11.cell? ⟨w8.heap.size, 1, none⟩ = some (.string xa.maker) := HIb11.out.cell 1
      have b2 : w11.cell? ⟨w8.heap.size, 2, none⟩ = some (.string xa.tags) := HIb11.out.cell 2
      have b3 : w11.cell? ⟨w8.heap.size, 3, none⟩ = some (.int .i64 xa.stock) := HIb11.out.cell 3
      have b4 : w11.cell? ⟨w8.heap.size, 4, none⟩ = some (.int .i64 xa.price) := HIb11.out.cell 4
      have b5 : w11.cell? ⟨w8.heap.size, 5, none⟩ = some (.int .i64 xa.born) := HIb11.out.cell 5
      have b6 : w11.cell? ⟨w8.heap.size, 6, none⟩ = some (.bool xa.listed) := HIb11.out.cell 6
      have z0 : w11.cell? ⟨w10.heap.size, 0, none⟩ = some (.string xa.name) := HIz11.out.cell 0
      have z1 : w11.cell? ⟨w10.heap.size, 1, none⟩ = some (.string xa.maker) := HIz11.out.cell 1
      have z2 : w11.cell? ⟨w10.heap.size, 2, none⟩ = some (.string xa.tags) := HIz11.out.cell 2
      have z3 : w11.cell? ⟨w10.heap.size, 3, none⟩ = some (.int .i64 xa.stock) := HIz11.out.cell 3
      have z4 : w11.cell? ⟨w10.heap.size, 4, none⟩ = some (.int .i64 xa.price) := HIz11.out.cell 4
      have z5 : w11.cell? ⟨w10.heap.size, 5, none⟩ = some (.int .i64 xa.born) := HIz11.out.cell 5
      have z6 : w11.cell? ⟨w10.heap.size, 6, none⟩ = some (.bool xa.listed) := HIz11.out.cell 6
      have HS := Lib.hid (names_any cb F l t w11 HC11.out HLE.out)
      go_wp2_with fail
      refine HS.out.mono ?_
      rintro e w12 ⟨A1, c1, k1, rfl, hi1, hl1, hr1, hb1⟩
      have HB12 : Hid (Below w.heap.size w w12) := Lib.hid (HB11.out.trans (hb1.mono HB11.out.size))
      have HC12 : Hid (CatAt w12 cb F l) := Lib.hid (HC11.out.below hb1)
      have HD12 : Hid (CatAt w12 db F' L2) := Lib.hid (HD11.out.below hb1)
      have HI1 := Lib.hid hi1
      have HR1 := Lib.hid hr1
      clear hi1 hr1 hb1 HS
      generalize hk1 : k1.length = m1 at *
      have HK1 := Lib.hid hk1
      clear hk1
      have HS := Lib.hid (names_any db F' L2 t w12 HD12.out HLE2.out)
      go_wp2_with fail
      refine HS.out.mono ?_
      rintro e w13 ⟨A2, c2, k2, rfl, hi2, hl2, hr2, hb2⟩
      have HB13 : Hid (Below w.heap.size w w13) := Lib.hid (HB12.out.trans (hb2.mono HB12.out.size))
      have HC13 : Hid (CatAt w13 cb F l) := Lib.hid (HC12.out.below hb2)
      have HD13 : Hid (CatAt w13 db F' L2) := Lib.hid (HD12.out.below hb2)
      have HEQ : Hid (k1 = k2) := Lib.hid (HI1.out.one hi2 (wh_same HAH.out (fun x => true)))
      have HR1' : Hid (RowIn w13 w12.heap.size 1 A1 m1 (k1.map .string)) := Lib.hid (HR1.out.below hb2)
      have HR2 := Lib.hid hr2
      clear hi2 hr2 hb2 HS HR1
      generalize hk2 : k2.length = m2 at *
      have HK2 := Lib.hid hk2
      clear hk2
      have HT := Lib.hid (texts_any w13 A1 A2 k1 k2 m1 m2 c1 c2 _ _ HK1.out HK2.out HR1'.out HR2.out (by have := HLE.out; omega))
      go_wp2_with fail
      refine HT.out.mono ?_
      rintro e w14 ⟨bt, rfl, hbt, q12, hw⟩
      obtain rfl : bt = true := hbt.2 HEQ.out
      have hbd : Below w13.heap.size w13 w14 := by rw [hw]; exact below_drewN (Below.refl _ _) _
      have HB14 : Hid (Below w.heap.size w w14) := Lib.hid (HB13.out.trans (hbd.mono HB13.out.size))
      have HC14 : Hid (CatAt w14 cb F l) := Lib.hid (HC13.out.below hbd)
      have HD14 : Hid (CatAt w14 db F' L2) := Lib.hid (HD13.out.below hbd)
      clear HT hbt hw hbd hl1 hl2 HR1' HR2 HI1 HEQ HK1 HK2 HC12 HD12 HC13 HD13 HB12 HB13
      have HS := Lib.hid (bymaker_any cb F l wd t w14 HC14.out (HG.out.keep HB14.out (Nat.le_refl _)) HLE.out)
      go_wp2_with fail
      refine HS.out.mono ?_
      rintro e w15 ⟨A1, c1, k1, rfl, hi1, hl1, hr1, hb1⟩
      have HB15 : Hid (Below w.heap.size w w15) := Lib.hid (HB14.out.trans (hb1.mono HB14.out.size))
      have HC15 : Hid (CatAt w15 cb F l) := Lib.hid (HC14.out.below hb1)
      have HD15 : Hid (CatAt w15 db F' L2) := Lib.hid (HD14.out.below hb1)
      have HI1 := Lib.hid hi1
      have HR1 := Lib.hid hr1
      clear hi1 hr1 hb1 HS
      generalize hk1 : k1.length = m1 at *
      have HK1 := Lib.hid hk1
      clear hk1
      have HS := Lib.hid (bymaker_any db F' L2 wd t w15 HD15.out (HG.out.keep HB15.out (Nat.le_refl _)) HLE2.out)
      go_wp2_with fail
      refine HS.out.mono ?_
      rintro e w16 ⟨A2, c2, k2, rfl, hi2, hl2, hr2, hb2⟩
      have HB16 : Hid (Below w.heap.size w w16) := Lib.hid (HB15.out.trans (hb2.mono HB15.out.size))
      have HC16 : Hid (CatAt w16 cb F l) := Lib.hid (HC15.out.below hb2)
      have HD16 : Hid (CatAt w16 db F' L2) := Lib.hid (HD15.out.below hb2)
      have HEQ : Hid (k1 = k2) := Lib.hid (HI1.out.one hi2 (wh_same HAH.out (fun x => decide (x.maker = wd))))
      have HR1' : Hid (RowIn w16 w15.heap.size 1 A1 m1 (k1.map .string)) := Lib.hid (HR1.out.below hb2)
      have HR2 := Lib.hid hr2
      clear hi2 hr2 hb2 HS HR1
      generalize hk2 : k2.length = m2 at *
      have HK2 := Lib.hid hk2
      clear hk2
      have HT := Lib.hid (texts_any w16 A1 A2 k1 k2 m1 m2 c1 c2 _ _ HK1.out HK2.out HR1'.out HR2.out (by have := HLE.out; omega))
      go_wp2_with fail
      refine HT.out.mono ?_
      rintro e w17 ⟨bt, rfl, hbt, q15, hw⟩
      obtain rfl : bt = true := hbt.2 HEQ.out
      have hbd : Below w16.heap.size w16 w17 := by rw [hw]; exact below_drewN (Below.refl _ _) _
      have HB17 : Hid (Below w.heap.size w w17) := Lib.hid (HB16.out.trans (hbd.mono HB16.out.size))
      have HC17 : Hid (CatAt w17 cb F l) := Lib.hid (HC16.out.below hbd)
      have HD17 : Hid (CatAt w17 db F' L2) := Lib.hid (HD16.out.below hbd)
      clear HT hbt hw hbd hl1 hl2 HR1' HR2 HI1 HEQ HK1 HK2 HC15 HD15 HC16 HD16 HB15 HB16
      have HS := Lib.hid (bytag_any cb F l wd t w17 HC17.out (HG.out.keep HB17.out (Nat.le_refl _)) HLE.out)
      go_wp2_with fail
      refine HS.out.mono ?_
      rintro e w18 ⟨A1, c1, k1, rfl, hi1, hl1, hr1, hb1⟩
      have HB18 : Hid (Below w.heap.size w w18) := Lib.hid (HB17.out.trans (hb1.mono HB17.out.size))
      have HC18 : Hid (CatAt w18 cb F l) := Lib.hid (HC17.out.below hb1)
      have HD18 : Hid (CatAt w18 db F' L2) := Lib.hid (HD17.out.below hb1)
      have HI1 := Lib.hid hi1
      have HR1 := Lib.hid hr1
      clear hi1 hr1 hb1 HS
      generalize hk1 : k1.length = m1 at *
      have HK1 := Lib.hid hk1
      clear hk1
      have HS := Lib.hid (bytag_any db F' L2 wd t w18 HD18.out (HG.out.keep HB18.out (Nat.le_refl _)) HLE2.out)
      go_wp2_with fail
      refine HS.out.mono ?_
      rintro e w19 ⟨A2, c2, k2, rfl, hi2, hl2, hr2, hb2⟩
      have HB19 : Hid (Below w.heap.size w w19) := Lib.hid (HB18.out.trans (hb2.mono HB18.out.size))
      have HC19 : Hid (CatAt w19 cb F l) := Lib.hid (HC18.out.below hb2)
      have HD19 : Hid (CatAt w19 db F' L2) := Lib.hid (HD18.out.below hb2)
      have HEQ : Hid (k1 = k2) := Lib.hid (HI1.out.one hi2 (wh_same HAH.out (fun x => memB wd (tagsOf x.tags))))
      have HR1' : Hid (RowIn w19 w18.heap.size 1 A1 m1 (k1.map .string)) := Lib.hid (HR1.out.below hb2)
      have HR2 := Lib.hid hr2
      clear hi2 hr2 hb2 HS HR1
      generalize hk2 : k2.length = m2 at *
      have HK2 := Lib.hid hk2
      clear hk2
      have HT := Lib.hid (texts_any w19 A1 A2 k1 k2 m1 m2 c1 c2 _ _ HK1.out HK2.out HR1'.out HR2.out (by have := HLE.out; omega))
      go_wp2_with fail
      refine HT.out.mono ?_
      rintro e w20 ⟨bt, rfl, hbt, q18, hw⟩
      obtain rfl : bt = true := hbt.2 HEQ.out
      have hbd : Below w19.heap.size w19 w20 := by rw [hw]; exact below_drewN (Below.refl _ _) _
      have HB20 : Hid (Below w.heap.size w w20) := Lib.hid (HB19.out.trans (hbd.mono HB19.out.size))
      have HC20 : Hid (CatAt w20 cb F l) := Lib.hid (HC19.out.below hbd)
      have HD20 : Hid (CatAt w20 db F' L2) := Lib.hid (HD19.out.below hbd)
      clear HT hbt hw hbd hl1 hl2 HR1' HR2 HI1 HEQ HK1 HK2 HC18 HD18 HC19 HD19 HB18 HB19
      go_wp2_with fail
      go_ret
      exact ⟨rfl, HB20.out⟩

end Go.Proofs.YtpnfnmpohacnoaaDoor
