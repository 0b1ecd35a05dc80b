/- CatalogKeyed: the walk. -/
import Derived.Test.YtpnfnmpohacnoaaDoorItB
import Derived.Test.YtpnfnmpohacnoaaDoorCatO
import Derived.Test.YtpnfnmpohacnoaaDoorTexts
import Derived.Deep.RegionHeld3
namespace Go.Proofs.YtpnfnmpohacnoaaDoor
open Go.Shelf Go.RowKit Go.Maps
set_option linter.unusedVariables false

theorem one_ev (w : World) (x : Ev) (t : TypeId) : RowIn (w.alloc (.cells #[.string x.src, .int .i64 x.num, .int .i64 x.tick, .int .i64 x.kind, .string x.person, .string x.item, .int .i64 x.value, .string x.text] t)) (w.heap.size + 1) 8 (some ⟨w.heap.size, 0, none⟩) 1 (evC x) := by
  refine ⟨rfl, Or.inr ⟨w.heap.size, 0, rfl, by omega, fun j u hu => ?_⟩⟩
  rw [(Blk.new w t _).cell]
  rw [← hu, Nat.zero_add]
  simp [evC]

/-- The two things lie in their blocks. -/
def KyS (W : World) (b1 b2 : Nat) (x y : It) : Prop := World.cell? W ⟨b1, 0, none⟩ = some (.string x.name) ∧ World.cell? W ⟨b1, 1, none⟩ = some (.string x.maker) ∧ World.cell? W ⟨b1, 2, none⟩ = some (.string x.tags) ∧ World.cell? W ⟨b1, 3, none⟩ = some (.int .i64 x.stock) ∧ World.cell? W ⟨b1, 4, none⟩ = some (.int .i64 x.price) ∧ World.cell? W ⟨b1, 5, none⟩ = some (.int .i64 x.born) ∧ World.cell? W ⟨b1, 6, none⟩ = some (.bool x.listed) ∧ World.cell? W ⟨b2, 0, none⟩ = some (.string y.name) ∧ World.cell? W ⟨b2, 1, none⟩ = some (.string y.maker) ∧ World.cell? W ⟨b2, 2, none⟩ = some (.string y.tags) ∧ World.cell? W ⟨b2, 3, none⟩ = some (.int .i64 y.stock) ∧ World.cell? W ⟨b2, 4, none⟩ = some (.int .i64 y.price) ∧ World.cell? W ⟨b2, 5, none⟩ = some (.int .i64 y.born) ∧ World.cell? W ⟨b2, 6, none⟩ = some (.bool y.listed)
theorem KyS.keep {W W' : World} {b1 b2 : Nat} {x y : It} (h : KyS W b1 b2 x y) (hb : Below W.heap.size W W') (l1 : b1 < W.heap.size) (l2 : b2 < W.heap.size) : KyS W' b1 b2 x y := by
  obtain ⟨a0, a1, a2, a3, a4, a5, a6, a7, a8, a9, a10, a11, a12, a13⟩ := h
  have k : ∀ g j, g < W.heap.size → W'.cell? ⟨g, j, none⟩ = W.cell? ⟨g, j, none⟩ := fun g j hl => hb.cell (p := ⟨g, j, none⟩) hl
  exact ⟨(k _ _ l1).trans a0, (k _ _ l1).trans a1, (k _ _ l1).trans a2, (k _ _ l1).trans a3, (k _ _ l1).trans a4, (k _ _ l1).trans a5, (k _ _ l1).trans a6, (k _ _ l2).trans a7, (k _ _ l2).trans a8, (k _ _ l2).trans a9, (k _ _ l2).trans a10, (k _ _ l2).trans a11, (k _ _ l2).trans a12, (k _ _ l2).trans a13⟩
theorem own_names {es : List Ev} {nm : ByteArray} {t : Int} {ks : List ByteArray} (h : ∀ e ∈ es, e.item = nm) (hk : IsNames (whB es t (fun x => true)) ks) : ks.length ≤ 1 ∧ ((ks.length : Int) == 1) = ((atP es nm t).getD it0).listed := by
  have hall : ∀ x ∈ ks, x = nm := by
    intro x hx
    have h1 := (hk.2 x).1 hx
    unfold whB at h1
    cases ha : atP es x t with
    | none => rw [ha] at h1; cases h1
    | some y =>
      have hr : rowOf es x ≠ [] := fun e => by unfold atP at ha; rw [e] at ha; cases ha
      obtain ⟨e, he, rfl⟩ := row_ne hr
      exact h e he
  have hw : nm ∈ ks ↔ ((atP es nm t).getD it0).listed = true := by
    rw [hk.2]
    unfold whB
    cases atP es nm t with
    | none => simp [it0]
    | some y => simp
  have hn := hk.nodup
  cases ks with
  | nil =>
    refine ⟨by simp, ?_⟩
    have : ¬ ((atP es nm t).getD it0).listed = true := fun h => by have := hw.2 h; cases this
    rw [Bool.eq_false_iff.2 this]
    rfl
  | cons a ks =>
    cases ks with
    | nil =>
      refine ⟨by simp, ?_⟩
      have ha := hall a (by simp)
      have : ((atP es nm t).getD it0).listed = true := hw.1 (by rw [ha]; simp)
      rw [this]
      rfl
    | cons b ks =>
      exfalso
      have ha := hall a (by simp)
      have hb := hall b (by simp)
      rw [ha, hb] at hn
      simp at hn

set_option maxHeartbeats 4000000 in
set_option maxRecDepth 100000 in
theorem catalogKeyed_walk (A : Option Addr) (n c : Nat) (l : List Ev) (nm : ByteArray) (t : Int) (w : World) (ha : EvArg w A n c l) (hnm : nm.size ≤ 140737488355328) (hg : GlobAt w) :
    Calls Tryd.prog 7 #[.slice A n c, .string nm, .int .i64 t] w fun e w' => e = .returned (.bool true) ∧ Below w.heap.size w w' := by
  obtain ⟨hn, hl, hnb, hnil, hbd⟩ := ha
  have HW := Lib.hid (awake_any w hg)
  have HN := Lib.hid hn
  have HL := Lib.hid hl
  have HD := Lib.hid hbd
  have HG := Lib.hid hg
  have hgl := hg.1
  clear hn hl hbd hg
  go_enter Tryd.func7, Tryd.ntmps7
  go_wp2_with fail
  refine HW.out.mono ?_
  rintro e w1 ⟨rfl, hb1⟩
  have HL1 : Hid (EvsAt w1 w.heap.size A l) := Lib.hid (HL.out.below hb1)
  have HFW := Lib.hid (few_any w1 w.heap.size A l n c HN.out HL1.out hb1.size hnb HD.out)
  have HB1 := Lib.hid hb1
  clear HW hb1
  go_wp2_with fail
  refine HFW.out.mono ?_
  rintro e w2 ⟨bf, rfl, hbf, q, hw2⟩
  have HB2 : Hid (Below w.heap.size w w2) := Lib.hid (by rw [hw2]; exact below_drewN HB1.out _)
  clear HFW hw2 HB1 HL1
  cases bf
  · go_wp2_with fail
    go_ret
    exact ⟨rfl, HB2.out⟩
  obtain ⟨h61, hfew⟩ := hbf rfl
  have HFEW := Lib.hid hfew
  clear hbf hfew
  by_cases gnm : (300 : Int) < (nm.size : Int)
  · go_wp2_with fail
    go_ret
    exact ⟨rfl, HB2.out⟩
  have HL2 : Hid (EvsAt w2 w.heap.size A l) := Lib.hid (HL.out.below HB2.out)
  have HMD := Lib.hid (made_any w2 w.heap.size A l n c HN.out HL2.out HB2.out.size (by omega) (fun e he => (HFEW.out e he).sh) (HG.out.keep HB2.out (Nat.le_refl _)))
  go_wp2_with fail
  refine HMD.out.mono ?_
  rintro e w3 ⟨hres, hb3⟩
  have HB3 : Hid (Below w.heap.size w w3) := Lib.hid (HB2.out.trans (hb3.mono HB2.out.size))
  clear HMD hb3 HL2 HB2
  rcases hres with ⟨_, rfl⟩ | ⟨hmade, cb, F, rfl, hcat, hF⟩
  · go_wp2_with fail
    go_ret
    exact ⟨rfl, HB3.out⟩
  have HMADE := Lib.hid hmade
  have HC3 := Lib.hid hcat
  have HLE : Hid (l.length ≤ 1000000) := Lib.hid (by rw [HN.out]; omega)
  clear hcat hF hmade
  obtain ⟨i0, hi0, hz0, hz1, hz2⟩ := info_parts ev_info
  go_wp2_with fail
  go_loopw [8, 9] (fun s i wr => ∃ (k : Nat), k ≤ n ∧ i = .int .i64 k ∧ Hid (((l.take k).filter (fun e => decide (e.item = nm))).length ≤ k) ∧ Hid (wr.ownsRow w3.heap.size 36 8 s ((l.take k).filter (fun e => decide (e.item = nm))).length (((l.take k).filter (fun e => decide (e.item = nm))).flatMap evC)) ∧ Hid (Below w3.heap.size w3 wr)) (fun _ i _ => n - (intOf i).toNat)
  case atStart => exact ⟨0, Nat.zero_le _, rfl, Lib.hid (by simp), Lib.hid (own_nil _ _ _ _), Lib.hid (Below.refl _ _)⟩
  case round =>
    obtain ⟨k, hk, rfl, hol, hrow, hbw⟩ := hrel
    obtain ⟨A5, c5, hr⟩ := own_shape hrow.out
    rw [hr] at hrow ⊢
    clear hr
    have hwz := hbw.out.size
    by_cases hlt : k < n
    · obtain ⟨x, hx⟩ : ∃ x, l[k]? = some x := ⟨l[k]'(by rw [HN.out]; exact hlt), List.getElem?_eq_getElem _⟩
      obtain ⟨g, o, rfl, hgB, hcl⟩ := HL.out.at (by rw [HN.out]; omega)
      have HBW : Hid (Below w.heap.size w wr) := Lib.hid (HB3.out.trans (hbw.out.mono HB3.out.size))
      obtain ⟨e0, e1, e2, e3, e4, e5, e6, e7⟩ : EvAt wr g (o + k * 8) x := (hcl k x hx).keep (fun j => HBW.out.cell (p := ⟨g, j, none⟩) hgB)
      have htk : l.take (k + 1) = l.take k ++ [x] := by rw [List.take_add_one, hx]; rfl
      have HTK : Hid ((l.take (k + 1)).filter (fun e => decide (e.item = nm)) = (l.take k).filter (fun e => decide (e.item = nm)) ++ [x].filter (fun e => decide (e.item = nm))) := Lib.hid (by rw [htk, List.filter_append])
      have hk8 : (k : Int) < (n : Int) := by omega
      have hk9 : (0 : Int) ≤ (k : Int) := by omega
      clear hcl hx htk
      have hol' := hol.out
      generalize (l.take k).filter (fun e => decide (e.item = nm)) = out at *
      obtain ⟨m, hm⟩ : ∃ m, out.length = m := ⟨_, rfl⟩
      rw [hm] at hol' hrow ⊢
      have HM := Lib.hid hm
      clear hm
      by_cases hc : x.item = nm
      rotate_left
      · have HF : Hid ([x].filter (fun e => decide (e.item = nm)) = []) := Lib.hid (by simp [hc])
        have q1 : (x.item.toList == nm.toList) = false := Bool.eq_false_iff.2 (fun e => hc ((beq_list x.item nm).1 e))
        clear hc
        go_wp2_with fail
        go_roundw
        case rel =>
          refine ⟨k + 1, by omega, by go_num, Lib.hid ?_, Lib.hid ?_, hbw⟩
          · rw [HTK.out, HF.out, List.append_nil, HM.out]; omega
          · rw [HTK.out, HF.out, List.append_nil, HM.out]; exact hrow.out
        case measure => simp [intOf]; omega
      · have HF : Hid ([x].filter (fun e => decide (e.item = nm)) = [x]) := Lib.hid (by simp [hc])
        have q1 : (x.item.toList == nm.toList) = true := (beq_list x.item nm).2 hc
        clear hc
        go_wp2_with (first
          | (at_builtin; refine wpList_append_row _ rfl _ _ 22 rfl w3.heap.size 36 i0 _ 8 96 Tryd.underlying22 hi0 hz0 hz1 hz2 rfl (by omega) (.slice A5 m c5) m _ rfl (hrow.out.alloc _) (wr.heap.size + 1) (some ⟨wr.heap.size, 0, none⟩) 1 1 (evC x) rfl (one_ev wr x _) (fun h => by cases h) (fun u hu => evC_one [x] u (by simpa using hu)) (by unfold maxLen; omega) (by omega) (by simp; omega) ?_; intro v7 w7 ho7 hg7 hv7))
        go_roundw
        case rel =>
          refine ⟨k + 1, by omega, by go_num, Lib.hid ?_, Lib.hid ?_, Lib.hid ((hbw.out.alloc hwz _).grown hg7 (by simp; omega) (fun j hj => (hrow.out.lt _ hj).1))⟩
          · rw [HTK.out, HF.out, List.length_append, HM.out]; simp; omega
          · rw [HTK.out, HF.out, List.length_append, HM.out, List.flatMap_append]
            have : [x].flatMap evC = evC x := by simp
            rw [this]
            exact ho7
        case measure => simp [intOf]; omega
    · obtain rfl : n = k := by omega
      have htl : l.take n = l := by rw [← HN.out, List.take_length]
      rw [htl] at hrow hol ⊢
      clear htl
      have HBW : Hid (Below w.heap.size w wr) := Lib.hid (HB3.out.trans (hbw.out.mono HB3.out.size))
      have HC4 : Hid (CatAt wr cb F l) := Lib.hid (HC3.out.below hbw.out)
      have HSUB : Hid (List.Sublist (l.filter (fun e => decide (e.item = nm))) l) := Lib.hid List.filter_sublist
      obtain ⟨L2, hL2⟩ : ∃ L2, l.filter (fun e => decide (e.item = nm)) = L2 := ⟨_, rfl⟩
      rw [hL2] at hrow HSUB hol ⊢
      have HFI := Lib.hid hL2
      have HMD2 := Lib.hid (made_any wr wr.heap.size A5 L2 L2.length c5 rfl (by have := RowIn.of_own hrow.out; exact this) (Nat.le_refl _) (by have := hol.out; omega) (fun e he => (HFEW.out e (HSUB.out.subset he)).sh) (HG.out.keep HBW.out (Nat.le_refl _)))
      have HM2 := Lib.hid (made_sub HMADE.out HSUB.out)
      have HLE2 : Hid (L2.length ≤ 1000000) := Lib.hid (by have := hol.out; omega)
      clear hL2 hrow hol
      generalize L2.length = n2 at HMD2 ⊢
      obtain ⟨w4, rfl⟩ : ∃ w4 : World, w4 = wr := ⟨_, rfl⟩
      go_wp2_with fail
      refine HMD2.out.mono ?_
      rintro e w5 ⟨hres, hb5⟩
      have HB5 : Hid (Below w.heap.size w w5) := Lib.hid (HBW.out.trans (hb5.mono HBW.out.size))
      have HC5 : Hid (CatAt w5 cb F l) := Lib.hid (HC4.out.below hb5)
      clear HMD2 hb5 HC4 HC3 HB3 hbw hwz
      rcases hres with ⟨hf, _⟩ | ⟨_, db, F', rfl, hcat2, hF2⟩
      · rw [HM2.out] at hf; cases hf
      have HD5 := Lib.hid hcat2
      clear hcat2 hF2
      have HAO : Hid (atP L2 nm t = atP l nm t) := Lib.hid (by rw [← HFI.out]; exact at_own l nm t)
      have HCO : Hid (chgP L2 nm = chgP l nm) := Lib.hid (by rw [← HFI.out]; exact chg_own l nm)
      have HIT : Hid (∀ e ∈ L2, e.item = nm) := Lib.hid (fun e he => by rw [← HFI.out] at he; simpa using (List.mem_filter.1 he).2)
      have HAa := Lib.hid (at_any cb F l nm t w5 HC5.out (by omega) HLE.out)
      unfold toldP itA at HAa
      generalize hxa : (atP l nm t).getD it0 = xa at HAa
      generalize hoa : (atP l nm t).isSome = oka at HAa
      have HXa := Lib.hid hxa
      have HOKa := Lib.hid hoa
      clear hxa hoa
      go_wp2_with fail
      refine HAa.out.mono ?_
      rintro e w6 ⟨rfl, hb⟩
      have HB6 : Hid (Below w.heap.size w w6) := Lib.hid (HB5.out.trans (hb.mono HB5.out.size))
      have HC6 : Hid (CatAt w6 cb F l) := Lib.hid (HC5.out.below hb)
      have HD6 : Hid (CatAt w6 db F' L2) := Lib.hid (HD5.out.below hb)
      clear HAa hb
      go_wp2_with fail
      obtain ⟨w7, hw7⟩ : ∃ w7, w6.alloc (.cells #[.string xa.name, .string xa.maker, .string xa.tags, .int .i64 xa.stock, .int .i64 xa.price, .int .i64 xa.born, .bool xa.listed] 30) = w7 := ⟨_, rfl⟩
      rw [hw7]
      have HB7 : Hid (Below w.heap.size w w7) := Lib.hid (by rw [← hw7]; exact HB6.out.alloc HB6.out.size _)
      have hbb : Below w6.heap.size w6 w7 := by rw [← hw7]; exact (Below.refl _ _).alloc (Nat.le_refl _) _
      have HC7 : Hid (CatAt w7 cb F l) := Lib.hid (HC6.out.below hbb)
      have HD7 : Hid (CatAt w7 db F' L2) := Lib.hid (HD6.out.below hbb)
      have HIa7 : Hid (Blk w7 w6.heap.size 30 (itArr xa)) := Lib.hid (by rw [← hw7]; exact Blk.new _ _ _)
      clear hbb hw7
      have HAb := Lib.hid (at_any db F' L2 nm t w7 HD7.out (by omega) HLE2.out)
      unfold toldP itA at HAb
      generalize hxb : (atP L2 nm t).getD it0 = xb at HAb
      generalize hob : (atP L2 nm t).isSome = okb at HAb
      have HXb := Lib.hid hxb
      have HOKb := Lib.hid hob
      clear hxb hob
      go_wp2_with fail
      refine HAb.out.mono ?_
      rintro e w8 ⟨rfl, hb⟩
      have HB8 : Hid (Below w.heap.size w w8) := Lib.hid (HB7.out.trans (hb.mono HB7.out.size))
      have HC8 : Hid (CatAt w8 cb F l) := Lib.hid (HC7.out.below hb)
      have HD8 : Hid (CatAt w8 db F' L2) := Lib.hid (HD7.out.below hb)
      have HIa8 : Hid (Blk w8 w6.heap.size 30 (itArr xa)) := Lib.hid ((hb.block _ HIa7.out.lt).trans HIa7.out)
      clear HAb hb
      obtain ⟨w9, hw9⟩ : ∃ w9, w8.alloc (.cells #[.string xb.name, .string xb.maker, .string xb.tags, .int .i64 xb.stock, .int .i64 xb.price, .int .i64 xb.born, .bool xb.listed] 30) = w9 := ⟨_, rfl⟩
      have HB9 : Hid (Below w.heap.size w w9) := Lib.hid (by rw [← hw9]; exact HB8.out.alloc HB8.out.size _)
      have hbb : Below w8.heap.size w8 w9 := by rw [← hw9]; exact (Below.refl _ _).alloc (Nat.le_refl _) _
      have HC9 : Hid (CatAt w9 cb F l) := Lib.hid (HC8.out.below hbb)
      have HD9 : Hid (CatAt w9 db F' L2) := Lib.hid (HD8.out.below hbb)
      have HIa9 : Hid (Blk w9 w6.heap.size 30 (itArr xa)) := Lib.hid ((hbb.block _ HIa8.out.lt).trans HIa8.out)
      have HIb9 : Hid (Blk w9 w8.heap.size 30 (itArr xb)) := Lib.hid (by rw [← hw9]; exact Blk.new _ _ _)
      clear hbb
      obtain rfl : xa = xb := by rw [← HXa.out, ← HXb.out, HAO.out]
      obtain rfl : oka = okb := by rw [← HOKa.out, ← HOKb.out, HAO.out]
      have HNX : Hid (∀ ks, IsNames (whB L2 t (fun x => true)) ks → ks.length ≤ 1 ∧ ((ks.length : Int) == 1) = xa.listed) := Lib.hid (fun ks hk => by have := own_names HIT.out hk; rw [HXb.out] at this; exact this)
      have hxx := itB_rfl xa
      have hoo : (oka == oka) = true := by simp
      have hll : (xa.listed == xa.listed) = true := by simp
      have l1 := HIa9.out.lt
      have l2 := HIb9.out.lt
      have HK9 : Hid (KyS w9 w6.heap.size w8.heap.size xa xa) := Lib.hid ⟨HIa9.out.cell 0, HIa9.out.cell 1, HIa9.out.cell 2, HIa9.out.cell 3, HIa9.out.cell 4, HIa9.out.cell 5, HIa9.out.cell 6, HIb9.out.cell 0, HIb9.out.cell 1, HIb9.out.cell 2, HIb9.out.cell 3, HIb9.out.cell 4, HIb9.out.cell 5, HIb9.out.cell 6⟩
      have HKR : Hid (World.cell? w9.drew ⟨w6.heap.size, 0, none⟩ = some (.string xa.name) ∧ World.cell? w9.drew ⟨w6.heap.size, 1, none⟩ = some (.string xa.maker) ∧ World.cell? w9.drew ⟨w6.heap.size, 2, none⟩ = some (.string xa.tags) ∧ World.cell? w9.drew ⟨w6.heap.size, 3, none⟩ = some (.int .i64 xa.stock) ∧ World.cell? w9.drew ⟨w6.heap.size, 4, none⟩ = some (.int .i64 xa.price) ∧ World.cell? w9.drew ⟨w6.heap.size, 5, none⟩ = some (.int .i64 xa.born) ∧ World.cell? w9.drew ⟨w6.heap.size, 6, none⟩ = some (.bool xa.listed) ∧ World.cell? w9.drew ⟨w8.heap.size, 0, none⟩ = some (.string xa.name) ∧ World.cell? w9.drew ⟨w8.heap.size, 1, none⟩ = some (.string xa.maker) ∧ World.cell? w9.drew ⟨w8.heap.size, 2, none⟩ = some (.string xa.tags) ∧ World.cell? w9.drew ⟨w8.heap.size, 3, none⟩ = some (.int .i64 xa.stock) ∧ World.cell? w9.drew ⟨w8.heap.size, 4, none⟩ = some (.int .i64 xa.price) ∧ World.cell? w9.drew ⟨w8.heap.size, 5, none⟩ = some (.int .i64 xa.born) ∧ World.cell? w9.drew ⟨w8.heap.size, 6, none⟩ = some (.bool xa.listed)) := Lib.hid (HK9.out.keep (W' := w9.drew) ⟨rfl, rfl, rfl, Nat.le_refl _, fun _ _ => rfl⟩ l1 l2)
      have HE1 := Lib.hid (changes_any cb F l nm w9.drew (HC9.out.below ⟨rfl, rfl, rfl, Nat.le_refl _, fun _ _ => rfl⟩) (by omega) HLE.out)
      have hcl1 : (chgP l nm).length ≤ 1000000 := by have h1 := chgL_len ((rowOf l nm).map (·.tick)); have h2 := rowOf_le l nm; have h3 := HLE.out; rw [List.length_map] at h1; unfold chgP; omega
      go_wp2_with fail
      clear hw9
      go_region_held3 (fun W => World.cell? W ⟨w6.heap.size, 0, none⟩ = some (.string xa.name) ∧ World.cell? W ⟨w6.heap.size, 1, none⟩ = some (.string xa.maker) ∧ World.cell? W ⟨w6.heap.size, 2, none⟩ = some (.string xa.tags) ∧ World.cell? W ⟨w6.heap.size, 3, none⟩ = some (.int .i64 xa.stock) ∧ World.cell? W ⟨w6.heap.size, 4, none⟩ = some (.int .i64 xa.price) ∧ World.cell? W ⟨w6.heap.size, 5, none⟩ = some (.int .i64 xa.born) ∧ World.cell? W ⟨w6.heap.size, 6, none⟩ = some (.bool xa.listed) ∧ World.cell? W ⟨w8.heap.size, 0, none⟩ = some (.string xa.name) ∧ World.cell? W ⟨w8.heap.size, 1, none⟩ = some (.string xa.maker) ∧ World.cell? W ⟨w8.heap.size, 2, none⟩ = some (.string xa.tags) ∧ World.cell? W ⟨w8.heap.size, 3, none⟩ = some (.int .i64 xa.stock) ∧ World.cell? W ⟨w8.heap.size, 4, none⟩ = some (.int .i64 xa.price) ∧ World.cell? W ⟨w8.heap.size, 5, none⟩ = some (.int .i64 xa.born) ∧ World.cell? W ⟨w8.heap.size, 6, none⟩ = some (.bool xa.listed))
        (first | with_reducible exact HKR.out | with_reducible exact HK10.out | with_reducible exact HK11.out | with_reducible exact HK12.out | with_reducible exact HK13.out | with_reducible exact HK14.out)
        (first
         | (go_at_call 12; refine HE1.out.mono ?_; clear HE1; rintro e w10 ⟨A10, c10, rfl, hr10, hb10⟩; have hb10' : Below w9.heap.size w9 w10 := ⟨hb10.os, hb10.tape, hb10.output, hb10.size, hb10.block⟩; have HB10 : Hid (Below w.heap.size w w10) := Lib.hid (HB9.out.trans (hb10'.mono HB9.out.size)); have HD10 : Hid (CatAt w10 db F' L2) := Lib.hid (HD9.out.below hb10'); have HK10 : Hid (World.cell? w10 ⟨w6.heap.size, 0, none⟩ = some (.string xa.name) ∧ World.cell? w10 ⟨w6.heap.size, 1, none⟩ = some (.string xa.maker) ∧ World.cell? w10 ⟨w6.heap.size, 2, none⟩ = some (.string xa.tags) ∧ World.cell? w10 ⟨w6.heap.size, 3, none⟩ = some (.int .i64 xa.stock) ∧ World.cell? w10 ⟨w6.heap.size, 4, none⟩ = some (.int .i64 xa.price) ∧ World.cell? w10 ⟨w6.heap.size, 5, none⟩ = some (.int .i64 xa.born) ∧ World.cell? w10 ⟨w6.heap.size, 6, none⟩ = some (.bool xa.listed) ∧ World.cell? w10 ⟨w8.heap.size, 0, none⟩ = some (.string xa.name) ∧ World.cell? w10 ⟨w8.heap.size, 1, none⟩ = some (.string xa.maker) ∧ World.cell? w10 ⟨w8.heap.size, 2, none⟩ = some (.string xa.tags) ∧ World.cell? w10 ⟨w8.heap.size, 3, none⟩ = some (.int .i64 xa.stock) ∧ World.cell? w10 ⟨w8.heap.size, 4, none⟩ = some (.int .i64 xa.price) ∧ World.cell? w10 ⟨w8.heap.size, 5, none⟩ = some (.int .i64 xa.born) ∧ World.cell? w10 ⟨w8.heap.size, 6, none⟩ = some (.bool xa.listed)) := Lib.hid (KyS.keep HK9.out hb10' l1 l2); have HR10 := Lib.hid hr10; have l110 : w6.heap.size < w10.heap.size := Nat.lt_of_lt_of_le l1 hb10'.size; have l210 : w8.heap.size < w10.heap.size := Nat.lt_of_lt_of_le l2 hb10'.size; have HE2 := Lib.hid (changes_any db F' L2 nm w10 HD10.out (by omega) HLE2.out); clear hr10 hb10 hb10')
         | (go_at_call 12; refine HE2.out.mono ?_; clear HE2; rintro e w11 ⟨A11, c11, rfl, hr11, hb11⟩; have HB11 : Hid (Below w.heap.size w w11) := Lib.hid (HB10.out.trans (hb11.mono HB10.out.size)); have HD11 : Hid (CatAt w11 db F' L2) := Lib.hid (HD10.out.below hb11); have HK11 : Hid (World.cell? w11 ⟨w6.heap.size, 0, none⟩ = some (.string xa.name) ∧ World.cell? w11 ⟨w6.heap.size, 1, none⟩ = some (.string xa.maker) ∧ World.cell? w11 ⟨w6.heap.size, 2, none⟩ = some (.string xa.tags) ∧ World.cell? w11 ⟨w6.heap.size, 3, none⟩ = some (.int .i64 xa.stock) ∧ World.cell? w11 ⟨w6.heap.size, 4, none⟩ = some (.int .i64 xa.price) ∧ World.cell? w11 ⟨w6.heap.size, 5, none⟩ = some (.int .i64 xa.born) ∧ World.cell? w11 ⟨w6.heap.size, 6, none⟩ = some (.bool xa.listed) ∧ World.cell? w11 ⟨w8.heap.size, 0, none⟩ = some (.string xa.name) ∧ World.cell? w11 ⟨w8.heap.size, 1, none⟩ = some (.string xa.maker) ∧ World.cell? w11 ⟨w8.heap.size, 2, none⟩ = some (.string xa.tags) ∧ World.cell? w11 ⟨w8.heap.size, 3, none⟩ = some (.int .i64 xa.stock) ∧ World.cell? w11 ⟨w8.heap.size, 4, none⟩ = some (.int .i64 xa.price) ∧ World.cell? w11 ⟨w8.heap.size, 5, none⟩ = some (.int .i64 xa.born) ∧ World.cell? w11 ⟨w8.heap.size, 6, none⟩ = some (.bool xa.listed)) := Lib.hid (KyS.keep HK10.out hb11 l110 l210); have HR11 := Lib.hid hr11; have HR10' : Hid (RowIn w11 w10.heap.size 1 A10 (chgP l nm).length ((chgP l nm).map (.int .i64))) := Lib.hid (HR10.out.below hb11); have l111 : w6.heap.size < w11.heap.size := Nat.lt_of_lt_of_le l110 hb11.size; have l211 : w8.heap.size < w11.heap.size := Nat.lt_of_lt_of_le l210 hb11.size; have HE3 := Lib.hid (ints_any w11 A10 A11 (chgP l nm) (chgP L2 nm) _ _ c10 c11 _ _ rfl rfl HR10'.out HR11.out hcl1); clear hr11 hb11)
         | (go_at_call 22; refine HE3.out.mono ?_; clear HE3; rintro e w12 ⟨bt, rfl, hbt, q12, hw12⟩; obtain rfl : bt = true := hbt.2 HCO.out.symm; have hb12 : Below w11.heap.size w11 w12 := (by rw [hw12]; exact below_drewN (Below.refl _ _) _); have HB12 : Hid (Below w.heap.size w w12) := Lib.hid (HB11.out.trans (hb12.mono HB11.out.size)); have HD12 : Hid (CatAt w12 db F' L2) := Lib.hid (HD11.out.below hb12); have HK12 : Hid (World.cell? w12 ⟨w6.heap.size, 0, none⟩ = some (.string xa.name) ∧ World.cell? w12 ⟨w6.heap.size, 1, none⟩ = some (.string xa.maker) ∧ World.cell? w12 ⟨w6.heap.size, 2, none⟩ = some (.string xa.tags) ∧ World.cell? w12 ⟨w6.heap.size, 3, none⟩ = some (.int .i64 xa.stock) ∧ World.cell? w12 ⟨w6.heap.size, 4, none⟩ = some (.int .i64 xa.price) ∧ World.cell? w12 ⟨w6.heap.size, 5, none⟩ = some (.int .i64 xa.born) ∧ World.cell? w12 ⟨w6.heap.size, 6, none⟩ = some (.bool xa.listed) ∧ World.cell? w12 ⟨w8.heap.size, 0, none⟩ = some (.string xa.name) ∧ World.cell? w12 ⟨w8.heap.size, 1, none⟩ = some (.string xa.maker) ∧ World.cell? w12 ⟨w8.heap.size, 2, none⟩ = some (.string xa.tags) ∧ World.cell? w12 ⟨w8.heap.size, 3, none⟩ = some (.int .i64 xa.stock) ∧ World.cell? w12 ⟨w8.heap.size, 4, none⟩ = some (.int .i64 xa.price) ∧ World.cell? w12 ⟨w8.heap.size, 5, none⟩ = some (.int .i64 xa.born) ∧ World.cell? w12 ⟨w8.heap.size, 6, none⟩ = some (.bool xa.listed)) := Lib.hid (KyS.keep HK11.out hb12 l111 l211); have l112 : w6.heap.size < w12.heap.size := Nat.lt_of_lt_of_le l111 hb12.size; have l212 : w8.heap.size < w12.heap.size := Nat.lt_of_lt_of_le l211 hb12.size; have HE4 := Lib.hid (names_any db F' L2 t w12 HD12.out HLE2.out); clear hbt hw12 hb12)
         | (go_at_call 15; refine HE4.out.mono ?_; clear HE4; rintro e w13 ⟨A13, c13, k13, rfl, hi13, hl13, hr13, hb13⟩; have HB13 : Hid (Below w.heap.size w w13) := Lib.hid (HB12.out.trans (hb13.mono HB12.out.size)); have HD13 : Hid (CatAt w13 db F' L2) := Lib.hid (HD12.out.below hb13); have HK13 : Hid (World.cell? w13 ⟨w6.heap.size, 0, none⟩ = some (.string xa.name) ∧ World.cell? w13 ⟨w6.heap.size, 1, none⟩ = some (.string xa.maker) ∧ World.cell? w13 ⟨w6.heap.size, 2, none⟩ = some (.string xa.tags) ∧ World.cell? w13 ⟨w6.heap.size, 3, none⟩ = some (.int .i64 xa.stock) ∧ World.cell? w13 ⟨w6.heap.size, 4, none⟩ = some (.int .i64 xa.price) ∧ World.cell? w13 ⟨w6.heap.size, 5, none⟩ = some (.int .i64 xa.born) ∧ World.cell? w13 ⟨w6.heap.size, 6, none⟩ = some (.bool xa.listed) ∧ World.cell? w13 ⟨w8.heap.size, 0, none⟩ = some (.string xa.name) ∧ World.cell? w13 ⟨w8.heap.size, 1, none⟩ = some (.string xa.maker) ∧ World.cell? w13 ⟨w8.heap.size, 2, none⟩ = some (.string xa.tags) ∧ World.cell? w13 ⟨w8.heap.size, 3, none⟩ = some (.int .i64 xa.stock) ∧ World.cell? w13 ⟨w8.heap.size, 4, none⟩ = some (.int .i64 xa.price) ∧ World.cell? w13 ⟨w8.heap.size, 5, none⟩ = some (.int .i64 xa.born) ∧ World.cell? w13 ⟨w8.heap.size, 6, none⟩ = some (.bool xa.listed)) := Lib.hid (KyS.keep HK12.out hb13 l112 l212); have l113 : w6.heap.size < w13.heap.size := Nat.lt_of_lt_of_le l112 hb13.size; have l213 : w8.heap.size < w13.heap.size := Nat.lt_of_lt_of_le l212 hb13.size; obtain ⟨h131, h132⟩ := HNX.out k13 hi13; have h133 : decide ((k13.length : Int) ≤ 1) = true := decide_eq_true (by omega); have h134 : decide (k13.length ≤ 1) = true := decide_eq_true h131; have HE5 := Lib.hid (names_any db F' L2 t w13 HD13.out HLE2.out); clear hr13 hb13 hi13 hl13)
         | (go_at_call 15; refine HE5.out.mono ?_; clear HE5; rintro e w14 ⟨A14, c14, k14, rfl, hi14, hl14, hr14, hb14⟩; have HB14 : Hid (Below w.heap.size w w14) := Lib.hid (HB13.out.trans (hb14.mono HB13.out.size)); have HK14 : Hid (World.cell? w14 ⟨w6.heap.size, 0, none⟩ = some (.string xa.name) ∧ World.cell? w14 ⟨w6.heap.size, 1, none⟩ = some (.string xa.maker) ∧ World.cell? w14 ⟨w6.heap.size, 2, none⟩ = some (.string xa.tags) ∧ World.cell? w14 ⟨w6.heap.size, 3, none⟩ = some (.int .i64 xa.stock) ∧ World.cell? w14 ⟨w6.heap.size, 4, none⟩ = some (.int .i64 xa.price) ∧ World.cell? w14 ⟨w6.heap.size, 5, none⟩ = some (.int .i64 xa.born) ∧ World.cell? w14 ⟨w6.heap.size, 6, none⟩ = some (.bool xa.listed) ∧ World.cell? w14 ⟨w8.heap.size, 0, none⟩ = some (.string xa.name) ∧ World.cell? w14 ⟨w8.heap.size, 1, none⟩ = some (.string xa.maker) ∧ World.cell? w14 ⟨w8.heap.size, 2, none⟩ = some (.string xa.tags) ∧ World.cell? w14 ⟨w8.heap.size, 3, none⟩ = some (.int .i64 xa.stock) ∧ World.cell? w14 ⟨w8.heap.size, 4, none⟩ = some (.int .i64 xa.price) ∧ World.cell? w14 ⟨w8.heap.size, 5, none⟩ = some (.int .i64 xa.born) ∧ World.cell? w14 ⟨w8.heap.size, 6, none⟩ = some (.bool xa.listed)) := Lib.hid (KyS.keep HK13.out hb14 l113 l213); obtain ⟨h141, h142⟩ := HNX.out k14 hi14; clear hr14 hb14 hi14 hl14))
      go_wp2_with fail
      go_ret
      exact ⟨rfl, HB14.out⟩

end Go.Proofs.YtpnfnmpohacnoaaDoor
