/- CrowdApart: the walk. -/
import Derived.Test.YtnkglbiakjnfjaaDoorCrApartP
namespace Go.Proofs.YtnkglbiakjnfjaaDoor
open Go.Shelf Go.RowKit Go.Maps
set_option linter.unusedVariables false

theorem ownC_take_rise {rs : List Rw} {p : ByteArray} {k : Nat} {x : Rw} (h : RiseE (evsR rs)) (hx : (ownC rs p)[k]? = some x) : RiseE (evsR ((ownC rs p).take k ++ [x])) := by
  rw [← take_snoc hx]
  unfold RiseE evsR at *
  rw [List.pairwise_map] at *
  exact (h.filter _).sublist (List.take_sublist _ _)

set_option maxHeartbeats 16000000 in
set_option maxRecDepth 100000 in
theorem crowdApart_walk (half : Int) (A : Option Addr) (n c : Nat) (l : List Ri) (ps it : ByteArray) (now : Int) (w : World) (ha : RwArg w A n c l) (hps : ps.size ≤ 140737488355328) (hit : it.size ≤ 140737488355328) (hg : GlobAt w) :
    Calls Tryd.prog 10 #[.int .i64 half, .slice A n c, .string ps, .string it, .int .i64 now] w fun e w' => e = .returned (.bool true) ∧ Below w.heap.size w w' := by
  have HLG := Lib.hid (long_any w A l n c ha)
  have HRW := Lib.hid ha
  have HG := Lib.hid hg
  have hpm : ps.size ≤ maxLen := by unfold maxLen; omega
  have him : it.size ≤ maxLen := by unfold maxLen; omega
  clear ha hg
  go_enter Tryd.func10, Tryd.ntmps10
  go_wp2_with fail
  refine HLG.out.mono ?_
  rintro e w1 ⟨bl, rfl, hbl, hb1⟩
  have HB1 := Lib.hid hb1
  have HW1 := Lib.hid (awake_any w1 (HG.out.keep hb1 (Nat.le_refl _)))
  clear HLG hb1
  cases bl
  rotate_left
  · go_wp2_with fail
    refine HW1.out.mono ?_
    rintro e w2 ⟨rfl, hb2⟩
    have HB2 : Hid (Below w.heap.size w w2) := Lib.hid (HB1.out.trans (hb2.mono HB1.out.size))
    go_wp2_with fail
    go_ret
    exact ⟨rfl, HB2.out⟩
  have hsm := hbl rfl
  have h40 := hsm.1
  clear hbl
  by_cases q1 : (60 : Int) < (ps.size : Int)
  · go_wp2_with fail
    refine HW1.out.mono ?_
    rintro e w2 ⟨rfl, hb2⟩
    have HB2 : Hid (Below w.heap.size w w2) := Lib.hid (HB1.out.trans (hb2.mono HB1.out.size))
    go_wp2_with fail
    go_ret
    exact ⟨rfl, HB2.out⟩
  have d1 : decide ((60 : Int) < (ps.size : Int)) = false := decide_eq_false q1
  by_cases q2 : (60 : Int) < (it.size : Int)
  · go_wp2_with fail
    refine HW1.out.mono ?_
    rintro e w2 ⟨rfl, hb2⟩
    have HB2 : Hid (Below w.heap.size w w2) := Lib.hid (HB1.out.trans (hb2.mono HB1.out.size))
    go_wp2_with fail
    go_ret
    exact ⟨rfl, HB2.out⟩
  have d2 : decide ((60 : Int) < (it.size : Int)) = false := decide_eq_false q2
  by_cases q3 : now < 0
  · go_wp2_with fail
    refine HW1.out.mono ?_
    rintro e w2 ⟨rfl, hb2⟩
    have HB2 : Hid (Below w.heap.size w w2) := Lib.hid (HB1.out.trans (hb2.mono HB1.out.size))
    go_wp2_with fail
    go_ret
    exact ⟨rfl, HB2.out⟩
  have d3 : decide (now < 0) = false := decide_eq_false q3
  by_cases q4 : 2199023255552 < now
  · go_wp2_with fail
    refine HW1.out.mono ?_
    rintro e w2 ⟨rfl, hb2⟩
    have HB2 : Hid (Below w.heap.size w w2) := Lib.hid (HB1.out.trans (hb2.mono HB1.out.size))
    go_wp2_with fail
    go_ret
    exact ⟨rfl, HB2.out⟩
  have d4 : decide (2199023255552 < now) = false := decide_eq_false q4
  have HFI := Lib.hid (fill_any half A n c l w1 (rw_below HRW.out HB1.out) hsm (HG.out.keep HB1.out (Nat.le_refl _)))
  clear HW1 hsm
  go_wp2_with fail
  refine HFI.out.mono ?_
  rintro e w3 ⟨cb, A', n', c', rfl, hfi, hb3⟩
  have HB3 : Hid (Below w.heap.size w w3) := Lib.hid (HB1.out.trans (hb3.mono HB1.out.size))
  obtain ⟨U, V, xl, xs, hcr, hdo, hdj, huv, htw, hri, hev, hxl⟩ := fill_open hfi
  obtain ⟨hf, hhf⟩ : ∃ hf, halfP half = hf := ⟨_, rfl⟩
  have hh : 1 ≤ hf ∧ hf ≤ 1099511627776 := by rw [← hhf]; unfold halfP; omega
  obtain ⟨rs, hrs⟩ : ∃ rs, crowdOf (l.map rwOf) = rs := ⟨_, rfl⟩
  have hn40 : n' ≤ 40 := by
    have h1 := htw.len
    rw [hdo.len] at h1
    have h2 := crowdOf_len (l.map rwOf)
    rw [List.length_map, HRW.out.1] at h2
    omega
  have HRI : Hid (RiseE (evsR xs)) := Lib.hid (by rw [← htw.evs]; exact riseE_of (rise_crowd _))
  rw [hhf, hrs] at hcr
  rw [hrs] at htw
  have HRL : Hid (rs.length ≤ 1000) := Lib.hid (by rw [htw.len, hdo.len]; omega)
  have HNEW := Lib.hid (by have := new_any half w3; rw [hhf] at this; exact this)
  have HXS : Hid (∀ y ∈ xs, crB y.e = true ∧ EvSh y.e ∧ (∀ t ∈ y.ts, t.size ≤ maxLen) ∧ y.ts.length ≤ 1000) := Lib.hid (fun y hy => by
    obtain ⟨r, hr, hw⟩ := htw.mem y hy
    have hnm : ∀ t ∈ y.ts, nameB t = true := fun t ht => hcr.tg r hr t ((hw.2.2.2 t).2 ht)
    exact ⟨by rw [← hw.1]; exact hcr.may r hr, by rw [← hw.1]; exact hcr.sh r hr, fun t ht => Nat.le_trans (name_size (hnm t ht)) (by unfold maxLen; omega), (hri y hy).2⟩)
  have HAP : Hid (ApartIs rs (apD (ownC xs ps)) ps) := Lib.hid (apart_is htw hcr.tg)
  have HCR : Hid (∀ W, Below w3.heap.size w3 W → CrAt W cb hf U rs) := Lib.hid (fun W hW => hcr.below hW)
  have HDO := Lib.hid hdo
  have HXL := Lib.hid hxl
  have HGW : Hid (∀ W, Below w3.heap.size w3 W → GlobAt W) := Lib.hid (fun W hW => HG.out.keep (HB3.out.trans (hW.mono HB3.out.size)) (Nat.le_refl _))
  clear hb3 hfi hcr hdo hdj huv htw hri hev hxl hhf hrs HFI
  go_wp2_with fail
  refine HNEW.out.mono ?_
  rintro e w4 ⟨db, U4, rfl, hc4, hu4, hb4⟩
  have HB4 := Lib.hid hb4
  have HC4 := Lib.hid hc4
  have HU4 : Hid (∀ q, U4 q → w3.heap.size ≤ q ∧ q < w4.heap.size) := Lib.hid (fun q hq => ⟨hu4 q hq, hc4.lt q hq⟩)
  have HOW := Lib.hid (own_any w4 w3.heap.size A' n' c' xl ps HXL.out ((RowIn.of_own HDO.out.own).below hb4) hb4.size (by omega))
  clear hb4 hc4 hu4 HNEW
  go_wp2_with fail
  refine HOW.out.mono ?_
  rintro e w5 ⟨A5, N, c5, rfl, hn5, hnn, ho5, hb5⟩
  have HO5 := Lib.hid ho5
  have HB5 : Hid (Below w3.heap.size w3 w5) := Lib.hid (HB4.out.trans (hb5.mono HB4.out.size))
  have HC5 : Hid (CrAt w5 db hf U4 []) := Lib.hid (HC4.out.below hb5)
  have HZ5 : Hid (w4.heap.size ≤ w5.heap.size ∧ w3.heap.size ≤ w4.heap.size) := Lib.hid ⟨hb5.size, HB4.out.size⟩
  have HDD : Hid (DdsIs w3 (ownR xl ps) (ownC xs ps)) := Lib.hid (DdsIs.ownA HDO.out.rel)
  have HNL : Hid ((ownC xs ps).length = N) := Lib.hid (by rw [← HDD.out.1, hn5])
  have HXO : Hid (∀ y ∈ ownC xs ps, crB y.e = true ∧ EvSh y.e ∧ (∀ t ∈ y.ts, t.size ≤ maxLen) ∧ y.ts.length ≤ 1000) := Lib.hid (fun y hy => HXS.out y (ownC_mem.1 hy).1)
  have HRS : Hid (∀ (k : Nat) x, (ownC xs ps)[k]? = some x → RiseE (evsR ((ownC xs ps).take k ++ [x]))) := Lib.hid (fun k x hx => ownC_take_rise HRI.out hx)
  obtain ⟨lo, hlo⟩ : ∃ lo, ownC xs ps = lo := ⟨_, rfl⟩
  obtain ⟨ol, hol⟩ : ∃ ol, ownR xl ps = ol := ⟨_, rfl⟩
  rw [hlo] at HDD HNL HXO HRS HAP
  rw [hol] at HDD HO5
  clear hn5 ho5 hb5 HOW HC4 hlo hol HXS HRI
  go_wp2_with fail
  go_loopw [55] (fun i wr => ∃ k : Nat, k ≤ N ∧ i = .int .i64 k ∧ Hid (∃ Ud : Nat → Prop, CrAt wr db hf Ud (apD (lo.take k)) ∧ ∀ q, Ud q → w3.heap.size ≤ q ∧ (q < w4.heap.size ∨ w5.heap.size ≤ q)) ∧ Hid (Kept (fun q => w3.heap.size ≤ q ∧ (q < w4.heap.size ∨ w5.heap.size ≤ q)) w5 wr)) (fun i _ => N - (intOf i).toNat)
  case atStart => exact ⟨0, Nat.zero_le _, rfl, Lib.hid ⟨U4, HC5.out, fun q hq => ⟨(HU4.out q hq).1, Or.inl (HU4.out q hq).2⟩⟩, Lib.hid (Kept.refl _ _)⟩
  case round =>
    clear HC5 HU4
    obtain ⟨k, hk, rfl, hcd, hkw⟩ := hrel
    have HBw : Hid (Below w3.heap.size w3 wr) := Lib.hid (HB5.out.trans (hkw.out.toBelow (B := w3.heap.size) (fun q hq => hq.1) HB5.out.size))
    have HZw := Lib.hid hkw.out.size
    by_cases hlt : k < N
    · obtain ⟨y, hy⟩ : ∃ y, lo[k]? = some y := ⟨lo[k]'(by rw [HNL.out]; exact hlt), List.getElem?_eq_getElem _⟩
      obtain ⟨x, hx, hxe, hxn, hxo⟩ := HDD.out.at hy
      have HYX := Lib.hid (HXO.out y (List.mem_of_getElem? hy))
      have HTK : Hid (lo.take (k + 1) = lo.take k ++ [y]) := Lib.hid (take_snoc hy)
      have HRK := Lib.hid (HRS.out k y hy)
      have HOw : Hid (RowIn wr wr.heap.size 9 A5 N (ol.flatMap rdC)) := Lib.hid (RowIn.of_own (owns_kept HO5.out hkw.out (fun g hg hs => by
        have h1 := (HO5.out.lt g hg).1
        have h2 := (HO5.out.lt g hg).2
        rcases hs.2 with h | h <;> omega)))
      obtain ⟨g, o, rfl, hgB, hcl⟩ := rds_at HOw.out (by omega)
      obtain ⟨e0, e1, e2, e3, e4, e5, e6, e7, e8⟩ : RdAt wr g (o + k * 9) x := hcl k x hx
      have hk8 : (k : Int) < (N : Int) := by omega
      have hk9 : (0 : Int) ≤ (k : Int) := by omega
      have HXP := Lib.hid hxo
      have HXN := Lib.hid hxn
      have HXE := Lib.hid hxe
      obtain ⟨w6, hw6⟩ : ∃ w6, wr.alloc (.cells (rdAr x) 43) = w6 := ⟨_, rfl⟩
      have HBX : Hid (Blk w6 wr.heap.size 43 (rdAr x)) := Lib.hid (by rw [← hw6]; exact Blk.new _ _ _)
      have HB6 : Hid (Below w3.heap.size w3 w6) := Lib.hid (by rw [← hw6]; exact HBw.out.alloc HBw.out.size _)
      have HK6 : Hid (Kept (fun q => w3.heap.size ≤ q ∧ (q < w4.heap.size ∨ w5.heap.size ≤ q)) w5 w6) := Lib.hid (by rw [← hw6]; exact hkw.out.alloc _)
      have HCD6 : Hid (∃ Ud : Nat → Prop, CrAt w6 db hf Ud (apD (lo.take k)) ∧ ∀ q, Ud q → w3.heap.size ≤ q ∧ (q < w4.heap.size ∨ w5.heap.size ≤ q)) := Lib.hid (by
        obtain ⟨Ud, h1, h2⟩ := hcd.out
        exact ⟨Ud, h1.below (by rw [← hw6]; exact (Below.refl _ _).alloc (Nat.le_refl _) _), h2⟩)
      obtain ⟨f0, f1, f2, f3, f4, f5, f6, f7, f8⟩ := rdAr_at HBX.out
      simp only [Nat.zero_add] at f1 f2 f3 f4 f5 f6 f7 f8
      have HRO : Hid (RowIn w6 w3.heap.size 1 x.A x.n (y.ts.map .string)) := Lib.hid ((RowIn.of_own HXP.out).below HB6.out)
      have HLK : Hid ((apD (lo.take k)).length ≤ 1000) := Lib.hid (by unfold apD; rw [List.length_map, List.length_take]; omega)
      have HTT : Hid (takesC (apD (lo.take k)) x.e = true) := Lib.hid (by rw [HXE.out]; exact apD_takes HRK.out HYX.out.1)
      have HAF : Hid (aftC (apD (lo.take k)) ⟨x.e, y.ts⟩ = apD (lo.take (k + 1))) := Lib.hid (by
        rw [HTK.out, ← apD_aft HRK.out HYX.out.1, HXE.out])
      have HAC : Hid (Calls Tryd.prog 21 #[.pointer (some ⟨db, 0, none⟩), evA x.e, .slice x.A x.n x.c] w6 fun e w' => e = .returned (.bool true) ∧ (∃ Ud : Nat → Prop, CrAt w' db hf Ud (apD (lo.take (k + 1))) ∧ ∀ q, Ud q → w3.heap.size ≤ q ∧ (q < w4.heap.size ∨ w5.heap.size ≤ q)) ∧ Kept (fun q => w3.heap.size ≤ q ∧ (q < w4.heap.size ∨ w5.heap.size ≤ q)) w5 w') := Lib.hid (by
        obtain ⟨Ud, h1, h2⟩ := HCD6.out
        refine (apply_any w6 db hf Ud (apD (lo.take k)) x.e x.A y.ts x.n x.c h1 (by rw [HXE.out]; exact HYX.out.2.1) HXN.out.symm (HRO.out.more HB6.out.size) HYX.out.2.2.1 (HGW.out w6 HB6.out) (by have := HLK.out; omega) (by rw [HXN.out]; exact HYX.out.2.2.2) (fun h0 ad had hu => by
          obtain ⟨b0, o0, e0, h3, _⟩ := HRO.out.at h0
          rw [had] at e0
          have : ad.block = b0 := by injection e0 with e0; rw [e0]
          have := (h2 _ hu).1
          omega)).mono ?_
        rintro e w' ⟨rfl, U', hc', _, hu', hk'⟩
        rw [HTT.out]
        rw [HAF.out] at hc'
        refine ⟨rfl, ⟨U', hc', fun q hq => ?_⟩, HK6.out.trans (hk'.mono (fun q _ hq => h2 q hq))⟩
        rcases hu' q hq with h | h
        · exact h2 q h
        · have := HK6.out.size; have := HZ5.out; exact ⟨by omega, Or.inr (by omega)⟩)
      unfold rdAr at hw6
      unfold evA at HAC
      clear hcl hx hy hxe hxn hxo HBX
      go_wp2_with fail
      refine HAC.out.mono ?_
      rintro e w7 ⟨rfl, hc7, hk7⟩
      have HC7 := Lib.hid hc7
      have HK7 := Lib.hid hk7
      clear hc7 hk7 HAC hw6 e0 e1 e2 e3 e4 e5 e6 e7 e8 f0 f1 f2 f3 f4 f5 f6 f7 f8
      go_wp2_with fail
      go_roundw
      case rel => exact ⟨k + 1, by omega, by go_num, HC7, HK7⟩
      case measure => simp [intOf]; omega
    · obtain rfl : N = k := by omega
      have hta : lo.take N = lo := by rw [← HNL.out, List.take_length]
      rw [hta] at hcd
      obtain ⟨ds, hds⟩ : ∃ ds, apD lo = ds := ⟨_, rfl⟩
      have HDL : Hid (ds.length ≤ 1000) := Lib.hid (by rw [← hds]; unfold apD; rw [List.length_map]; have := HNL.out; omega)
      rw [hds] at hcd HAP
      have HCW : Hid (∀ W, Below wr.heap.size wr W → ∃ Ud, CrAt W cb hf U rs ∧ CrAt W db hf Ud ds) := Lib.hid (fun W hW => by
        obtain ⟨Ud, h1, _⟩ := hcd.out
        exact ⟨Ud, HCR.out W (HBw.out.trans (hW.mono HBw.out.size)), h1.below hW⟩)
      have HAW : Hid (∀ W, Below wr.heap.size wr W → Calls Tryd.prog 12 #[] W fun e w' => e = .returned (.bool true) ∧ Below W.heap.size W w') := Lib.hid (fun W hW => awake_any W (HGW.out W (HBw.out.trans (hW.mono HBw.out.size))))
      obtain ⟨dq, hdq⟩ : ∃ dq, doneB rs ps it = dq := ⟨_, rfl⟩
      obtain ⟨sq, hsq⟩ : ∃ sq, shownN rs ps it = sq := ⟨_, rfl⟩
      obtain ⟨hq, hhq⟩ : ∃ hq, (hidO rs ps it).getD false = hq := ⟨_, rfl⟩
      obtain ⟨fc, hfc⟩ : ∃ fc, fansN rs it = fc := ⟨_, rfl⟩
      obtain ⟨fd, hfd⟩ : ∃ fd, fansN ds it = fd := ⟨_, rfl⟩
      have hle1 : (fd : Int) ≤ (fc : Int) := by have := fans_sub HAP.out.sub it; omega
      have hle2 : (fd : Int) ≤ 1 := by have := fans_one HAP.out.one it; omega
      have g2 : doneB ds ps it = dq := by rw [← hdq, HAP.out.like.done]
      have g3 : shownN ds ps it = sq := by rw [← hsq, HAP.out.like.shown]
      have g4 : (hidO ds ps it).getD false = hq := by rw [← hhq, HAP.out.like.hid]
      have HDNC : Hid (∀ W, Below wr.heap.size wr W → Calls Tryd.prog 24 #[.pointer (some ⟨cb, 0, none⟩), .string ps, .string it] W fun e w' => e = .returned (.bool dq) ∧ Below W.heap.size W w') := Lib.hid (fun W hW => by
        obtain ⟨Ud, h1, h2⟩ := HCW.out W hW
        have := doneG_any cb hf U rs ps it W h1 hpm him
        rw [hdq] at this
        exact this)
      have HSNC : Hid (∀ W, Below wr.heap.size wr W → Calls Tryd.prog 25 #[.pointer (some ⟨cb, 0, none⟩), .string ps, .string it] W fun e w' => e = .returned (.int .i64 sq) ∧ Below W.heap.size W w') := Lib.hid (fun W hW => by
        obtain ⟨Ud, h1, h2⟩ := HCW.out W hW
        have := shownG_any cb hf U rs ps it W h1 hpm him
        rw [hsq] at this
        exact this)
      have HHNC : Hid (∀ W, Below wr.heap.size wr W → Calls Tryd.prog 26 #[.pointer (some ⟨cb, 0, none⟩), .string ps, .string it] W fun e w' => e = .returned (.bool hq) ∧ Below W.heap.size W w') := Lib.hid (fun W hW => by
        obtain ⟨Ud, h1, h2⟩ := HCW.out W hW
        have := hiddenG_any cb hf U rs ps it W h1 hpm him
        rw [hhq] at this
        exact this)
      have HFNC : Hid (∀ W, Below wr.heap.size wr W → Calls Tryd.prog 27 #[.pointer (some ⟨cb, 0, none⟩), .string it] W fun e w' => e = .returned (.int .i64 fc) ∧ Below W.heap.size W w') := Lib.hid (fun W hW => by
        obtain ⟨Ud, h1, h2⟩ := HCW.out W hW
        have := fansG_any cb hf U rs it W h1 him
        rw [hfc] at this
        exact this)
      have HDND : Hid (∀ W, Below wr.heap.size wr W → Calls Tryd.prog 24 #[.pointer (some ⟨db, 0, none⟩), .string ps, .string it] W fun e w' => e = .returned (.bool dq) ∧ Below W.heap.size W w') := Lib.hid (fun W hW => by
        obtain ⟨Ud, h1, h2⟩ := HCW.out W hW
        have := doneG_any db hf Ud ds ps it W h2 hpm him
        rw [g2] at this
        exact this)
      have HSND : Hid (∀ W, Below wr.heap.size wr W → Calls Tryd.prog 25 #[.pointer (some ⟨db, 0, none⟩), .string ps, .string it] W fun e w' => e = .returned (.int .i64 sq) ∧ Below W.heap.size W w') := Lib.hid (fun W hW => by
        obtain ⟨Ud, h1, h2⟩ := HCW.out W hW
        have := shownG_any db hf Ud ds ps it W h2 hpm him
        rw [g3] at this
        exact this)
      have HHND : Hid (∀ W, Below wr.heap.size wr W → Calls Tryd.prog 26 #[.pointer (some ⟨db, 0, none⟩), .string ps, .string it] W fun e w' => e = .returned (.bool hq) ∧ Below W.heap.size W w') := Lib.hid (fun W hW => by
        obtain ⟨Ud, h1, h2⟩ := HCW.out W hW
        have := hiddenG_any db hf Ud ds ps it W h2 hpm him
        rw [g4] at this
        exact this)
      have HFND : Hid (∀ W, Below wr.heap.size wr W → Calls Tryd.prog 27 #[.pointer (some ⟨db, 0, none⟩), .string it] W fun e w' => e = .returned (.int .i64 fd) ∧ Below W.heap.size W w') := Lib.hid (fun W hW => by
        obtain ⟨Ud, h1, h2⟩ := HCW.out W hW
        have := fansG_any db hf Ud ds it W h2 him
        rw [hfd] at this
        exact this)
      have ed : (dq != dq) = false := by simp
      have eh : (hq != hq) = false := by simp
      have ed2 : (dq == dq) = true := by simp
      have eh2 : (hq == hq) = true := by simp
      have es : ((sq : Int) != (sq : Int)) = false := by simp
      have hB0 : Hid (Below wr.heap.size wr wr) := Lib.hid (Below.refl _ _)
      clear hdq hsq hhq hfc hfd g2 g3 g4 hcd hkw hds hta hlt hk
      go_wp2_with fail
      refine (HDNC.out _ hB0.out).mono ?_
      rintro e v1 ⟨rfl, hv1⟩
      have hB1 : Hid (Below wr.heap.size wr v1) := Lib.hid (hB0.out.trans (hv1.mono hB0.out.size))
      clear hv1
      go_wp2_with fail
      refine (HDND.out _ hB1.out).mono ?_
      rintro e v2 ⟨rfl, hv2⟩
      have hB2 : Hid (Below wr.heap.size wr v2) := Lib.hid (hB1.out.trans (hv2.mono hB1.out.size))
      clear hv2
      go_wp2_with fail
      refine (HSNC.out _ hB2.out).mono ?_
      rintro e v3 ⟨rfl, hv3⟩
      have hB3 : Hid (Below wr.heap.size wr v3) := Lib.hid (hB2.out.trans (hv3.mono hB2.out.size))
      clear hv3
      go_wp2_with fail
      refine (HSND.out _ hB3.out).mono ?_
      rintro e v4 ⟨rfl, hv4⟩
      have hB4 : Hid (Below wr.heap.size wr v4) := Lib.hid (hB3.out.trans (hv4.mono hB3.out.size))
      clear hv4
      go_wp2_with fail
      refine (HHNC.out _ hB4.out).mono ?_
      rintro e v5 ⟨rfl, hv5⟩
      have hB5 : Hid (Below wr.heap.size wr v5) := Lib.hid (hB4.out.trans (hv5.mono hB4.out.size))
      clear hv5
      go_wp2_with fail
      refine (HHND.out _ hB5.out).mono ?_
      rintro e v6 ⟨rfl, hv6⟩
      have hB6 : Hid (Below wr.heap.size wr v6) := Lib.hid (hB5.out.trans (hv6.mono hB5.out.size))
      clear hv6
      have HPfc : Hid (Calls Tryd.prog 34 #[.pointer (some ⟨cb, 0, none⟩), .string ps] v6 fun e w' => ∃ (A : Option Addr) (c : Nat) (ks : List ByteArray), e = .returned (.slice A ks.length c) ∧ IsNames (fun y => decide (folO rs ps y = some true)) ks ∧ w'.ownsRow v6.heap.size 9 1 (.slice A ks.length c) ks.length (ks.map .string) ∧ ks.length ≤ 1000 ∧ Below v6.heap.size v6 w') := Lib.hid (by
        obtain ⟨Ud, h1, h2⟩ := HCW.out _ hB6.out
        exact follows_any cb hf U rs ps _ h1 hpm HRL.out)
      go_wp2_with fail
      refine HPfc.out.mono ?_
      rintro e v7 ⟨Afc, cfc, ksfc, rfl, hkfc, hofc, hlfc, hv7⟩
      have hB7 : Hid (Below wr.heap.size wr v7) := Lib.hid (hB6.out.trans (hv7.mono hB6.out.size))
      have HKfc := Lib.hid hkfc
      have HOfc := Lib.hid (RowIn.of_own hofc)
      obtain ⟨mfc, hmfc⟩ : ∃ m, ksfc.length = m := ⟨_, rfl⟩
      rw [hmfc] at HOfc hlfc ⊢
      have HMfc := Lib.hid hmfc
      clear hkfc hofc hv7 hmfc HPfc
      have HPfd : Hid (Calls Tryd.prog 34 #[.pointer (some ⟨db, 0, none⟩), .string ps] v7 fun e w' => ∃ (A : Option Addr) (c : Nat) (ks : List ByteArray), e = .returned (.slice A ks.length c) ∧ IsNames (fun y => decide (folO ds ps y = some true)) ks ∧ w'.ownsRow v7.heap.size 9 1 (.slice A ks.length c) ks.length (ks.map .string) ∧ ks.length ≤ 1000 ∧ Below v7.heap.size v7 w') := Lib.hid (by
        obtain ⟨Ud, h1, h2⟩ := HCW.out _ hB7.out
        exact follows_any db hf Ud ds ps _ h2 hpm HDL.out)
      go_wp2_with fail
      refine HPfd.out.mono ?_
      rintro e v8 ⟨Afd, cfd, ksfd, rfl, hkfd, hofd, hlfd, hv8⟩
      have hB8 : Hid (Below wr.heap.size wr v8) := Lib.hid (hB7.out.trans (hv8.mono hB7.out.size))
      have HKfd := Lib.hid hkfd
      have HOfd := Lib.hid (RowIn.of_own hofd)
      obtain rfl : ksfd = ksfc := (HKfc.out.one HKfd.out (fun y => by rw [HAP.out.like.fol])).symm
      rw [HMfc.out] at HOfd ⊢
      have HSfd := Lib.hid (same16_any v8 v7.heap.size v8.heap.size Afc Afd ksfd mfc cfc cfd HMfc.out (HOfc.out.below hv8) HOfd.out (by omega))
      clear hkfd hofd hv8 HPfd HKfd HKfc hlfd HOfd HOfc
      go_wp2_with fail
      refine HSfd.out.mono ?_
      rintro e v9 ⟨rfl, hv9⟩
      have hB9 : Hid (Below wr.heap.size wr v9) := Lib.hid (hB8.out.trans (hv9.mono hB8.out.size))
      clear hv9 HSfd HMfc
      have HPmc : Hid (Calls Tryd.prog 36 #[.pointer (some ⟨cb, 0, none⟩), .string ps] v9 fun e w' => ∃ (A : Option Addr) (c : Nat) (ks : List ByteArray), e = .returned (.slice A ks.length c) ∧ IsNames (fun y => decide (mutO rs ps y = some true)) ks ∧ w'.ownsRow v9.heap.size 9 1 (.slice A ks.length c) ks.length (ks.map .string) ∧ ks.length ≤ 1000 ∧ Below v9.heap.size v9 w') := Lib.hid (by
        obtain ⟨Ud, h1, h2⟩ := HCW.out _ hB9.out
        exact mutes_any cb hf U rs ps _ h1 hpm HRL.out)
      go_wp2_with fail
      refine HPmc.out.mono ?_
      rintro e v10 ⟨Amc, cmc, ksmc, rfl, hkmc, homc, hlmc, hv10⟩
      have hB10 : Hid (Below wr.heap.size wr v10) := Lib.hid (hB9.out.trans (hv10.mono hB9.out.size))
      have HKmc := Lib.hid hkmc
      have HOmc := Lib.hid (RowIn.of_own homc)
      obtain ⟨mmc, hmmc⟩ : ∃ m, ksmc.length = m := ⟨_, rfl⟩
      rw [hmmc] at HOmc hlmc ⊢
      have HMmc := Lib.hid hmmc
      clear hkmc homc hv10 hmmc HPmc
      have HPmd : Hid (Calls Tryd.prog 36 #[.pointer (some ⟨db, 0, none⟩), .string ps] v10 fun e w' => ∃ (A : Option Addr) (c : Nat) (ks : List ByteArray), e = .returned (.slice A ks.length c) ∧ IsNames (fun y => decide (mutO ds ps y = some true)) ks ∧ w'.ownsRow v10.heap.size 9 1 (.slice A ks.length c) ks.length (ks.map .string) ∧ ks.length ≤ 1000 ∧ Below v10.heap.size v10 w') := Lib.hid (by
        obtain ⟨Ud, h1, h2⟩ := HCW.out _ hB10.out
        exact mutes_any db hf Ud ds ps _ h2 hpm HDL.out)
      go_wp2_with fail
      refine HPmd.out.mono ?_
      rintro e v11 ⟨Amd, cmd, ksmd, rfl, hkmd, homd, hlmd, hv11⟩
      have hB11 : Hid (Below wr.heap.size wr v11) := Lib.hid (hB10.out.trans (hv11.mono hB10.out.size))
      have HKmd := Lib.hid hkmd
      have HOmd := Lib.hid (RowIn.of_own homd)
      obtain rfl : ksmd = ksmc := (HKmc.out.one HKmd.out (fun y => by rw [HAP.out.like.mtd])).symm
      rw [HMmc.out] at HOmd ⊢
      have HSmd := Lib.hid (same16_any v11 v10.heap.size v11.heap.size Amc Amd ksmd mmc cmc cmd HMmc.out (HOmc.out.below hv11) HOmd.out (by omega))
      clear hkmd homd hv11 HPmd HKmd HKmc hlmd HOmd HOmc
      go_wp2_with fail
      refine HSmd.out.mono ?_
      rintro e v12 ⟨rfl, hv12⟩
      have hB12 : Hid (Below wr.heap.size wr v12) := Lib.hid (hB11.out.trans (hv12.mono hB11.out.size))
      clear hv12 HSmd HMmc
      have HPtc : Hid (Calls Tryd.prog 15 #[.pointer (some ⟨cb, 0, none⟩), .string ps, .int .i64 now] v12 fun e w' => ∃ (A : Option Addr) (c : Nat) (L : List Ct), e = .returned (.slice A L.length c) ∧ IsTaste rs hf ps now L ∧ L.length ≤ 1000000 ∧ RowIn w' w'.heap.size 2 A L.length (L.flatMap ctC) ∧ Below v12.heap.size v12 w') := Lib.hid (by
        obtain ⟨Ud, h1, h2⟩ := HCW.out _ hB12.out
        exact taste_any _ cb hf U rs ps now h1 hpm hh.1 hh.2 HRL.out (by omega) (by omega))
      go_wp2_with fail
      refine HPtc.out.mono ?_
      rintro e v13 ⟨Atc, ctc, Ltc, rfl, hktc, hltc, hotc, hv13⟩
      have hB13 : Hid (Below wr.heap.size wr v13) := Lib.hid (hB12.out.trans (hv13.mono hB12.out.size))
      have HKtc := Lib.hid hktc
      have HOtc := Lib.hid hotc
      obtain ⟨mtc, hmtc⟩ : ∃ m, Ltc.length = m := ⟨_, rfl⟩
      rw [hmtc] at HOtc hltc ⊢
      have HMtc := Lib.hid hmtc
      clear hktc hotc hv13 hmtc HPtc
      have HPtd : Hid (Calls Tryd.prog 15 #[.pointer (some ⟨db, 0, none⟩), .string ps, .int .i64 now] v13 fun e w' => ∃ (A : Option Addr) (c : Nat) (L : List Ct), e = .returned (.slice A L.length c) ∧ IsTaste ds hf ps now L ∧ L.length ≤ 1000000 ∧ RowIn w' w'.heap.size 2 A L.length (L.flatMap ctC) ∧ Below v13.heap.size v13 w') := Lib.hid (by
        obtain ⟨Ud, h1, h2⟩ := HCW.out _ hB13.out
        exact taste_any _ db hf Ud ds ps now h2 hpm hh.1 hh.2 HDL.out (by omega) (by omega))
      go_wp2_with fail
      refine HPtd.out.mono ?_
      rintro e v14 ⟨Atd, ctd, Ltd, rfl, hktd, hltd, hotd, hv14⟩
      have hB14 : Hid (Below wr.heap.size wr v14) := Lib.hid (hB13.out.trans (hv14.mono hB13.out.size))
      have HKtd := Lib.hid hktd
      have HOtd := Lib.hid hotd
      obtain rfl : Ltd = Ltc := (HKtc.out.one HKtd.out (fun t => by rw [HAP.out.own]; exact HAP.out.tw.sums hf now t)).symm
      rw [HMtc.out] at HOtd ⊢
      have HStd := Lib.hid (same10_any v14 v13.heap.size v14.heap.size Atc Atd Ltd mtc ctc ctd HMtc.out (HOtc.out.below hv14) HOtd.out hltc)
      clear hktd hotd hv14 HPtd HKtd HKtc hltd HOtd HOtc
      go_wp2_with fail
      refine HStd.out.mono ?_
      rintro e v15 ⟨rfl, hv15⟩
      have hB15 : Hid (Below wr.heap.size wr v15) := Lib.hid (hB14.out.trans (hv15.mono hB14.out.size))
      clear hv15 HStd HMtc
      have HPhc : Hid (Calls Tryd.prog 33 #[.pointer (some ⟨cb, 0, none⟩), .string ps] v15 fun e w' => ∃ (A : Option Addr) (n c : Nat), e = .returned (.slice A n c) ∧ n = (ownC rs ps).length ∧ n ≤ 1000 ∧ RowIn w' w'.heap.size 8 A n ((evsR (ownC rs ps)).flatMap evC) ∧ Below v15.heap.size v15 w') := Lib.hid (by
        obtain ⟨Ud, h1, h2⟩ := HCW.out _ hB15.out
        exact history_any cb hf U rs ps _ h1 hpm HRL.out)
      go_wp2_with fail
      refine HPhc.out.mono ?_
      rintro e v16 ⟨Ahc, nhc, chc, rfl, hnhc, hlhc, _, hv16⟩
      have hB16 : Hid (Below wr.heap.size wr v16) := Lib.hid (hB15.out.trans (hv16.mono hB15.out.size))
      have HNhc := Lib.hid hnhc
      clear hnhc hv16 HPhc
      have HPhd : Hid (Calls Tryd.prog 33 #[.pointer (some ⟨db, 0, none⟩), .string ps] v16 fun e w' => ∃ (A : Option Addr) (n c : Nat), e = .returned (.slice A n c) ∧ n = (ownC ds ps).length ∧ n ≤ 1000 ∧ RowIn w' w'.heap.size 8 A n ((evsR (ownC ds ps)).flatMap evC) ∧ Below v16.heap.size v16 w') := Lib.hid (by
        obtain ⟨Ud, h1, h2⟩ := HCW.out _ hB16.out
        exact history_any db hf Ud ds ps _ h2 hpm HDL.out)
      go_wp2_with fail
      refine HPhd.out.mono ?_
      rintro e v17 ⟨Ahd, nhd, chd, rfl, hnhd, hlhd, _, hv17⟩
      have hB17 : Hid (Below wr.heap.size wr v17) := Lib.hid (hB16.out.trans (hv17.mono hB16.out.size))
      have HNhd := Lib.hid hnhd
      clear hnhd hv17 HPhd
      obtain rfl : nhc = nhd := by rw [HNhc.out, HNhd.out, HAP.out.like.len]
      have en : ((nhc : Int) == (nhc : Int)) = true := by simp
      clear HNhc HNhd
      go_wp2_with fail
      refine (HFND.out _ hB17.out).mono ?_
      rintro e v18 ⟨rfl, hv18⟩
      have hB18 : Hid (Below wr.heap.size wr v18) := Lib.hid (hB17.out.trans (hv18.mono hB17.out.size))
      clear hv18
      go_wp2_with fail
      refine (HFNC.out _ hB18.out).mono ?_
      rintro e v19 ⟨rfl, hv19⟩
      have hB19 : Hid (Below wr.heap.size wr v19) := Lib.hid (hB18.out.trans (hv19.mono hB18.out.size))
      clear hv19
      go_wp2_with fail
      refine (HFND.out _ hB19.out).mono ?_
      rintro e v20 ⟨rfl, hv20⟩
      have hB20 : Hid (Below wr.heap.size wr v20) := Lib.hid (hB19.out.trans (hv20.mono hB19.out.size))
      clear hv20
      go_wp2_with fail
      refine (HAW.out _ hB20.out).mono ?_
      rintro e v21 ⟨rfl, hv21⟩
      have hB21 : Hid (Below wr.heap.size wr v21) := Lib.hid (hB20.out.trans (hv21.mono hB20.out.size))
      clear hv21
      go_wp2_with fail
      go_ret
      exact ⟨rfl, HB3.out.trans ((HBw.out.trans (hB21.out.mono HBw.out.size)).mono HB3.out.size)⟩

end Go.Proofs.YtnkglbiakjnfjaaDoor
