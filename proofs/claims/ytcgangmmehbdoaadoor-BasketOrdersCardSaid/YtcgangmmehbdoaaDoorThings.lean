/- The document's things of layer 38. -/
import Derived.Test.YtcgangmmehbdoaaDoorTicks
import Derived.Test.YtcgangmmehbdoaaDoorThP
import Derived.Laws.OwnMore
namespace Go.Proofs.YtcgangmmehbdoaaDoor
open Go.Shelf Go.RowKit Go.Maps
set_option linter.unusedVariables false

theorem has_info : (Tryd.prog.info? 71).map (fun i => (i.zero, i.size, i.bytes)) = some (some (.agg #[.string ⟨#[]⟩, .int .i64 0]), 2, 24) := by kernel_rfl
theorem one_has (w : World) (s : ByteArray) (z : Int) (t : TypeId) : RowIn (w.alloc (.cells #[.string s, .int .i64 z] t)) (w.heap.size + 1) 2 (some ⟨w.heap.size, 0, none⟩) 1 (hasC (s, z)) := by
  refine ⟨rfl, Or.inr ⟨w.heap.size, 0, rfl, by omega, fun j u hu => ?_⟩⟩
  rw [(Blk.new w t _).cell]
  rw [← hu, Nat.zero_add]
  simp [hasC]
theorem hasC_one (h : ByteArray × Int) : ∀ u ∈ hasC h, u.oneCell' = true := fun u hu => by
  simp only [hasC, List.mem_cons, List.not_mem_nil, or_false] at hu
  rcases hu with rfl | rfl <;> rfl

set_option maxHeartbeats 4000000 in
set_option maxRecDepth 100000 in
theorem rthings_any (w : World) (B : Nat) (A : Option Addr) (l : List Ev) (n c : Nat) (p : ByteArray) (fr tt : Int) (hn : l.length = n) (hl : EvsAt w B A l) (hB : B ≤ w.heap.size) (hb : n ≤ 1000) (hsh : ∀ e ∈ l, EvSh e) :
    Calls Tryd.prog 30 #[.slice A n c, .string p, .int .i64 fr, .int .i64 tt] w fun e w' => ∃ (A' : Option Addr) (c' : Nat), e = .returned (.slice A' (thP l p fr tt).length c') ∧ w'.ownsRow w.heap.size 71 2 (.slice A' (thP l p fr tt).length c') (thP l p fr tt).length ((thP l p fr tt).flatMap hasC) ∧ Below w.heap.size w w' := by
  have HN := Lib.hid hn
  have HL := Lib.hid hl
  have HSH := Lib.hid hsh
  have HOE := Lib.hid (own_empty w 71 2)
  obtain ⟨w1, hw1⟩ : ∃ w1, w.alloc (.cells #[] 71) = w1 := ⟨_, rfl⟩
  rw [hw1] at HOE
  have HB1 : Hid (Below w.heap.size w w1) := Lib.hid (by rw [← hw1]; exact (Below.refl _ _).alloc (Nat.le_refl _) _)
  obtain ⟨i0, hi0, hz0, hz1, hz2⟩ := info_parts has_info
  clear hn hl hsh
  go_enter Tryd.func30, Tryd.ntmps30
  go_wp2_with fail
  clear hw1
  go_loopw [9, 10] (fun v i wr => ∃ k : Nat, k ≤ n ∧ i = .int .i64 k ∧ Hid (wr.ownsRow w.heap.size 71 2 v (thP (l.take k) p fr tt).length ((thP (l.take k) p fr tt).flatMap hasC)) ∧ Hid (Below w.heap.size w wr)) (fun _ i _ => n - (intOf i).toNat)
  case atStart => exact ⟨0, Nat.zero_le _, rfl, HOE, HB1⟩
  case round =>
    clear HOE HB1
    obtain ⟨k, hk, rfl, hrow, hbw⟩ := hrel
    obtain ⟨A5, c5, hq⟩ := own_shape hrow.out
    rw [hq] at hrow ⊢
    clear hq
    by_cases hlt : k < n
    rotate_left
    · obtain rfl : n = k := by omega
      have htl : l.take n = l := by rw [← HN.out, List.take_length]
      rw [htl] at hrow ⊢
      clear htl
      go_wp2_with fail
      go_ret
      exact ⟨A5, c5, rfl, hrow.out, hbw.out⟩
    obtain ⟨x, hx⟩ : ∃ x, l[k]? = some x := ⟨l[k]'(by rw [HN.out]; exact hlt), List.getElem?_eq_getElem _⟩
    obtain ⟨g, o, rfl, hgB, hcl⟩ := HL.out.at (by rw [HN.out]; omega)
    have hgw : g < w.heap.size := Nat.lt_of_lt_of_le hgB hB
    obtain ⟨e0, e1, e2, e3, e4, e5, e6, e7⟩ : EvAt wr g (o + k * 8) x := (hcl k x hx).keep (fun j => hbw.out.cell (p := ⟨g, j, none⟩) hgw)
    have HTK : Hid (thP (l.take (k + 1)) p fr tt = if selB p fr tt x then addH (thP (l.take k) p fr tt) x.item x.tick else thP (l.take k) p fr tt) := Lib.hid (by rw [take_snoc hx, thP_snoc])
    have HTL : Hid ((thP (l.take k) p fr tt).length ≤ k) := Lib.hid (Nat.le_trans (thP_len _ _ _ _) (by rw [List.length_take]; omega))
    have HXS : Hid (EvSh x) := Lib.hid (HSH.out x (List.mem_of_getElem? hx))
    have hk8 : (k : Int) < (n : Int) := by omega
    have hk9 : (0 : Int) ≤ (k : Int) := by omega
    clear hcl hx
    generalize thP (l.take k) p fr tt = hs at *
    have hwz := hbw.out.size
    obtain ⟨w3, hw3⟩ : ∃ w3, wr.alloc (.cells (evArr x) 33) = w3 := ⟨_, rfl⟩
    have HBX : Hid (Blk w3 wr.heap.size 33 (evArr x)) := Lib.hid (by rw [← hw3]; exact Blk.new _ _ _)
    have HB3 : Hid (Below w.heap.size w w3) := Lib.hid (by rw [← hw3]; exact hbw.out.alloc hwz _)
    have HR3 : Hid (w3.ownsRow w.heap.size 71 2 (.slice A5 hs.length c5) hs.length (hs.flatMap hasC)) := Lib.hid (by rw [← hw3]; exact hrow.out.alloc _)
    have HGE : Hid (∀ q, (Value.slice A5 hs.length c5).ownBlock = some q → q < wr.heap.size) := Lib.hid (fun q hq => (hrow.out.lt q hq).2)
    unfold evArr at hw3
    have d0 : w3.cell? ⟨wr.heap.size, 0, none⟩ = some (.string x.src) := HBX.out.cell 0
    have d1 : w3.cell? ⟨wr.heap.size, 1, none⟩ = some (.int .i64 x.num) := HBX.out.cell 1
    have d2 : w3.cell? ⟨wr.heap.size, 2, none⟩ = some (.int .i64 x.tick) := HBX.out.cell 2
    have d3 : w3.cell? ⟨wr.heap.size, 3, none⟩ = some (.int .i64 x.kind) := HBX.out.cell 3
    have d4 : w3.cell? ⟨wr.heap.size, 4, none⟩ = some (.string x.person) := HBX.out.cell 4
    have d5 : w3.cell? ⟨wr.heap.size, 5, none⟩ = some (.string x.item) := HBX.out.cell 5
    have d6 : w3.cell? ⟨wr.heap.size, 6, none⟩ = some (.int .i64 x.value) := HBX.out.cell 6
    have d7 : w3.cell? ⟨wr.heap.size, 7, none⟩ = some (.string x.text) := HBX.out.cell 7
    have HBY := Lib.hid (rbuyX_any x w3 HXS.out)
    unfold evA at HBY
    clear hrow
    go_wp2_with fail
    refine HBY.out.mono ?_
    rintro e w2 ⟨rfl, hb2⟩
    have HB2 : Hid (Below w.heap.size w w2) := Lib.hid (HB3.out.trans (hb2.mono HB3.out.size))
    have HR2 : Hid (w2.ownsRow w.heap.size 71 2 (.slice A5 hs.length c5) hs.length (hs.flatMap hasC)) := Lib.hid (owns_kept HR3.out (below_kept (S := fun _ => False) hb2 (Nat.le_refl _)) (fun _ _ h => h))
    have heb3 : wr.heap.size < w3.heap.size := HBX.out.lt
    have f2 : w2.cell? ⟨wr.heap.size, 2, none⟩ = some (.int .i64 x.tick) := (hb2.cell (p := ⟨wr.heap.size, 2, none⟩) heb3).trans d2
    have f4 : w2.cell? ⟨wr.heap.size, 4, none⟩ = some (.string x.person) := (hb2.cell (p := ⟨wr.heap.size, 4, none⟩) heb3).trans d4
    have f5 : w2.cell? ⟨wr.heap.size, 5, none⟩ = some (.string x.item) := (hb2.cell (p := ⟨wr.heap.size, 5, none⟩) heb3).trans d5
    clear HBY hb2 e0 e1 e2 e3 e4 e5 e6 e7 d0 d1 d2 d3 d4 d5 d6 d7 hbw hw3 HBX HB3 HR3 heb3 hwz
    obtain ⟨eb, heb⟩ : ∃ eb, wr.heap.size = eb := ⟨_, rfl⟩
    rw [heb] at f2 f4 f5 HGE ⊢
    clear heb
    cases hby : buyB x
    · have HS1 : Hid (thP (l.take (k + 1)) p fr tt = hs) := Lib.hid (by rw [HTK.out, if_neg]; intro h; have := (selB_iff _ _ _ _).1 h; rw [hby] at this; cases this.1)
      clear hby
      go_wp2_with fail
      go_roundw
      case rel => exact ⟨k + 1, by omega, by go_num, Lib.hid (by rw [HS1.out]; exact HR2.out), HB2⟩
      case measure => simp [intOf]; omega
    by_cases hpe : x.person = p
    rotate_left
    · have q1 : (x.person.toList == p.toList) = false := Bool.eq_false_iff.2 (fun e => hpe ((beq_list _ _).1 e))
      have q2 : (x.person.toList != p.toList) = true := by unfold bne; rw [q1]; rfl
      have HS1 : Hid (thP (l.take (k + 1)) p fr tt = hs) := Lib.hid (by rw [HTK.out, if_neg]; intro h; exact hpe ((selB_iff _ _ _ _).1 h).2.1)
      clear hby hpe
      go_wp2_with fail
      go_roundw
      case rel => exact ⟨k + 1, by omega, by go_num, Lib.hid (by rw [HS1.out]; exact HR2.out), HB2⟩
      case measure => simp [intOf]; omega
    have q1 : (x.person.toList == p.toList) = true := (beq_list _ _).2 hpe
    have q2 : (x.person.toList != p.toList) = false := by unfold bne; rw [q1]; rfl
    by_cases hfr : x.tick < fr
    · have HS1 : Hid (thP (l.take (k + 1)) p fr tt = hs) := Lib.hid (by rw [HTK.out, if_neg]; intro h; have := ((selB_iff _ _ _ _).1 h).2.2.1; omega)
      clear hby hpe
      go_wp2_with fail
      go_roundw
      case rel => exact ⟨k + 1, by omega, by go_num, Lib.hid (by rw [HS1.out]; exact HR2.out), HB2⟩
      case measure => simp [intOf]; omega
    have dfr : decide (x.tick < fr) = false := decide_eq_false hfr
    by_cases hto : tt < x.tick
    · have HS1 : Hid (thP (l.take (k + 1)) p fr tt = hs) := Lib.hid (by rw [HTK.out, if_neg]; intro h; have := ((selB_iff _ _ _ _).1 h).2.2.2; omega)
      clear hby hpe
      go_wp2_with fail
      go_roundw
      case rel => exact ⟨k + 1, by omega, by go_num, Lib.hid (by rw [HS1.out]; exact HR2.out), HB2⟩
      case measure => simp [intOf]; omega
    have dto : decide (tt < x.tick) = false := decide_eq_false hto
    have HS1 : Hid (thP (l.take (k + 1)) p fr tt = addH hs x.item x.tick) := Lib.hid (by rw [HTK.out, if_pos ((selB_iff _ _ _ _).2 ⟨hby, hpe, by omega, by omega⟩)])
    clear hby hpe HTK
    obtain ⟨m, hm⟩ : ∃ m, hs.length = m := ⟨_, rfl⟩
    have hml := HTL.out
    rw [hm] at HR2 hml HGE ⊢
    have HM := Lib.hid hm
    clear hm HTL
    have HMI : Hid (w2.ownsRow w.heap.size 71 2 (.slice A5 m c5) m ((midH x.item x.tick hs 0).flatMap hasC)) := Lib.hid (by rw [mid_0]; exact HR2.out)
    have HF2 := Lib.hid f2
    have HF5 := Lib.hid f5
    go_wp2_with fail
    clear f2 f4 f5 q1 q2 dfr dto hfr hto
    go_loopw [12, 13] (fun d i wq => ∃ (j : Nat), j ≤ m ∧ i = .int .i64 j ∧ d = .bool (inH (hs.take j) x.item) ∧ Hid (wq.ownsRow w.heap.size 71 2 (.slice A5 m c5) m ((midH x.item x.tick hs j).flatMap hasC)) ∧ Hid (wq.cell? ⟨eb, 2, none⟩ = some (.int .i64 x.tick)) ∧ Hid (wq.cell? ⟨eb, 5, none⟩ = some (.string x.item)) ∧ Hid (Below w.heap.size w wq)) (fun _ i _ => m - (intOf i).toNat)
    case atStart => exact ⟨0, Nat.zero_le _, rfl, rfl, HMI, HF2, HF5, HB2⟩
    case round =>
      clear HMI HF2 HF5 HB2 HR2
      obtain ⟨j, hj, rfl, rfl, hrow, hf2, hf5, hbw⟩ := hrel
      obtain ⟨wq, rfl⟩ : ∃ wq : World, wq = wr := ⟨_, rfl⟩
      by_cases hlt2 : j < m
      · obtain ⟨h, hh⟩ : ∃ h, hs[j]? = some h := ⟨hs[j]'(by rw [HM.out]; exact hlt2), List.getElem?_eq_getElem _⟩
        obtain ⟨g5, cap5, hv5, hg5, hg5l⟩ := hrow.out.form (by omega)
        injection hv5 with hA5 _ hc5
        subst hA5
        have hne5 : g5 ≠ eb := by have := HGE.out g5 rfl; omega
        have HC0 : Hid (wq.cell? ⟨g5, j * 2, none⟩ = some (.string h.1)) := Lib.hid (by
          rw [hrow.out.cellAt (j * 2) (by omega)]
          have := flat_get hasC 2 hasC_len _ j 0 h (mid_at (s := x.item) (t := x.tick) hh) (by omega)
          simpa [hasC] using this)
        have HC1 : Hid (wq.cell? ⟨g5, j * 2 + 1, none⟩ = some (.int .i64 h.2)) := Lib.hid (by
          rw [hrow.out.cellAt (j * 2 + 1) (by omega)]
          have := flat_get hasC 2 hasC_len _ j 1 h (mid_at (s := x.item) (t := x.tick) hh) (by omega)
          simpa [hasC] using this)
        have HHH := Lib.hid hh
        have hj8 : (j : Int) < (m : Int) := by omega
        have hj9 : (0 : Int) ≤ (j : Int) := by omega
        have HIN := Lib.hid (inH_snoc x.item hh)
        clear hh hc5
        have c0 := HC0.out
        have c1 := HC1.out
        have f2 := hf2.out
        have f5 := hf5.out
        by_cases he : h.1 = x.item
        rotate_left
        · have q1 : (h.1.toList == x.item.toList) = false := Bool.eq_false_iff.2 (fun e => he ((beq_list _ _).1 e))
          have HIS : Hid (inH (hs.take (j + 1)) x.item = inH (hs.take j) x.item) := Lib.hid (by rw [HIN.out]; simp [he])
          have HMS : Hid (midH x.item x.tick hs (j + 1) = midH x.item x.tick hs j) := Lib.hid (mid_same HHH.out (updH_ne he))
          clear he
          go_wp2_with fail
          go_quiet (fail)
          go_wp2_with fail
          go_roundw
          case rel => exact ⟨j + 1, by omega, by go_num, by rw [HIS.out], Lib.hid (by rw [HMS.out]; exact hrow.out), hf2, hf5, Lib.hid (below_drewN hbw.out _)⟩
          case measure => simp [intOf]; omega
        have q1 : (h.1.toList == x.item.toList) = true := (beq_list _ _).2 he
        have HIS : Hid (inH (hs.take (j + 1)) x.item = true) := Lib.hid (by rw [HIN.out]; simp [he])
        by_cases hl2 : x.tick < h.2
        · have HMS : Hid ((midH x.item x.tick hs (j + 1)).flatMap hasC = ((midH x.item x.tick hs j).flatMap hasC).set (j * 2 + 1) (.int .i64 x.tick)) := Lib.hid (mid_set HHH.out (by unfold updH; rw [if_pos ⟨he, hl2⟩]))
          clear he
          go_wp2_with fail
          go_quiet (fail)
          obtain ⟨wd, hwd⟩ : ∃ wx, wq.drewN nq = wx := ⟨_, rfl⟩
          rw [hwd]
          have c0d : wd.cell? ⟨g5, j * 2, none⟩ = some (.string h.1) := by rw [← hwd]; exact HC0.out
          have c1d : wd.cell? ⟨g5, j * 2 + 1, none⟩ = some (.int .i64 h.2) := by rw [← hwd]; exact HC1.out
          have f2d : wd.cell? ⟨eb, 2, none⟩ = some (.int .i64 x.tick) := by rw [← hwd]; exact hf2.out
          have HF5 : Hid (wd.cell? ⟨eb, 5, none⟩ = some (.string x.item)) := Lib.hid (by rw [← hwd]; exact hf5.out)
          have HRD : Hid (wd.ownsRow w.heap.size 71 2 (.slice (some ⟨g5, 0, none⟩) m c5) m ((midH x.item x.tick hs j).flatMap hasC)) := Lib.hid (by rw [← hwd]; exact hrow.out)
          have HBD : Hid (Below w.heap.size w wd) := Lib.hid (by rw [← hwd]; exact below_drewN hbw.out _)
          clear hwd c0 c1 f2 f5
          go_wp2_with fail
          go_quiet (fail)
          obtain ⟨we, hwe⟩ : ∃ wx, wd.drewN nq = wx := ⟨_, rfl⟩
          rw [hwe]
          have c1e : we.cell? ⟨g5, j * 2 + 1, none⟩ = some (.int .i64 h.2) := by rw [← hwe]; exact c1d
          have f2e : we.cell? ⟨eb, 2, none⟩ = some (.int .i64 x.tick) := by rw [← hwe]; exact f2d
          have HF5e : Hid (we.cell? ⟨eb, 5, none⟩ = some (.string x.item)) := Lib.hid (by rw [← hwe]; exact HF5.out)
          have HRE : Hid (we.ownsRow w.heap.size 71 2 (.slice (some ⟨g5, 0, none⟩) m c5) m ((midH x.item x.tick hs j).flatMap hasC)) := Lib.hid (by rw [← hwe]; exact HRD.out)
          have HBE : Hid (Below w.heap.size w we) := Lib.hid (by rw [← hwe]; exact below_drewN HBD.out _)
          have hfz : we.frozen? ⟨g5, j * 2 + 1, none⟩ = false := HRE.out.frozenAt _
          have HST := Lib.hid (HRE.out.stored (j * 2 + 1) (.int .i64 x.tick))
          clear hwe c0d c1d f2d
          go_wp2_with fail
          go_roundw
          case rel =>
            refine ⟨j + 1, by omega, by go_num, by rw [HIS.out], Lib.hid (by rw [HMS.out]; exact HST.out.1), Lib.hid ?_, Lib.hid ?_, Lib.hid (HBE.out.setCell hg5 _)⟩
            · rw [World.cell?_setCell_other _ _ _ _ (fun e => hne5 (by injection e))]; exact f2e
            · rw [World.cell?_setCell_other _ _ _ _ (fun e => hne5 (by injection e))]; exact HF5e.out
          case measure => simp [intOf]; omega
        · have dl2 : decide (x.tick < h.2) = false := decide_eq_false hl2
          have HMS : Hid (midH x.item x.tick hs (j + 1) = midH x.item x.tick hs j) := Lib.hid (mid_same HHH.out (by unfold updH; rw [if_neg (fun q => hl2 q.2)]))
          clear he
          go_wp2_with fail
          go_quiet (fail)
          obtain ⟨wd, hwd⟩ : ∃ wx, wq.drewN nq = wx := ⟨_, rfl⟩
          rw [hwd]
          have c0d : wd.cell? ⟨g5, j * 2, none⟩ = some (.string h.1) := by rw [← hwd]; exact HC0.out
          have c1d : wd.cell? ⟨g5, j * 2 + 1, none⟩ = some (.int .i64 h.2) := by rw [← hwd]; exact HC1.out
          have f2d : wd.cell? ⟨eb, 2, none⟩ = some (.int .i64 x.tick) := by rw [← hwd]; exact hf2.out
          have HF5 : Hid (wd.cell? ⟨eb, 5, none⟩ = some (.string x.item)) := Lib.hid (by rw [← hwd]; exact hf5.out)
          have HRD : Hid (wd.ownsRow w.heap.size 71 2 (.slice (some ⟨g5, 0, none⟩) m c5) m ((midH x.item x.tick hs j).flatMap hasC)) := Lib.hid (by rw [← hwd]; exact hrow.out)
          have HBD : Hid (Below w.heap.size w wd) := Lib.hid (by rw [← hwd]; exact below_drewN hbw.out _)
          have HF2 := Lib.hid f2d
          clear hwd c0 c1 f2 f5
          go_wp2_with fail
          go_quiet (fail)
          go_wp2_with fail
          go_roundw
          case rel => exact ⟨j + 1, by omega, by go_num, by rw [HIS.out], Lib.hid (by rw [HMS.out]; exact HRD.out), HF2, HF5, Lib.hid (below_drewN HBD.out _)⟩
          case measure => simp [intOf]; omega
      · obtain rfl : m = j := by omega
        have htl : hs.take m = hs := by rw [← HM.out, List.take_length]
        rw [htl] at ⊢
        have HME := Lib.hid (mid_end (s := x.item) (t := x.tick) HM.out)
        clear htl hj
        have f2 := hf2.out
        have f5 := hf5.out
        cases hin : inH hs x.item
        · have HAD : Hid (addH hs x.item x.tick = hs ++ [(x.item, x.tick)]) := Lib.hid (by unfold addH; rw [hin]; rfl)
          have HRW : Hid (wq.ownsRow w.heap.size 71 2 (.slice A5 m c5) m (hs.flatMap hasC)) := Lib.hid (by have := hrow.out; rw [HME.out, upd_not hin] at this; exact this)
          have hwq := hbw.out.size
          clear hin
          go_wp2_with (first
            | (at_builtin; refine wpList_append_row _ rfl _ _ 66 rfl w.heap.size 71 i0 _ 2 24 Tryd.underlying66 hi0 hz0 hz1 hz2 rfl (by omega) (.slice A5 m c5) m _ rfl (HRW.out.alloc _) (wq.heap.size + 1) (some ⟨wq.heap.size, 0, none⟩) 1 1 (hasC (x.item, x.tick)) rfl (one_has wq _ _ _) (fun h => by cases h) (hasC_one _) (by unfold maxLen; omega) (by omega) (by simp; omega) ?_; intro v7 w7 ho7 hg7 hv7))
          go_roundw
          case rel =>
            refine ⟨k + 1, by omega, by go_num, Lib.hid ?_, Lib.hid ((hbw.out.alloc hwq _).grown hg7 (by simp; omega) (fun j hj => (HRW.out.lt _ hj).1))⟩
            rw [HS1.out, HAD.out, List.length_append, HM.out, List.flatMap_append]
            simpa using ho7
          case measure => simp [intOf]; omega
        · have HAD : Hid (addH hs x.item x.tick = hs.map (updH x.item x.tick)) := Lib.hid (by unfold addH; rw [hin]; rfl)
          clear hin
          go_wp2_with fail
          go_roundw
          case rel =>
            refine ⟨k + 1, by omega, by go_num, Lib.hid ?_, hbw⟩
            rw [HS1.out, HAD.out, List.length_map, HM.out, ← HME.out]
            exact hrow.out
          case measure => simp [intOf]; omega

end Go.Proofs.YtcgangmmehbdoaaDoor
