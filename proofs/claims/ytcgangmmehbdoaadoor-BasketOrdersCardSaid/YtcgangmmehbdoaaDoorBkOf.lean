/- basket.Of. -/
import Derived.Test.YtcgangmmehbdoaaDoorAdd
import Derived.Test.YtcgangmmehbdoaaDoorGrp
import Derived.Test.YtcgangmmehbdoaaDoorSrtE
import Derived.Test.YtcgangmmehbdoaaDoorPlanN
import Derived.BigQuiet
namespace Go.Proofs.YtcgangmmehbdoaaDoor
open Go.Shelf Go.RowKit Go.Maps
set_option linter.unusedVariables false

/-- Baskets, as a list, in block bb; all their blocks from base on. -/
def BkAt (w : World) (bb base : Nat) (Bs : List Bsk) : Prop := ∃ sb cb n1 n2, BkIn w bb sb cb n1 n2 Bs.length (nS Bs) (nC Bs) ∧ base ≤ bb ∧ base ≤ sb ∧ base ≤ cb ∧ n2 ≤ 2000000000
theorem BkAt.below {w w' : World} {bb base : Nat} {Bs : List Bsk} (h : BkAt w bb base Bs) (k : Below w.heap.size w w') : BkAt w' bb base Bs := by
  obtain ⟨sb, cb, n1, n2, h1, h2⟩ := h
  exact ⟨sb, cb, n1, n2, h1.kept (below_kept (S := fun _ => False) k (Nat.le_refl _)) (fun h => h) (fun h => h) (fun h => h), h2⟩
theorem nS_snoc (B : List Bsk) (f : Bsk) (x : ByteArray) : nS (B ++ [f]) x = nS B x + one (f x).isSome := by
  unfold nS one
  rw [List.countP_append, List.countP_singleton]
theorem nC_snoc (B : List Bsk) (f : Bsk) (x y : ByteArray) : nC (B ++ [f]) x y = nC B x y + one (behB f x y) := by
  unfold nC one
  rw [List.countP_append, List.countP_singleton]
theorem nS_le (B : List Bsk) (x : ByteArray) : nS B x ≤ B.length := List.countP_le_length
theorem nC_le (B : List Bsk) (x y : ByteArray) : nC B x y ≤ B.length := List.countP_le_length
theorem ownB_snoc (l : List Ev) (x : Ev) (p : ByteArray) : ownB (l ++ [x]) p = if buyB x = true ∧ x.person = p then ownB l p ++ [x] else ownB l p := by
  unfold ownB
  rw [List.filter_append]
  by_cases h : buyB x = true ∧ x.person = p
  · rw [if_pos h]; simp [h.1, h.2]
  · rw [if_neg h]
    have : (buyB x && decide (x.person = p)) = false := by
      cases hb : buyB x
      · rfl
      · have : ¬ x.person = p := fun e => h ⟨hb, e⟩
        simp [this]
    simp [this]
theorem clamp_max (g : Int) : min (max g 0) 1099511627776 = clampG g := by
  unfold clampG
  split <;> (try split) <;> omega
theorem bskG_put {f : Bsk} {x : ByteArray} (h : f x = none) (t : Int) : ∀ kl, upd (mapG (bskG f)) (.string x.data.toList) (.int .i64 t) kl = mapG (bskG (putB f x t)) kl := fun kl => by
  rw [mapG_upd]
  have : updG (bskG f) x (.int .i64 t) = bskG (putB f x t) := by
    funext y
    unfold updG bskG putB
    rw [h]
    by_cases e : y = x <;> simp [e]
  rw [this]
theorem scan_prev (g : Int) (r : List Ev) : (scan g r).prev = r.getLast?.map (·.tick) := by
  refine snocInd (p := fun r => (scan g r).prev = r.getLast?.map (·.tick)) r rfl (fun r e _ => ?_)
  rw [scan_snoc, List.getLast?_concat]
  unfold scStep
  split <;> rfl
theorem buy_tick {x : Ev} (h : buyB x = true) : 0 ≤ x.tick ∧ x.tick ≤ 1099511627776 := by
  unfold buyB mayB at h
  simp only [Bool.and_eq_true, decide_eq_true_eq] at h
  exact h.1.2.2.1
theorem scan_done_le (g : Int) (r : List Ev) : (scan g r).done.length ≤ r.length := by
  refine snocInd (p := fun r => (scan g r).done.length ≤ r.length) r (Nat.le_refl _) (fun r e ih => ?_)
  rw [scan_snoc, List.length_append]
  unfold scStep
  split
  · show ((scan g r).done ++ [(scan g r).cur]).length ≤ _
    rw [List.length_append]; simp; omega
  · show (scan g r).done.length ≤ _
    omega
theorem BD_snoc (g : Int) (l : List Ev) (D : List ByteArray) (p : ByteArray) : BD g l (D ++ [p]) = BD g l D ++ BL g l p := by
  unfold BD
  rw [List.flatMap_append]
  simp
def BoxE (W : World) (b : Nat) (x : Ev) : Prop := World.cell? W ⟨b, 0, none⟩ = some (.string x.src) ∧ World.cell? W ⟨b, 1, none⟩ = some (.int .i64 x.num) ∧ World.cell? W ⟨b, 2, none⟩ = some (.int .i64 x.tick) ∧ World.cell? W ⟨b, 3, none⟩ = some (.int .i64 x.kind) ∧ World.cell? W ⟨b, 4, none⟩ = some (.string x.person) ∧ World.cell? W ⟨b, 5, none⟩ = some (.string x.item) ∧ World.cell? W ⟨b, 6, none⟩ = some (.int .i64 x.value) ∧ World.cell? W ⟨b, 7, none⟩ = some (.string x.text)
theorem BoxE.keep {W W' : World} {b : Nat} {x : Ev} (h : BoxE W b x) (hk : ∀ j, W'.cell? ⟨b, j, none⟩ = W.cell? ⟨b, j, none⟩) : BoxE W' b x := by
  obtain ⟨h0, h1, h2, h3, h4, h5, h6, h7⟩ := h
  exact ⟨(hk _).trans h0, (hk _).trans h1, (hk _).trans h2, (hk _).trans h3, (hk _).trans h4, (hk _).trans h5, (hk _).trans h6, (hk _).trans h7⟩
theorem zeroSl (w : World) : (zeroValue 22).run Tryd.prog w = .ok (.slice none 0 0) w := by kernel_rfl

set_option maxHeartbeats 8000000 in
set_option maxRecDepth 100000 in
theorem of_any (gap : Int) (A : Option Addr) (l : List Ev) (n c : Nat) (w : World) (B : Nat) (hn : l.length = n) (hl : EvsAt w B A l) (hB : B ≤ w.heap.size) (hb : n ≤ 100) (hsh : ∀ e ∈ l, EvSh e) (hg : GlobAt w) :
    Calls Tryd.prog 10 #[.int .i64 gap, .slice A n c] w fun e w' => ∃ bb D, e = .returned (.pointer (some ⟨bb, 0, none⟩)) ∧ IsPpl l D ∧ (BD (clampG gap) l D).length ≤ 100000 ∧ BkAt w' bb w.heap.size (BD (clampG gap) l D) ∧ Below w.heap.size w w' := by
  have HN := Lib.hid hn
  have HL := Lib.hid hl
  have HSH := Lib.hid hsh
  have HG := Lib.hid hg
  obtain ⟨gq, hgq⟩ : ∃ gq, min (max gap 0) 1099511627776 = gq := ⟨_, rfl⟩
  have HGQ : Hid (clampG gap = gq) := Lib.hid (by rw [← clamp_max, hgq])
  have HGN : Hid (0 ≤ gq) := Lib.hid (by rw [← HGQ.out]; exact clampG_nn _)
  have hgb : 0 ≤ gq ∧ gq ≤ 1099511627776 := by rw [← hgq]; omega
  obtain ⟨hgb1, hgb2⟩ := hgb
  clear hn hl hsh hg
  obtain ⟨i0, hi0, hz0, hz1, hz2⟩ := info_parts ev_info
  have hmm := @run_makeMap Tryd.prog
  obtain ⟨w1, hw1⟩ : ∃ w1, w.alloc (.map #[] 0) = w1 := ⟨_, rfl⟩
  have HG1 : Hid (GrpIn evC 8 33 w1 w.heap.size 0 w.heap.size (fun _ => none) (fun _ => ([] : List Ev))) := Lib.hid (by rw [← hw1]; exact GrpIn.made _ _)
  have HB1 : Hid (Below w.heap.size w w1) := Lib.hid (by rw [← hw1]; exact (Below.refl _ _).alloc (Nat.le_refl _) _)
  go_enter Tryd.func10, Tryd.ntmps10
  go_wp2_with fail
  clear hw1 hgq
  go_loopw [22] (fun i wr => ∃ k : Nat, k ≤ n ∧ i = .int .i64 k ∧ Hid (∃ G, GrpIn evC 8 33 wr w.heap.size k w.heap.size G (ownB (l.take k))) ∧ Hid (Below w.heap.size w wr)) (fun i _ => n - (intOf i).toNat)
  case atStart => exact ⟨0, Nat.zero_le _, rfl, Lib.hid ⟨_, HG1.out.rows (fun p => rfl)⟩, HB1⟩
  case round =>
    clear HG1 HB1
    obtain ⟨k, hk, rfl, hgrp, hbw⟩ := hrel
    by_cases hlt : k < n
    · obtain ⟨x, hx⟩ : ∃ x, l[k]? = some x := ⟨l[k]'(by rw [HN.out]; exact hlt), List.getElem?_eq_getElem _⟩
      obtain ⟨g, o, rfl, hgB, hcl⟩ := HL.out.at (by rw [HN.out]; omega)
      have hgw : g < w.heap.size := Nat.lt_of_lt_of_le hgB hB
      have HE0 := Lib.hid (hcl k x hx)
      obtain ⟨e0, e1, e2, e3, e4, e5, e6, e7⟩ : EvAt wr g (o + k * 8) x := HE0.out.keep (fun j => hbw.out.cell (p := ⟨g, j, none⟩) hgw)
      have HSX := Lib.hid (HSH.out x (List.mem_of_getElem? hx))
      have HTK : Hid (∀ p, ownB (l.take (k + 1)) p = if buyB x = true ∧ x.person = p then ownB (l.take k) p ++ [x] else ownB (l.take k) p) := Lib.hid (fun p => by rw [take_snoc hx, ownB_snoc])
      have HOL : Hid (∀ p, (ownB (l.take k) p).length ≤ k) := Lib.hid (fun p => Nat.le_trans (List.length_filter_le _ _) (by rw [List.length_take]; omega))
      obtain ⟨w3, hw3⟩ : ∃ w3, wr.alloc (.cells #[.string x.src, .int .i64 x.num, .int .i64 x.tick, .int .i64 x.kind, .string x.person, .string x.item, .int .i64 x.value, .string x.text] 33) = w3 := ⟨_, rfl⟩
      have HBX3 : Hid (BoxE w3 wr.heap.size x) := Lib.hid (by
        have bl : Blk w3 wr.heap.size 33 #[.string x.src, .int .i64 x.num, .int .i64 x.tick, .int .i64 x.kind, .string x.person, .string x.item, .int .i64 x.value, .string x.text] := by rw [← hw3]; exact Blk.new _ _ _
        exact ⟨bl.cell 0, bl.cell 1, bl.cell 2, bl.cell 3, bl.cell 4, bl.cell 5, bl.cell 6, bl.cell 7⟩)
      have HB3 : Hid (Below w.heap.size w w3) := Lib.hid (by rw [← hw3]; exact hbw.out.alloc hbw.out.size _)
      have HLT3 : Hid (wr.heap.size < w3.heap.size) := Lib.hid (by rw [← hw3]; simp)
      obtain ⟨G, hG⟩ := hgrp.out
      have HLV : Hid (∀ p v g, G p = some v → v.ownBlock = some g → w.heap.size ≤ g ∧ g < wr.heap.size ∧ g ≠ w.heap.size) := Lib.hid (fun p v g h1 h2 => hG.live h1 h2)
      have HG3 : Hid (GrpIn evC 8 33 w3 w.heap.size k w.heap.size G (ownB (l.take k))) := Lib.hid (by rw [← hw3]; exact hG.below ((Below.refl _ _).alloc (Nat.le_refl _) _))
      have hk8 : (k : Int) < (n : Int) := by omega
      have hk9 : (0 : Int) ≤ (k : Int) := by omega
      obtain ⟨c0, c1, c2, c3, c4, c5, c6, c7⟩ := HBX3.out
      clear hcl hx hG hgrp
      by_cases hkd : x.kind = 3
      rotate_left
      · have q1 : (x.kind == 3) = false := Bool.eq_false_iff.2 (fun e => hkd (beq_iff_eq.1 e))
        have HNB : Hid (buyB x = false) := Lib.hid (by unfold buyB; rw [decide_eq_false hkd]; simp)
        clear hkd
        go_wp2_with fail
        go_roundw
        case rel =>
          refine ⟨k + 1, by omega, by go_num, Lib.hid ⟨G, (HG3.out.mono (Nat.le_succ _)).rows (fun p => ?_)⟩, HB3⟩
          rw [HTK.out, if_neg (fun h => by rw [HNB.out] at h; cases h.1)]
        case measure => simp [intOf]; omega
      have q1 : (x.kind == 3) = true := beq_iff_eq.2 hkd
      have HMY := Lib.hid (may_any x w3 HSX.out (HG.out.keep HB3.out (Nat.le_refl _)))
      have HBY : Hid (buyB x = mayB x) := Lib.hid (by unfold buyB; rw [decide_eq_true hkd]; simp)
      unfold evA at HMY
      clear hkd
      go_wp2_with fail
      refine HMY.out.mono ?_
      rintro e w4 ⟨rfl, hb4⟩
      have HB4 : Hid (Below w.heap.size w w4) := Lib.hid (HB3.out.trans (hb4.mono HB3.out.size))
      have HBX4 : Hid (BoxE w4 wr.heap.size x) := Lib.hid (HBX3.out.keep (fun j => hb4.cell (p := ⟨wr.heap.size, j, none⟩) HLT3.out))
      have HG4 : Hid (GrpIn evC 8 33 w4 w.heap.size k w.heap.size G (ownB (l.take k))) := Lib.hid (HG3.out.below hb4)
      have HLT4 : Hid (wr.heap.size < w4.heap.size) := Lib.hid (Nat.lt_of_lt_of_le HLT3.out hb4.size)
      clear HMY hb4 HBX3 HB3 HLT3 HG3 hw3 c0 c1 c2 c3 c4 c5 c6 c7 e0 e1 e2 e3 e4 e5 e6 e7
      cases hmay : mayB x
      · have HNB : Hid (buyB x = false) := Lib.hid (by rw [HBY.out, hmay])
        clear hmay
        go_wp2_with fail
        go_roundw
        case rel =>
          refine ⟨k + 1, by omega, by go_num, Lib.hid ⟨G, (HG4.out.mono (Nat.le_succ _)).rows (fun p => ?_)⟩, HB4⟩
          rw [HTK.out, if_neg (fun h => by rw [HNB.out] at h; cases h.1)]
        case measure => simp [intOf]; omega
      have HNB : Hid (buyB x = true) := Lib.hid (by rw [HBY.out, hmay])
      obtain ⟨A5, c5, hgr, how, hold⟩ := HG4.out.row x.person
      have hol := HOL.out x.person
      obtain ⟨N, hN⟩ : ∃ N, (ownB (l.take k) x.person).length = N := ⟨_, rfl⟩
      rw [hN] at hgr how hold hol
      have HNN := Lib.hid hN
      have HOW := Lib.hid how
      have HOLD := Lib.hid hold
      have HGR := Lib.hid hgr
      have hps : x.person.size ≤ maxLen := by have := HSX.out.2.1; unfold maxLen; omega
      have HLK : Hid (∀ W, BoxE W wr.heap.size x ∧ MapIs Tryd.prog 9 okSl W w.heap.size k (mapG G) → BoxE W wr.heap.size x ∧ (Instr.lookup 49 (.map (some w.heap.size)) (.string x.person) false).run Tryd.prog W = .ok (.slice A5 N c5) W) := Lib.hid (fun W h => ⟨h.1, by
        have := h.2.look (string_keyed Tryd.underlying9) Tryd.underlying49 (zeroSl W) rfl (WideMaps.keyOf_string_mk Tryd.underlying9 hps)
        rw [mapG_at, HGR.out] at this
        exact this⟩)
      have HS4 : Hid (BoxE w4.drew wr.heap.size x ∧ MapIs Tryd.prog 9 okSl w4.drew w.heap.size k (mapG G)) := Lib.hid ⟨HBX4.out, HG4.out.map⟩
      have hz4 := HB4.out.size
      have HLM : Hid (w.heap.size < w4.heap.size) := Lib.hid HG4.out.map.lt
      clear hN how hold hgr hmay
      go_wp2_with fail
      refine wp_planN (fun W => BoxE W wr.heap.size x ∧ MapIs Tryd.prog 9 okSl W w.heap.size k (mapG G)) [(0, 1), (1, 1), (2, 1), (3, 1), (4, 1), (5, 1), (6, 1), (7, 1), (8, 2), (9, 2), (10, 3)] (by kernel_rfl) (by kernel_rfl) HS4.out ?_
      simp only [planNL, List.getElem?_cons_zero, List.getElem?_cons_succ]
      repeat (first | (refine planN_on _ (by rfl) (fun W hW => by (obtain ⟨⟨x0, x1, x2, x3, x4, x5, x6, x7⟩, hlk⟩ := HLK.out W hW; go_simp; try with_reducible rfl)) ?_; simp only [Act.put, List.setIfInBounds_toArray, List.set_cons_zero, List.set_cons_succ]) | (refine planN_off (by rfl) ?_; simp only [Act.put, List.setIfInBounds_toArray, List.set_cons_zero, List.set_cons_succ]))
      refine planN_turn ?_
      go_wp2_with fail
      obtain ⟨w5, hw5⟩ : ∃ w5, (w4.alloc (.cells #[.string x.src, .int .i64 x.num, .int .i64 x.tick, .int .i64 x.kind, .string x.person, .string x.item, .int .i64 x.value, .string x.text] 33)).drew = w5 := ⟨_, rfl⟩
      rw [hw5]
      have HK5 : Hid (Kept (fun _ => False) w4 w5) := Lib.hid (by rw [← hw5]; exact ((Kept.refl _ _).alloc _).drew)
      have HBX5 : Hid (BoxE w5 wr.heap.size x) := Lib.hid (HBX4.out.keep (fun j => HK5.out.cell (p := ⟨wr.heap.size, j, none⟩) HLT4.out (fun h => h)))
      have HM5 : Hid (MapIs Tryd.prog 9 okSl w5 w.heap.size k (mapG G)) := Lib.hid (HG4.out.map.kept HK5.out (fun h => h))
      have HO5 : Hid (w5.ownsRow w.heap.size 33 8 (.slice A5 N c5) N ((ownB (l.take k) x.person).flatMap evC)) := Lib.hid (owns_kept HOW.out HK5.out (fun _ _ h => h))
      have HR5 : Hid (RowIn w5 (w4.heap.size + 1) 8 (some ⟨w4.heap.size, 0, none⟩) 1 (evC x)) := Lib.hid (by rw [← hw5]; exact one_ev w4 x _)
      have HZ5 : Hid (w.heap.size ≤ w5.heap.size) := Lib.hid (Nat.le_trans hz4 HK5.out.size)
      have HRL : Hid (∀ g, (Value.slice A5 N c5).ownBlock = some g → w.heap.size ≤ g ∧ g < wr.heap.size ∧ g ≠ w.heap.size) := Lib.hid (fun g hg => HLV.out _ _ g (HOLD.out g hg).2 hg)
      refine ⟨⟨HBX5.out, HM5.out⟩, ?_⟩
      refine planN_turn ?_
      clear hw5
      go_wp2_with (first
        | (at_builtin; refine wpList_append_row _ rfl _ _ 22 rfl w.heap.size 33 i0 _ 8 96 Tryd.underlying22 hi0 hz0 hz1 hz2 rfl (by omega) (.slice A5 N c5) N _ rfl HO5.out (w4.heap.size + 1) (some ⟨w4.heap.size, 0, none⟩) 1 1 (evC x) rfl HR5.out (fun h => by cases h) (fun u hu => evC_one [x] u (by simpa using hu)) (by unfold maxLen; omega) (by omega) HZ5.out ?_; intro v7 w7 ho7 hg7 hv7))
      obtain ⟨A7, c7, hv⟩ := own_shape ho7
      subst hv
      have HK7 : Hid (Kept (fun q => (Value.slice A5 N c5).ownBlock = some q) w5 w7) := Lib.hid ((Kept.refl _ _).grown hg7 (fun j hj => Or.inl hj))
      have HBX7 : Hid (BoxE w7 wr.heap.size x) := Lib.hid (HBX5.out.keep (fun j => HK7.out.cell (p := ⟨wr.heap.size, j, none⟩) (Nat.lt_of_lt_of_le HLT4.out HK5.out.size) (fun h => absurd (HRL.out _ h).2.1 (Nat.lt_irrefl _))))
      have HM7 : Hid (MapIs Tryd.prog 9 okSl w7 w.heap.size k (mapG G)) := Lib.hid (HM5.out.kept HK7.out (fun h => by have := (HRL.out _ h).2.2; omega))
      have HO7 := Lib.hid ho7
      have HV7 : Hid ((Value.slice A7 (N + 1) c7).ownBlock = (Value.slice A5 N c5).ownBlock ∨ ∃ g, (Value.slice A7 (N + 1) c7).ownBlock = some g ∧ w4.heap.size ≤ g) := Lib.hid (hv7.imp id (fun h => ⟨_, h, HK5.out.size⟩))
      clear ho7 hg7 hv7
      refine ⟨⟨HBX7.out, HM7.out⟩, ?_⟩
      refine planN_last ?_
      go_wp2_with (first
        | (at_mapUpdate; refine wpList_storeM _ rfl _ _ _ 49 rfl 9 22 (string_keyed Tryd.underlying9) Tryd.underlying49 okSl w.heap.size k (mapG G) rfl HM7.out (by unfold maxLen; omega) _ (.slice A7 (N + 1) c7) _ rfl rfl (WideMaps.keyOf_string_mk Tryd.underlying9 hps) rfl ?_; intro w8 hm8 hg8 hs8))
      have HK8 : Hid (Kept (fun q => q = w.heap.size) w7 w8) := Lib.hid ((Kept.refl _ _).grown hg8 (fun j hj => by cases hj; exact Or.inl rfl))
      have HM8 := Lib.hid hm8
      clear hm8 hg8 hs8
      refine planN_done ?_
      go_wp2_with fail
      go_roundw
      case rel =>
        have hnm : ∀ g, (Value.slice A7 (N + 1) c7).ownBlock = some g → g ≠ w.heap.size := fun g hg => by
          rcases HV7.out with h | ⟨g', h, h'⟩
          · rw [h] at hg; exact (HRL.out g hg).2.2
          · rw [h] at hg; cases hg; have := HLM.out; omega
        have hkk : Kept (fun q => q = w.heap.size ∨ (Value.slice A5 N c5).ownBlock = some q) w4 w8 := ((HK5.out.mono (fun _ _ h => h.elim)).trans' HK7.out (fun _ _ h => Or.inr h)).trans' HK8.out (fun _ _ h => Or.inl h)
        refine ⟨k + 1, by omega, by go_num, Lib.hid ⟨_, HG4.out.more (A := A5) (cap := c5) (x := x) HNN.out HOLD.out HM8.out hkk (owns_kept HO7.out HK8.out hnm) HV7.out (by rw [HTK.out, if_pos ⟨HNB.out, rfl⟩]) (fun q hq => by rw [HTK.out, if_neg (fun h => hq h.2.symm)])⟩, Lib.hid ?_⟩
        exact HB4.out.trans ((hkk.toBelow (B := w.heap.size) (fun i hi => by
          rcases hi with hi | hi
          · omega
          · exact (HRL.out i hi).1) HB4.out.size))
      case measure => simp [intOf]; omega
    · obtain rfl : n = k := by omega
      have htl : l.take n = l := by rw [← HN.out, List.take_length]
      rw [htl] at hgrp
      obtain ⟨G, hG⟩ := hgrp.out
      have HGA := Lib.hid hG.apart
      have HG0 : Hid (∀ p, ownB l p = [] → G p = none) := Lib.hid hG.none_
      have HG1 : Hid (∀ p, ownB l p ≠ [] → ∃ g cap, G p = some (.slice (some ⟨g, 0, none⟩) (ownB l p).length cap)) := Lib.hid (fun p hp => by obtain ⟨g, cap, h1, _⟩ := hG.some_ p hp; exact ⟨g, cap, h1⟩)
      have HLV : Hid (∀ p v g, G p = some v → v.ownBlock = some g → w.heap.size ≤ g ∧ g < wr.heap.size ∧ g ≠ w.heap.size) := Lib.hid (fun p v g h1 h2 => hG.live h1 h2)
      have HOLN : Hid (∀ p, (ownB l p).length ≤ n) := Lib.hid (fun p => Nat.le_trans (List.length_filter_le _ _) (by rw [HN.out]; exact Nat.le_refl _))
      obtain ⟨w1, hw1⟩ : ∃ w1, wr.alloc (.map #[] 0) = w1 := ⟨_, rfl⟩
      obtain ⟨w2, hw2⟩ : ∃ w2, w1.alloc (.map #[] 0) = w2 := ⟨_, rfl⟩
      obtain ⟨w3, hw3⟩ : ∃ w3, w2.alloc (.cells #[.int .i64 0, .map (some wr.heap.size), .map (some w1.heap.size)] 53) = w3 := ⟨_, rfl⟩
      have hz1 : w1.heap.size = wr.heap.size + 1 := by rw [← hw1]; simp
      have hz2 : w2.heap.size = wr.heap.size + 2 := by rw [← hw2]; simp [hz1]
      have hz3 : w3.heap.size = wr.heap.size + 3 := by rw [← hw3]; simp [hz2]
      have HBK3 : Hid (BkIn w3 w2.heap.size wr.heap.size w1.heap.size 0 0 ([] : List Bsk).length (nS []) (nC [])) := Lib.hid (by
        refine ⟨by rw [← hw3]; exact Blk.new _ _ _, ?_, ⟨fun _ => none, ?_, Cnt2.none⟩, by omega⟩
        · rw [← hw3, ← hw2, ← hw1]
          exact (((MapIs.made wr Tryd.prog 9 okInt).alloc _).alloc _).congr (fun kl => by cases kl <;> rfl)
        · rw [← hw3, ← hw2]
          exact (MapIs.made w1 Tryd.prog 69 okInt).alloc _)
      have hb3 : Below wr.heap.size wr w3 := by rw [← hw3, ← hw2, ← hw1]; exact (((Below.refl _ _).alloc (Nat.le_refl _) _).alloc (by simp) _).alloc (by simp; omega) _
      have HB3 : Hid (Below w.heap.size w w3) := Lib.hid (hbw.out.trans (hb3.mono hbw.out.size))
      have HG3 := Lib.hid (hG.below hb3)
      have HSZ : Hid (wr.heap.size + 3 = w3.heap.size ∧ w1.heap.size = wr.heap.size + 1 ∧ w2.heap.size = wr.heap.size + 2 ∧ w.heap.size < wr.heap.size) := Lib.hid ⟨hz3.symm, hz1, hz2, hG.map.lt⟩
      clear hz1 hz2 hz3 hb3 hG hgrp htl hbw hlt hk
      have hmm := @run_makeMap Tryd.prog
      go_wp2_with (first
        | (at_range; refine wpList_rangeM _ rfl _ 49 rfl 9 22 (string_keyed Tryd.underlying9) Tryd.underlying49 okSl w.heap.size n _ rfl HG3.out.map ?_; intro w4 cnt0 hrg0 hg0 hs0 hc0)
        | fail)
      clear hw1 hw2 hw3
      obtain ⟨sb, hsb⟩ : ∃ sb, wr.heap.size = sb := ⟨_, rfl⟩
      obtain ⟨cb, hcb⟩ : ∃ cb, w1.heap.size = cb := ⟨_, rfl⟩
      obtain ⟨bb, hbb⟩ : ∃ bb, w2.heap.size = bb := ⟨_, rfl⟩
      obtain ⟨r, hr⟩ : ∃ r, w3.heap.size = r := ⟨_, rfl⟩
      have hk4 : Kept (fun _ => False) w3 w4 := (Kept.refl _ _).grown hg0 (fun j hj => by cases hj)
      have HB4 : Hid (Below w.heap.size w w4) := Lib.hid (HB3.out.grown hg0 HB3.out.size (fun j hj => by cases hj))
      have HBK4 := Lib.hid (HBK3.out.kept hk4 (fun h => h) (fun h => h) (fun h => h))
      have HRO4 : Hid (∀ p v, G p = some v → w4.ownsRow w.heap.size 33 8 v (ownB l p).length ((ownB l p).flatMap evC)) := Lib.hid (fun p v hp => by
        by_cases hr : ownB l p = []
        · rw [HG0.out p hr] at hp; cases hp
        · obtain ⟨g, cap, h1, h2, _⟩ := HG3.out.some_ p hr
          rw [h1] at hp
          cases hp
          exact owns_kept h2 hk4 (fun _ _ h => h))
      rw [hsb, hcb, hbb, hr] at HSZ
      rw [hsb, hcb, hbb] at HBK4
      rw [hsb] at HLV
      rw [hr] at hrg0
      rw [hsb, hcb, hbb, hr]
      have HRG4 := Lib.hid hrg0
      clear hrg0 hg0 hs0 hk4 HBK3 HG3 HB3 hsb hcb hbb hr HG
      obtain ⟨mb, hmb⟩ : ∃ mb, w.heap.size = mb := ⟨_, rfl⟩
      go_frame
      go_loopw [] (fun wr => ∃ (left : Lit → Bool) (cnt : Nat) (D : List ByteArray) (n1 n2 : Nat), Hid (MapGoes Tryd.prog 9 okSl wr w.heap.size r n (mapG G) left cnt) ∧ cnt ≤ cnt0 ∧ Hid (D.Nodup ∧ ∀ p, p ∈ D ↔ ((G p).isSome = true ∧ left (.string p.data.toList) = false)) ∧ (BD gq l D).length ≤ 101 * (cnt0 - cnt) ∧ n1 ≤ 20000 * (cnt0 - cnt) ∧ n2 ≤ 20000000 * (cnt0 - cnt) ∧ Hid (BkIn wr bb sb cb n1 n2 (BD gq l D).length (nS (BD gq l D)) (nC (BD gq l D))) ∧ Hid (∀ p v, left (.string p.data.toList) = true → G p = some v → wr.ownsRow w.heap.size 33 8 v (ownB l p).length ((ownB l p).flatMap evC)) ∧ Hid (Below w.heap.size w wr)) (fun wr => wr.rangeLeft w.heap.size r)
      case atStart =>
        refine ⟨_, cnt0, [], 0, 0, HRG4, Nat.le_refl _, Lib.hid ⟨List.Pairwise.nil, fun p => ⟨fun h => (by cases h), fun h => ?_⟩⟩, Nat.zero_le _, Nat.zero_le _, Nat.zero_le _, HBK4, Lib.hid (fun p v _ hp => HRO4.out p v hp), HB4⟩
        have h2 : (mapG G (.string p.data.toList)).isSome = false := h.2
        rw [mapG_at, h.1] at h2
        cases h2
      case round =>
        clear HRG4 HBK4 HRO4 HB4 hmb mb
        obtain ⟨left, cnt, D, n1, n2, hrg, hcnt, hD, hlenD, hn1, hn2, hbk, hrows, hbw⟩ := hrel
        go_wp2_with (first
          | (at_next; refine wpList_nextS _ rfl _ rfl 9 Tryd.underlying9 okSl (fun x : Option Addr × Nat × Nat => .slice x.1 x.2.1 x.2.2) (fun v hv => mk_sl hv) w.heap.size r n _ _ _ rfl hrg.out ?_ ?_)
          | fail)
        · intro _ hl0
          have HIP : Hid (IsPpl l D) := Lib.hid ⟨hD.out.1, fun p => by
            rw [hD.out.2, hl0]
            constructor
            · rintro ⟨h1, _⟩
              by_cases hr : ownB l p = []
              · rw [HG0.out p hr] at h1; cases h1
              · obtain ⟨e, he⟩ := List.exists_mem_of_ne_nil _ hr
                rw [ownB_mem] at he
                exact ⟨e, he.1, he.2.1, he.2.2⟩
            · rintro ⟨e, he, h1, h2⟩
              have hr : ownB l p ≠ [] := fun h => by
                have : e ∈ ownB l p := ownB_mem.2 ⟨he, h1, h2⟩
                rw [h] at this; cases this
              obtain ⟨g, cap, h3⟩ := HG1.out p hr
              exact ⟨by rw [h3]; rfl, rfl⟩⟩
          clear hl0
          go_wp2_with fail
          go_ret
          rw [HGQ.out]
          exact ⟨bb, D, rfl, HIP.out, by omega, ⟨sb, cb, n1, n2, hbk.out, by have := HSZ.out; omega, by have := HSZ.out; omega, by have := HSZ.out; omega, by omega⟩, hbw.out⟩
        · intro p va vl vc w5 cnt1 hsz hlk hok hMt hrg5 hlt5 hg5 hs5 hen
          rw [mapG_at] at hMt
          have hne : ownB l p ≠ [] := fun h => by rw [HG0.out p h] at hMt; cases hMt
          obtain ⟨g, cap, hGp⟩ := HG1.out p hne
          rw [hMt] at hGp
          injection hGp with hGp
          injection hGp with h1 h2 h3
          subst h1
          subst h3
          obtain ⟨N, hN⟩ : ∃ N, (ownB l p).length = N := ⟨_, rfl⟩
          rw [hN] at h2
          subst h2
          have HNN := Lib.hid hN
          have HNE := Lib.hid hne
          have HMT := Lib.hid hMt
          have hNn : vl ≤ n := by rw [← hN]; exact HOLN.out p
          obtain ⟨z1, z2, z3, z4⟩ := HSZ.out
          have hglv := HLV.out p _ g hMt rfl
          have hk5 : Kept (fun q => q = r) wr w5 := (Kept.refl _ _).grown hg5 (fun j hj => by cases hj; exact Or.inl rfl)
          have HB5 : Hid (Below w.heap.size w w5) := Lib.hid (hbw.out.grown hg5 hbw.out.size (fun j hj => by cases hj; omega))
          have HBK5 := Lib.hid (hbk.out.kept hk5 (by omega) (by omega) (by omega))
          have HRW5 : Hid (∀ q v, left (.string q.data.toList) = true → G q = some v → w5.ownsRow w.heap.size 33 8 v (ownB l q).length ((ownB l q).flatMap evC)) := Lib.hid (fun q v h1 h2 => owns_kept (hrows.out q v h1 h2) hk5 (fun g' hg' e => by have := (HLV.out q v g' h2 hg').2.1; omega))
          have HOW5 : Hid (w5.ownsRow w.heap.size 33 8 (.slice (some ⟨g, 0, none⟩) vl vc) vl ((ownB l p).flatMap evC)) := Lib.hid (by have := HRW5.out p _ hlk hMt; rw [hN] at this; exact this)
          have HSRT := Lib.hid (srtE_any w5 w.heap.size (some ⟨g, 0, none⟩) (ownB l p) vl vc hN HOW5.out (by omega))
          have HRG5 := Lib.hid hrg5
          have HLT5 : Hid (cnt1 < wr.rangeLeft w.heap.size r) := Lib.hid (by rw [hrg.out.left_eq]; exact hlt5)
          have hcnt1 : cnt1 < cnt := hlt5
          have HLK := Lib.hid hlk
          have HGL := Lib.hid hglv
          clear hMt hne hN hk5 hrg5 hlt5 hg5 hs5 hrg hbk hrows hok hbw hglv z1 z2 z3 z4 hlk
          go_wp2_with fail
          refine HSRT.out.mono ?_
          rintro e w6 ⟨rfl, l', hperm, hpw, hrow, hk6⟩
          obtain ⟨w7, hw7⟩ : ∃ w7, w6.alloc (.map #[] 0) = w7 := ⟨_, rfl⟩
          have hk67 : Kept (fun _ => False) w6 w7 := by rw [← hw7]; exact (Kept.refl _ _).alloc _
          have hk57 : Kept (fun q => q = g) w5 w7 := (hk6.mono (fun i _ h => by cases h; rfl)).trans' hk67 (fun _ _ h => h.elim)
          have HB7 : Hid (Below w.heap.size w w7) := Lib.hid (HB5.out.trans (hk57.toBelow (B := w.heap.size) (fun i hi => by have := HGL.out; omega) HB5.out.size))
          have HBK7 := Lib.hid (HBK5.out.kept hk57 (by have := HGL.out; have := HSZ.out; omega) (by have := HGL.out; have := HSZ.out; omega) (by have := HGL.out; have := HSZ.out; omega))
          have HRG7 := Lib.hid (HRG5.out.kept hk57 (by have := HGL.out; omega) (by have := HGL.out; have := HSZ.out; omega))
          have HRW7 : Hid (∀ q v, (left (.string q.data.toList) && !(Lit.string q.data.toList).sameKey (.string p.data.toList)) = true → G q = some v → w7.ownsRow w.heap.size 33 8 v (ownB l q).length ((ownB l q).flatMap evC)) := Lib.hid (fun q v h1 h2 => by
            rw [str_same, Bool.and_eq_true, Bool.not_eq_true', decide_eq_false_iff_not] at h1
            refine owns_kept (HRW5.out q v h1.1 h2) hk57 (fun g' hg' e => ?_)
            subst e
            exact HGA.out q p _ _ h1.2 h2 HMT.out hg')
          have HPM : Hid (∀ e, e ∈ l' ↔ e ∈ ownB l p) := Lib.hid (fun e => hperm.mem_iff)
          have hl'n : l'.length = vl := by rw [hperm.length_eq]; exact HNN.out
          have HLN := Lib.hid hl'n
          have HPW : Hid (l'.Pairwise fun a b => a.tick ≤ b.tick) := Lib.hid (hpw.imp (fun {a b} h => by have h1 := cmpE_lt b a; have h2 : ¬ cmpEI b a < 0 := (by omega); rw [h1] at h2; omega))
          have HRO7 : Hid (EvsAt w7 w5.heap.size (some ⟨g, 0, none⟩) l') := Lib.hid (by unfold EvsAt; rw [hl'n]; exact hrow.keep (fun q hq => hk67.cell (Nat.lt_of_lt_of_le hq hk6.size) (fun h => h)))
          obtain ⟨sm, hsm⟩ : ∃ sm, w6.heap.size = sm := ⟨_, rfl⟩
          have HM7 : Hid (MapIs Tryd.prog 9 okInt w7 sm 0 (mapG (bskG (scan gq (l'.take 0)).cur))) := Lib.hid (by rw [← hw7, ← hsm]; exact (MapIs.made w6 Tryd.prog 9 okInt).congr (fun kl => by cases kl <;> rfl))
          have hsmn : bb < sm ∧ sb < sm ∧ cb < sm ∧ r < sm ∧ g < sm ∧ w.heap.size < sm := by
            have h1 := HBK5.out.lt
            have h2 := HRG5.out.lt
            have h3 := hk6.size
            have h4 := HGL.out
            have h5 := HSZ.out
            omega
          obtain ⟨s1, s2, s3, s4, s5, s6⟩ : sm ≠ bb ∧ sm ≠ sb ∧ sm ≠ cb ∧ sm ≠ r ∧ sm ≠ g ∧ sm ≠ w.heap.size := by omega
          have HS7 : Hid (sm < w7.heap.size) := Lib.hid HM7.out.lt
          have HW7 : Hid (bb < w7.heap.size ∧ sb < w7.heap.size ∧ cb < w7.heap.size) := Lib.hid HBK7.out.lt
          have HSML : Hid (sb < sm) := Lib.hid (by omega)
          clear hsmn hk67 hk57 hperm hpw hrow hk6 HSRT HOW5 HBK5 HRG5 HRW5 HB5 HL hl'n
          have hmm := @run_makeMap Tryd.prog
          go_wp2_with fail
          clear hw7
          (try rw [hsm])
          clear hsm
          go_loopw [59] (fun i wq => ∃ (k m n1' n2' : Nat), k ≤ vl ∧ i = .int .i64 k ∧ m ≤ k ∧ Hid ((scan gq (l'.take k)).done.length ≤ k ∧ n1' ≤ n1 + 100 * (scan gq (l'.take k)).done.length ∧ n2' ≤ n2 + 100000 * (scan gq (l'.take k)).done.length) ∧ Hid (MapIs Tryd.prog 9 okInt wq sm m (mapG (bskG (scan gq (l'.take k)).cur))) ∧ Hid (BkIn wq bb sb cb n1' n2' (BD gq l D ++ (scan gq (l'.take k)).done).length (nS (BD gq l D ++ (scan gq (l'.take k)).done)) (nC (BD gq l D ++ (scan gq (l'.take k)).done))) ∧ Hid (Kept (fun q => q = bb ∨ q = sb ∨ q = cb ∨ q = sm) w7 wq)) (fun i _ => vl - (intOf i).toNat)
          case atStart => exact ⟨0, 0, n1, n2, Nat.zero_le _, rfl, Nat.le_refl _, Lib.hid ⟨Nat.le_refl _, Nat.le_refl _, Nat.le_refl _⟩, HM7, Lib.hid (by have e : BD gq l D ++ (scan gq (l'.take 0)).done = BD gq l D := List.append_nil _; rw [e]; exact HBK7.out), Lib.hid (Kept.refl _ _)⟩
          case round =>
            clear HM7 HBK7
            obtain ⟨k, m, n1', n2', hk, rfl, hmk, hbd, hmap, hbk, hkw⟩ := hrel
            have HGS : Hid (g ≠ bb ∧ g ≠ sb ∧ g ≠ cb ∧ g < w7.heap.size) := Lib.hid (by have h1 := HGL.out; have h2 := HSZ.out; have h3 := HS7.out; have h4 := HW7.out; omega)
            by_cases hlt : k < vl
            · obtain ⟨x, hx⟩ : ∃ x, l'[k]? = some x := ⟨l'[k]'(by rw [HLN.out]; exact hlt), List.getElem?_eq_getElem _⟩
              obtain ⟨g', o, hA, hgB, hcl⟩ := HRO7.out.at (by rw [HLN.out]; omega)
              injection hA with hA
              injection hA with hA1 hA2
              subst hA1
              subst hA2
              have hgn : ∀ j, wr.cell? ⟨g, j, none⟩ = w7.cell? ⟨g, j, none⟩ := fun j => hkw.out.cell (p := ⟨g, j, none⟩) HGS.out.2.2.2 (fun h => by have h1 := HGS.out; have h2 : g = bb ∨ g = sb ∨ g = cb ∨ g = sm := h; omega)
              have HE0 : Hid (∀ j y, l'[j]? = some y → EvAt wr g (0 + j * 8) y) := Lib.hid (fun j y hy => (hcl j y hy).keep hgn)
              obtain ⟨e0, e1, e2, e3, e4, e5, e6, e7⟩ := HE0.out k x hx
              simp only [Nat.zero_add] at e0 e1 e2 e3 e4 e5 e6 e7
              have HXM : Hid (x ∈ ownB l p) := Lib.hid ((HPM.out x).1 (List.mem_of_getElem? hx))
              have hxt := buy_tick (ownB_mem.1 HXM.out).2.1
              have his : x.item.size ≤ maxLen := by have := (HSH.out x (ownB_mem.1 HXM.out).1).2.2.1; unfold maxLen; omega
              have HSC0 : Hid (scan gq (l'.take (k + 1)) = scStep gq (scan gq (l'.take k)) x) := Lib.hid (by rw [take_snoc hx, scan_snoc])
              have HPV := Lib.hid (scan_prev gq (l'.take k))
              have hglt : g < wr.heap.size := Nat.lt_of_lt_of_le HGS.out.2.2.2 hkw.out.size
              obtain ⟨w8, hw8⟩ : ∃ w8, wr.alloc (.cells #[.string x.src, .int .i64 x.num, .int .i64 x.tick, .int .i64 x.kind, .string x.person, .string x.item, .int .i64 x.value, .string x.text] 33) = w8 := ⟨_, rfl⟩
              have HBX8 : Hid (BoxE w8 wr.heap.size x) := Lib.hid (by
                have bl : Blk w8 wr.heap.size 33 #[.string x.src, .int .i64 x.num, .int .i64 x.tick, .int .i64 x.kind, .string x.person, .string x.item, .int .i64 x.value, .string x.text] := by rw [← hw8]; exact Blk.new _ _ _
                exact ⟨bl.cell 0, bl.cell 1, bl.cell 2, bl.cell 3, bl.cell 4, bl.cell 5, bl.cell 6, bl.cell 7⟩)
              have HKA8 : Hid (Kept (fun _ => False) wr w8) := Lib.hid (by rw [← hw8]; exact (Kept.refl _ _).alloc _)
              have HLT8 : Hid (wr.heap.size < w8.heap.size) := Lib.hid (by rw [← hw8]; simp)
              have hk8 : (k : Int) < (vl : Int) := by omega
              have hk9 : (0 : Int) ≤ (k : Int) := by omega
              have c2 : w8.cell? ⟨wr.heap.size, 2, none⟩ = some (.int .i64 x.tick) := HBX8.out.2.2.1
              have hbd' := hbd.out
              obtain ⟨dn, hdn⟩ : ∃ dn, (scan gq (l'.take k)).done = dn := ⟨_, rfl⟩
              obtain ⟨cu, hcu⟩ : ∃ cu, (scan gq (l'.take k)).cur = cu := ⟨_, rfl⟩
              rw [hdn] at hbk hbd'
              rw [hcu] at hmap
              have HDN := Lib.hid hdn
              have HCU := Lib.hid hcu
              clear hdn hcu hbd hcl hgn
              generalize hdl : dn.length = dl at hbd'
              have HDL := Lib.hid hdl
              obtain ⟨hb1, hb2, hb3⟩ := hbd'
              clear hdl
              by_cases hk0 : k = 0
              · have HOP : Hid (opens gq (scan gq (l'.take k)) x.tick = false) := Lib.hid (by rw [hk0]; rfl)
                have hk1 : decide ((0 : Int) < (k : Int)) = false := decide_eq_false (by omega)
                have hk2 : decide (0 < k) = false := decide_eq_false (by omega)
                have hk3 : ¬ 0 < k := by omega
                clear hk0
                have HSC : Hid (scan gq (l'.take (k + 1)) = ⟨dn, putB cu x.item x.tick, some x.tick⟩) := Lib.hid (by rw [HSC0.out]; unfold scStep; rw [HOP.out, HDN.out, HCU.out]; rfl)
                clear HOP HSC0 HDN HCU HPV
                go_wp2_with fail
                go_quiet (fail)
                obtain ⟨w9, hw9⟩ : ∃ w9, w8.drewN nq = w9 := ⟨_, rfl⟩
                rw [hw9]
                have hk89 : Kept (fun _ => False) wr w9 := by rw [← hw9]; exact HKA8.out.drewN _
                have HMw9 : Hid (MapIs Tryd.prog 9 okInt w9 sm m (mapG (bskG cu))) := Lib.hid (hmap.out.kept hk89 (fun h => h))
                have HBKw9 := Lib.hid (hbk.out.kept hk89 (fun h => h) (fun h => h) (fun h => h))
                have HKw9 : Hid (Kept (fun q => q = bb ∨ q = sb ∨ q = cb ∨ q = sm) w7 w9) := Lib.hid (hkw.out.trans' hk89 (fun _ _ h => h.elim))
                have HBX9 : Hid (BoxE w9 wr.heap.size x) := Lib.hid (by rw [← hw9]; exact HBX8.out)
                have HLT9 : Hid (wr.heap.size < w9.heap.size) := Lib.hid (by rw [← hw9]; exact HLT8.out)
                clear hk89 hw9 c2 e0 e1 e2 e3 e4 e5 e6 e7 hbk hmap HBX8 hw8 HKA8 HLT8
                have d5 : w9.cell? ⟨wr.heap.size, 5, none⟩ = some (.string x.item) := HBX9.out.2.2.2.2.2.1
                have d2 : w9.cell? ⟨wr.heap.size, 2, none⟩ = some (.int .i64 x.tick) := HBX9.out.2.2.1
                cases hcur : (cu) x.item with
                | none =>
                  have HLG : Hid ((mapG (bskG (cu)) (.string x.item.data.toList)).getD (.int .i64 0) = .int .i64 0) := Lib.hid (by rw [mapG_at]; unfold bskG; rw [hcur]; rfl)
                  have HLI : Hid ((mapG (bskG (cu)) (.string x.item.data.toList)).isSome = false) := Lib.hid (by rw [mapG_at]; unfold bskG; rw [hcur]; rfl)
                  have HPU := Lib.hid (bskG_put hcur x.tick)
                  clear hcur
                  go_wp2_with (first
                    | (at_lookup; refine wpList_look_okM _ rfl _ _ 50 rfl 9 3 (string_keyed Tryd.underlying9) Tryd.underlying50 okInt _ (zeroInt _) rfl sm _ _ rfl HMw9.out _ _ rfl (WideMaps.keyOf_string_mk Tryd.underlying9 his) _ HLG.out _ HLI.out ?_)
                    | (at_mapUpdate; refine wpList_storeM _ rfl _ _ _ 50 rfl 9 3 (string_keyed Tryd.underlying9) Tryd.underlying50 okInt sm _ _ rfl HMw9.out (by unfold maxLen; omega) _ (.int .i64 x.tick) _ rfl rfl (WideMaps.keyOf_string_mk Tryd.underlying9 his) rfl ?_; intro w20 hm20 hg20 hs20)
                    | fail)
                  have HM20 := Lib.hid (hm20.congr HPU.out)
                  have HK20 : Hid (Kept (fun q => q = sm) w9 w20) := Lib.hid ((Kept.refl _ _).grown hg20 (fun j hj => by cases hj; exact Or.inl rfl))
                  clear hm20 hg20 hs20
                  go_roundw
                  case rel =>
                    refine ⟨k + 1, m + 1, n1', n2', by omega, by go_num, by omega, Lib.hid (by rw [HSC.out]; exact (show dn.length ≤ k + 1 ∧ n1' ≤ n1 + 100 * dn.length ∧ n2' ≤ n2 + 100000 * dn.length from by rw [HDL.out]; omega)), Lib.hid ?_, Lib.hid ?_, Lib.hid (HKw9.out.trans' HK20.out (fun _ _ h => Or.inr (Or.inr (Or.inr h))))⟩
                    · rw [HSC.out]; exact HM20.out
                    · rw [HSC.out]; exact (HBKw9.out.kept HK20.out (Ne.symm s1) (Ne.symm s2) (Ne.symm s3))
                  case measure => simp [intOf]; omega
                | some z =>
                  have HLG : Hid ((mapG (bskG (cu)) (.string x.item.data.toList)).getD (.int .i64 0) = .int .i64 z) := Lib.hid (by rw [mapG_at]; unfold bskG; rw [hcur]; rfl)
                  have HLI : Hid ((mapG (bskG (cu)) (.string x.item.data.toList)).isSome = true) := Lib.hid (by rw [mapG_at]; unfold bskG; rw [hcur]; rfl)
                  have HPU : Hid (putB (cu) x.item x.tick = cu) := Lib.hid (by unfold putB; rw [hcur]; rfl)
                  clear hcur
                  go_wp2_with (first
                    | (at_lookup; refine wpList_look_okM _ rfl _ _ 50 rfl 9 3 (string_keyed Tryd.underlying9) Tryd.underlying50 okInt _ (zeroInt _) rfl sm _ _ rfl HMw9.out _ _ rfl (WideMaps.keyOf_string_mk Tryd.underlying9 his) _ HLG.out _ HLI.out ?_)
                    | fail)
                  go_roundw
                  case rel =>
                    refine ⟨k + 1, m, n1', n2', by omega, by go_num, by omega, Lib.hid (by rw [HSC.out]; exact (show dn.length ≤ k + 1 ∧ n1' ≤ n1 + 100 * dn.length ∧ n2' ≤ n2 + 100000 * dn.length from by rw [HDL.out]; omega)), Lib.hid ?_, Lib.hid ?_, HKw9⟩
                    · rw [HSC.out]; show MapIs _ _ _ _ _ _ (mapG (bskG (putB cu x.item x.tick))); rw [HPU.out]; exact HMw9.out
                    · rw [HSC.out]; exact HBKw9.out
                  case measure => simp [intOf]; omega
              obtain ⟨y, hy⟩ : ∃ y, l'[k - 1]? = some y := ⟨l'[k - 1]'(by rw [HLN.out]; omega), List.getElem?_eq_getElem _⟩
              have HYM : Hid (y ∈ ownB l p) := Lib.hid ((HPM.out y).1 (List.mem_of_getElem? hy))
              have hyt := buy_tick (ownB_mem.1 HYM.out).2.1
              have HPY : Hid ((scan gq (l'.take k)).prev = some y.tick) := Lib.hid (by
                rw [HPV.out]
                have e : k = (k - 1) + 1 := by omega
                rw [e, take_snoc hy, List.getLast?_concat]
                rfl)
              have f2 : wr.cell? ⟨g, (k - 1) * 8 + 2, none⟩ = some (.int .i64 y.tick) := by have := (HE0.out (k - 1) y hy).2.2.1; rwa [Nat.zero_add] at this
              have f2' : w8.cell? ⟨g, (k - 1) * 8 + 2, none⟩ = some (.int .i64 y.tick) := (HKA8.out.cell (p := ⟨g, (k - 1) * 8 + 2, none⟩) hglt (fun h => h)).trans f2
              have hk1 : decide ((0 : Int) < (k : Int)) = true := decide_eq_true (by omega)
              have hk2 : decide (0 < k) = true := decide_eq_true (by omega)
              have hk3 : 0 < k := by omega
              have hk4 : (0 : Int) ≤ (k : Int) - 1 := by omega
              have hk5 : (k : Int) - 1 < (vl : Int) := by omega
              have hk6 : ((k : Int) - 1).toNat = k - 1 := by omega
              have hk7 : (1 : Int) ≤ (k : Int) := by omega
              clear hk0 hx hy f2
              by_cases ho : gq < x.tick - y.tick
              rotate_left
              · have HOP : Hid (opens gq (scan gq (l'.take k)) x.tick = false) := Lib.hid (by unfold opens; rw [HPY.out]; exact decide_eq_false ho)
                have hod : decide (gq < x.tick - y.tick) = false := decide_eq_false ho
                have HSC : Hid (scan gq (l'.take (k + 1)) = ⟨dn, putB cu x.item x.tick, some x.tick⟩) := Lib.hid (by rw [HSC0.out]; unfold scStep; rw [HOP.out, HDN.out, HCU.out]; rfl)
                clear HOP HSC0 HDN HCU HPV
                go_wp2_with fail
                go_quiet (fail)
                obtain ⟨w9, hw9⟩ : ∃ w9, w8.drewN nq = w9 := ⟨_, rfl⟩
                rw [hw9]
                have hk89 : Kept (fun _ => False) wr w9 := by rw [← hw9]; exact HKA8.out.drewN _
                have HMw9 : Hid (MapIs Tryd.prog 9 okInt w9 sm m (mapG (bskG cu))) := Lib.hid (hmap.out.kept hk89 (fun h => h))
                have HBKw9 := Lib.hid (hbk.out.kept hk89 (fun h => h) (fun h => h) (fun h => h))
                have HKw9 : Hid (Kept (fun q => q = bb ∨ q = sb ∨ q = cb ∨ q = sm) w7 w9) := Lib.hid (hkw.out.trans' hk89 (fun _ _ h => h.elim))
                have HBX9 : Hid (BoxE w9 wr.heap.size x) := Lib.hid (by rw [← hw9]; exact HBX8.out)
                have HLT9 : Hid (wr.heap.size < w9.heap.size) := Lib.hid (by rw [← hw9]; exact HLT8.out)
                clear hk89 hw9 c2 e0 e1 e2 e3 e4 e5 e6 e7 hbk hmap HBX8 hw8 HKA8 HLT8
                have d5 : w9.cell? ⟨wr.heap.size, 5, none⟩ = some (.string x.item) := HBX9.out.2.2.2.2.2.1
                have d2 : w9.cell? ⟨wr.heap.size, 2, none⟩ = some (.int .i64 x.tick) := HBX9.out.2.2.1
                cases hcur : (cu) x.item with
                | none =>
                  have HLG : Hid ((mapG (bskG (cu)) (.string x.item.data.toList)).getD (.int .i64 0) = .int .i64 0) := Lib.hid (by rw [mapG_at]; unfold bskG; rw [hcur]; rfl)
                  have HLI : Hid ((mapG (bskG (cu)) (.string x.item.data.toList)).isSome = false) := Lib.hid (by rw [mapG_at]; unfold bskG; rw [hcur]; rfl)
                  have HPU := Lib.hid (bskG_put hcur x.tick)
                  clear hcur
                  go_wp2_with (first
                    | (at_lookup; refine wpList_look_okM _ rfl _ _ 50 rfl 9 3 (string_keyed Tryd.underlying9) Tryd.underlying50 okInt _ (zeroInt _) rfl sm _ _ rfl HMw9.out _ _ rfl (WideMaps.keyOf_string_mk Tryd.underlying9 his) _ HLG.out _ HLI.out ?_)
                    | (at_mapUpdate; refine wpList_storeM _ rfl _ _ _ 50 rfl 9 3 (string_keyed Tryd.underlying9) Tryd.underlying50 okInt sm _ _ rfl HMw9.out (by unfold maxLen; omega) _ (.int .i64 x.tick) _ rfl rfl (WideMaps.keyOf_string_mk Tryd.underlying9 his) rfl ?_; intro w20 hm20 hg20 hs20)
                    | fail)
                  have HM20 := Lib.hid (hm20.congr HPU.out)
                  have HK20 : Hid (Kept (fun q => q = sm) w9 w20) := Lib.hid ((Kept.refl _ _).grown hg20 (fun j hj => by cases hj; exact Or.inl rfl))
                  clear hm20 hg20 hs20
                  go_roundw
                  case rel =>
                    refine ⟨k + 1, m + 1, n1', n2', by omega, by go_num, by omega, Lib.hid (by rw [HSC.out]; exact (show dn.length ≤ k + 1 ∧ n1' ≤ n1 + 100 * dn.length ∧ n2' ≤ n2 + 100000 * dn.length from by rw [HDL.out]; omega)), Lib.hid ?_, Lib.hid ?_, Lib.hid (HKw9.out.trans' HK20.out (fun _ _ h => Or.inr (Or.inr (Or.inr h))))⟩
                    · rw [HSC.out]; exact HM20.out
                    · rw [HSC.out]; exact (HBKw9.out.kept HK20.out (Ne.symm s1) (Ne.symm s2) (Ne.symm s3))
                  case measure => simp [intOf]; omega
                | some z =>
                  have HLG : Hid ((mapG (bskG (cu)) (.string x.item.data.toList)).getD (.int .i64 0) = .int .i64 z) := Lib.hid (by rw [mapG_at]; unfold bskG; rw [hcur]; rfl)
                  have HLI : Hid ((mapG (bskG (cu)) (.string x.item.data.toList)).isSome = true) := Lib.hid (by rw [mapG_at]; unfold bskG; rw [hcur]; rfl)
                  have HPU : Hid (putB (cu) x.item x.tick = cu) := Lib.hid (by unfold putB; rw [hcur]; rfl)
                  clear hcur
                  go_wp2_with (first
                    | (at_lookup; refine wpList_look_okM _ rfl _ _ 50 rfl 9 3 (string_keyed Tryd.underlying9) Tryd.underlying50 okInt _ (zeroInt _) rfl sm _ _ rfl HMw9.out _ _ rfl (WideMaps.keyOf_string_mk Tryd.underlying9 his) _ HLG.out _ HLI.out ?_)
                    | fail)
                  go_roundw
                  case rel =>
                    refine ⟨k + 1, m, n1', n2', by omega, by go_num, by omega, Lib.hid (by rw [HSC.out]; exact (show dn.length ≤ k + 1 ∧ n1' ≤ n1 + 100 * dn.length ∧ n2' ≤ n2 + 100000 * dn.length from by rw [HDL.out]; omega)), Lib.hid ?_, Lib.hid ?_, HKw9⟩
                    · rw [HSC.out]; show MapIs _ _ _ _ _ _ (mapG (bskG (putB cu x.item x.tick))); rw [HPU.out]; exact HMw9.out
                    · rw [HSC.out]; exact HBKw9.out
                  case measure => simp [intOf]; omega
              · have HOP : Hid (opens gq (scan gq (l'.take k)) x.tick = true) := Lib.hid (by unfold opens; rw [HPY.out]; exact decide_eq_true ho)
                have HSC : Hid (scan gq (l'.take (k + 1)) = ⟨dn ++ [cu], putB bsk0 x.item x.tick, some x.tick⟩) := Lib.hid (by rw [HSC0.out]; unfold scStep; rw [HOP.out, HDN.out, HCU.out]; rfl)
                have hod : decide (gq < x.tick - y.tick) = true := decide_eq_true ho
                clear HOP HSC0 HDN HCU HPV
                go_wp2_with fail
                go_quiet (fail)
                obtain ⟨w9, hw9⟩ : ∃ w9, w8.drewN nq = w9 := ⟨_, rfl⟩
                rw [hw9]
                have hk89 : Kept (fun _ => False) wr w9 := by rw [← hw9]; exact HKA8.out.drewN _
                have HMw9 : Hid (MapIs Tryd.prog 9 okInt w9 sm m (mapG (bskG cu))) := Lib.hid (hmap.out.kept hk89 (fun h => h))
                have HBKw9 := Lib.hid (hbk.out.kept hk89 (fun h => h) (fun h => h) (fun h => h))
                have HKw9 : Hid (Kept (fun q => q = bb ∨ q = sb ∨ q = cb ∨ q = sm) w7 w9) := Lib.hid (hkw.out.trans' hk89 (fun _ _ h => h.elim))
                have HBX9 : Hid (BoxE w9 wr.heap.size x) := Lib.hid (by rw [← hw9]; exact HBX8.out)
                have HLT9 : Hid (wr.heap.size < w9.heap.size) := Lib.hid (by rw [← hw9]; exact HLT8.out)
                clear hk89 hw9 c2 e0 e1 e2 e3 e4 e5 e6 e7 hbk hmap HBX8 hw8 HKA8 HLT8
                have hAl : (BD gq l D ++ dn).length ≤ 1000000 := by rw [List.length_append, HDL.out]; omega
                have HADD := Lib.hid (add_any w9 bb sb cb sm n1' n2' m _ _ _ cu HBKw9.out HMw9.out s2 s3 (by omega) (by omega) (by omega) (by omega) (fun z => by have := nS_le (BD gq l D ++ dn) z; omega) (fun z z' => by have := nC_le (BD gq l D ++ dn) z z'; omega))
                clear hAl
                go_wp2_with fail
                refine HADD.out.mono ?_
                rintro e w10 ⟨rfl, hbk10, hk10⟩
                have HM10 := HMw9.out.kept hk10 (fun h => by rcases h with h | h | h <;> omega)
                obtain ⟨w11, hcl, hm11, hg11, hs11⟩ := HM10.cleared Tryd.underlying50
                have hk11 : Kept (fun q => q = sm) w10 w11 := (Kept.refl _ _).grown hg11 (fun j hj => by cases hj; exact Or.inl rfl)
                have HMw11 : Hid (MapIs Tryd.prog 9 okInt w11 sm 0 (mapG (bskG bsk0))) := Lib.hid (hm11.congr (fun kl => by cases kl <;> rfl))
                have HBKw11 : Hid (BkIn w11 bb sb cb (n1' + m) (n2' + 1000 * m) (BD gq l D ++ (dn ++ [cu])).length (nS (BD gq l D ++ (dn ++ [cu]))) (nC (BD gq l D ++ (dn ++ [cu])))) := Lib.hid ((hbk10.kept hk11 (Ne.symm s1) (Ne.symm s2) (Ne.symm s3)).congr (by simp only [List.length_append, List.length_singleton]; omega) (fun z => by rw [← List.append_assoc, nS_snoc]) (fun z z' => by rw [← List.append_assoc, nC_snoc]))
                have HKw11 : Hid (Kept (fun q => q = bb ∨ q = sb ∨ q = cb ∨ q = sm) w7 w11) := Lib.hid ((HKw9.out.trans' hk10 (fun _ _ h => by rcases h with h | h | h; exact Or.inl h; exact Or.inr (Or.inl h); exact Or.inr (Or.inr (Or.inl h)))).trans' hk11 (fun _ _ h => Or.inr (Or.inr (Or.inr h))))
                have HBX11 : Hid (BoxE w11 wr.heap.size x) := Lib.hid (HBX9.out.keep (fun j => by
                  have hl7 := hkw.out.size
                  have hs7 := HS7.out
                  have hbl := HBKw9.out.lt
                  have hz := HSZ.out
                  have hw7 := HW7.out
                  have h1 := hk10.cell (p := ⟨wr.heap.size, j, none⟩) HLT9.out (fun h => by have h3 : wr.heap.size = bb ∨ wr.heap.size = sb ∨ wr.heap.size = cb := h; omega)
                  have h2 := hk11.cell (p := ⟨wr.heap.size, j, none⟩) (Nat.lt_of_lt_of_le HLT9.out hk10.size) (fun h => by have h3 : wr.heap.size = sm := h; omega)
                  exact h2.trans h1))
                clear hbk10 hk10 HM10 hm11 hg11 hs11 hk11 HADD HBKw9 HMw9 HBX9 HKw9
                have d5 : w11.cell? ⟨wr.heap.size, 5, none⟩ = some (.string x.item) := HBX11.out.2.2.2.2.2.1
                have d2 : w11.cell? ⟨wr.heap.size, 2, none⟩ = some (.int .i64 x.tick) := HBX11.out.2.2.1
                cases hcur : (bsk0) x.item with
                | none =>
                  have HLG : Hid ((mapG (bskG (bsk0)) (.string x.item.data.toList)).getD (.int .i64 0) = .int .i64 0) := Lib.hid (by rw [mapG_at]; unfold bskG; rw [hcur]; rfl)
                  have HLI : Hid ((mapG (bskG (bsk0)) (.string x.item.data.toList)).isSome = false) := Lib.hid (by rw [mapG_at]; unfold bskG; rw [hcur]; rfl)
                  have HPU := Lib.hid (bskG_put hcur x.tick)
                  clear hcur
                  go_wp2_with (first
                    | (at_lookup; refine wpList_look_okM _ rfl _ _ 50 rfl 9 3 (string_keyed Tryd.underlying9) Tryd.underlying50 okInt _ (zeroInt _) rfl sm _ _ rfl HMw11.out _ _ rfl (WideMaps.keyOf_string_mk Tryd.underlying9 his) _ HLG.out _ HLI.out ?_)
                    | (at_mapUpdate; refine wpList_storeM _ rfl _ _ _ 50 rfl 9 3 (string_keyed Tryd.underlying9) Tryd.underlying50 okInt sm _ _ rfl HMw11.out (by unfold maxLen; omega) _ (.int .i64 x.tick) _ rfl rfl (WideMaps.keyOf_string_mk Tryd.underlying9 his) rfl ?_; intro w20 hm20 hg20 hs20)
                    | fail)
                  have HM20 := Lib.hid (hm20.congr HPU.out)
                  have HK20 : Hid (Kept (fun q => q = sm) w11 w20) := Lib.hid ((Kept.refl _ _).grown hg20 (fun j hj => by cases hj; exact Or.inl rfl))
                  clear hm20 hg20 hs20
                  go_roundw
                  case rel =>
                    refine ⟨k + 1, 0 + 1, n1' + m, n2' + 1000 * m, by omega, by go_num, by omega, Lib.hid (by rw [HSC.out]; exact (show (dn ++ [cu]).length ≤ k + 1 ∧ n1' + m ≤ n1 + 100 * (dn ++ [cu]).length ∧ n2' + 1000 * m ≤ n2 + 100000 * (dn ++ [cu]).length from by rw [List.length_append, HDL.out, List.length_singleton]; omega)), Lib.hid ?_, Lib.hid ?_, Lib.hid (HKw11.out.trans' HK20.out (fun _ _ h => Or.inr (Or.inr (Or.inr h))))⟩
                    · rw [HSC.out]; exact HM20.out
                    · rw [HSC.out]; exact (HBKw11.out.kept HK20.out (Ne.symm s1) (Ne.symm s2) (Ne.symm s3))
                  case measure => simp [intOf]; omega
                | some z =>
                  cases hcur
            · obtain rfl : vl = k := by omega
              have htl : l'.take vl = l' := by rw [← HLN.out, List.take_length]
              rw [htl] at hbd hmap hbk
              obtain ⟨b1, b2, b3⟩ := hbd.out
              have HALL : Hid (BD gq l (D ++ [p]) = (BD gq l D ++ (scan gq l').done) ++ [(scan gq l').cur]) := Lib.hid (by
                rw [BD_snoc, ← scan_BL HGN.out HPW.out HPM.out (fun h => HNE.out (by
                  rw [List.eq_nil_iff_forall_not_mem]
                  intro e he
                  have := (HPM.out e).2 he
                  rw [h] at this
                  cases this)), List.append_assoc]
                rfl)
              obtain ⟨dl, hdl⟩ : ∃ dl, (scan gq l').done.length = dl := ⟨_, rfl⟩
              rw [hdl] at b1 b2 b3
              have hAl : (BD gq l D ++ (scan gq l').done).length ≤ 1000000 := by rw [List.length_append, hdl]; omega
              have HADD := Lib.hid (add_any wr bb sb cb sm n1' n2' m _ _ _ _ hbk.out hmap.out s2 s3 (by omega) (by omega) (by omega) (by omega) (fun z => by have := nS_le (BD gq l D ++ (scan gq l').done) z; omega) (fun z z' => by have := nC_le (BD gq l D ++ (scan gq l').done) z z'; omega))
              have HDL := Lib.hid hdl
              clear hAl hdl htl hbd
              go_wp2_with fail
              refine HADD.out.mono ?_
              rintro e w12 ⟨rfl, hbk12, hk12⟩
              have hka : Kept (fun q => q = bb ∨ q = sb ∨ q = cb ∨ q = sm) w7 w12 := hkw.out.trans' hk12 (fun _ _ h => by rcases h with h | h | h; exact Or.inl h; exact Or.inr (Or.inl h); exact Or.inr (Or.inr (Or.inl h)))
              obtain ⟨z1, z2, z3, z4⟩ := HSZ.out
              have HB12 : Hid (Below w.heap.size w w12) := Lib.hid (HB7.out.trans (hka.toBelow (B := w.heap.size) (fun i hi => by have h1 : i = bb ∨ i = sb ∨ i = cb ∨ i = sm := hi; have h2 := HSML.out; omega) HB7.out.size))
              have HRG12 := Lib.hid (HRG7.out.kept hka (fun h => by have h1 : w.heap.size = bb ∨ w.heap.size = sb ∨ w.heap.size = cb ∨ w.heap.size = sm := h; omega) (fun h => by have h1 : r = bb ∨ r = sb ∨ r = cb ∨ r = sm := h; omega))
              have HRW12 : Hid (∀ q v, (left (.string q.data.toList) && !(Lit.string q.data.toList).sameKey (.string p.data.toList)) = true → G q = some v → w12.ownsRow w.heap.size 33 8 v (ownB l q).length ((ownB l q).flatMap evC)) := Lib.hid (fun q v h1 h2 => owns_kept (HRW7.out q v h1 h2) hka (fun g' hg' h => by
                have h3 := (HLV.out q v g' h2 hg').2.1
                have h4 : g' = bb ∨ g' = sb ∨ g' = cb ∨ g' = sm := h
                have h5 := HSML.out
                omega))
              have HBK12 := Lib.hid hbk12
              have HLEN : Hid ((BD gq l (D ++ [p])).length = (BD gq l D).length + dl + 1) := Lib.hid (by rw [HALL.out, List.length_append, List.length_append, HDL.out]; rfl)
              have hq1 : (BD gq l D).length + dl + 1 ≤ 101 * (cnt0 - cnt1) := by omega
              have hq2 : n1' + m ≤ 20000 * (cnt0 - cnt1) := by omega
              have hq3 : n2' + 1000 * m ≤ 20000000 * (cnt0 - cnt1) := by omega
              clear hbk12 hk12 hka HADD z1 z2 z3 z4
              go_wp2_with fail
              go_roundw
              case rel =>
                refine ⟨_, cnt1, D ++ [p], n1' + m, n2' + 1000 * m, HRG12, by omega, Lib.hid ⟨?_, fun q => ?_⟩, by rw [HLEN.out]; exact hq1, hq2, hq3, Lib.hid ?_, HRW12, HB12⟩
                · rw [List.nodup_append]
                  refine ⟨hD.out.1, by simp, fun a ha b hb2 e => ?_⟩
                  simp at hb2
                  subst hb2
                  subst e
                  have := ((hD.out.2 a).1 ha).2
                  rw [HLK.out] at this
                  cases this
                · show q ∈ D ++ [p] ↔ (G q).isSome = true ∧ (left (.string q.data.toList) && !(Lit.string q.data.toList).sameKey (.string p.data.toList)) = false
                  rw [List.mem_append, hD.out.2, str_same, List.mem_singleton]
                  constructor
                  · rintro (⟨h1, h2⟩ | h1)
                    · exact ⟨h1, by rw [h2]; rfl⟩
                    · subst h1; exact ⟨by rw [HMT.out]; rfl, by simp⟩
                  · rintro ⟨h1, h2⟩
                    by_cases h3 : q = p
                    · exact Or.inr h3
                    · refine Or.inl ⟨h1, ?_⟩
                      simpa [h3] using h2
                · rw [HALL.out]
                  exact HBK12.out.congr (by simp only [List.length_append, List.length_singleton]) (fun z => by rw [nS_snoc]) (fun z z' => by rw [nC_snoc])
              case measure => rw [HRG12.out.left_eq]; exact HLT5.out

end Go.Proofs.YtcgangmmehbdoaaDoor
