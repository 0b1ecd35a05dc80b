/- The document's Gap, ticks of layer 38. -/
import Derived.Test.YtcgangmmehbdoaaDoorRBuy
namespace Go.Proofs.YtcgangmmehbdoaaDoor
open Go.Shelf Go.RowKit Go.Maps
set_option linter.unusedVariables false

theorem rgap_any (g : Int) (w : World) : Calls Tryd.prog 29 #[.int .i64 g] w fun e w' => e = .returned (.int .i64 (clampG g)) ∧ w = w' := by
  by_cases h1 : g < 0
  · go_enter Tryd.func29, Tryd.ntmps29
    go_wp2
    go_ret
    exact ⟨ret_int (by unfold clampG; rw [if_pos h1]), rfl⟩
  · by_cases h2 : 1099511627776 < g
    · go_enter Tryd.func29, Tryd.ntmps29
      go_wp2
      go_ret
      exact ⟨ret_int (by unfold clampG; split <;> (try split) <;> omega), rfl⟩
    · go_enter Tryd.func29, Tryd.ntmps29
      go_wp2
      go_ret
      exact ⟨ret_int (by unfold clampG; split <;> (try split) <;> omega), rfl⟩

/-- How far the ticks with t are, behind k. -/
def TkTo (Ts : List Int) (t : Int) (k : Nat) (done : Bool) (out : List Int) : Prop :=
  out.Pairwise (· < ·) ∧ (done = false → out = Ts.take k ∧ ∀ x ∈ Ts.take k, x < t) ∧ (done = true → (∀ y, y ∈ out ↔ y ∈ Ts.take k ∨ y = t) ∧ ∀ j x, k ≤ j → Ts[j]? = some x → t < x)
theorem riseI_at {l : List Int} (h : l.Pairwise (· < ·)) {i j : Nat} {x y : Int} (hij : i < j) (hx : l[i]? = some x) (hy : l[j]? = some y) : x < y := by
  obtain ⟨hi, rfl⟩ := List.getElem?_eq_some_iff.1 hx
  obtain ⟨hj, rfl⟩ := List.getElem?_eq_some_iff.1 hy
  exact List.pairwise_iff_getElem.1 h i j hi hj hij
theorem takeI_lt {l : List Int} (h : l.Pairwise (· < ·)) {k : Nat} {x y : Int} (hx : l[k]? = some x) (hy : y ∈ l.take k) : y < x := by
  obtain ⟨i, hi⟩ := List.mem_iff_getElem?.1 hy
  rw [List.getElem?_take] at hi
  split at hi
  · rename_i hik; exact riseI_at h hik hi hx
  · cases hi
theorem snocI_rise {l : List Int} (h : l.Pairwise (· < ·)) {x : Int} (hx : ∀ y ∈ l, y < x) : (l ++ [x]).Pairwise (· < ·) := by
  rw [List.pairwise_append]
  exact ⟨h, List.pairwise_singleton _ _, fun a ha b hb => by simp at hb; subst hb; exact hx a ha⟩
section
variable {l : List Int} {s x : Int} {k : Nat} {out : List Int}
theorem TkTo.on (h : TkTo l s k true out) (hr : l.Pairwise (· < ·)) (hx : l[k]? = some x) : TkTo l s (k + 1) true (out ++ [x]) := by
  obtain ⟨h1, _, h3⟩ := h
  obtain ⟨h4, h5⟩ := h3 rfl
  refine ⟨snocI_rise h1 (fun y hy => ?_), fun h => (by cases h), fun _ => ⟨fun y => ?_, fun j z hj hz => h5 j z (by omega) hz⟩⟩
  · rcases (h4 y).1 hy with h6 | rfl
    · exact takeI_lt hr hx h6
    · exact h5 k x (Nat.le_refl _) hx
  · rw [List.mem_append, h4, take_snoc hx, List.mem_append, List.mem_singleton]
    constructor
    · rintro ((h | h) | h)
      · exact Or.inl (Or.inl h)
      · exact Or.inr h
      · exact Or.inl (Or.inr h)
    · rintro ((h | h) | h)
      · exact Or.inl (Or.inl h)
      · exact Or.inr h
      · exact Or.inl (Or.inr h)
theorem TkTo.here (h : TkTo l s k false out) (hr : l.Pairwise (· < ·)) (hx : l[k]? = some x) (hsx : s < x) : TkTo l s (k + 1) true ((out ++ [s]) ++ [x]) := by
  obtain ⟨h1, h2, _⟩ := h
  obtain ⟨rfl, h3⟩ := h2 rfl
  refine TkTo.on ⟨snocI_rise h1 h3, fun h => (by cases h), fun _ => ⟨fun y => by rw [List.mem_append, List.mem_singleton], fun j z hj hz => ?_⟩⟩ hr hx
  by_cases e : j = k
  · subst e; rw [hx] at hz; cases hz; exact hsx
  · exact Int.lt_trans hsx (riseI_at hr (by omega) hx hz)
theorem TkTo.same (h : TkTo l s k false out) (hr : l.Pairwise (· < ·)) (hx : l[k]? = some s) : TkTo l s (k + 1) true (out ++ [s]) := by
  obtain ⟨h1, h2, _⟩ := h
  obtain ⟨rfl, h3⟩ := h2 rfl
  refine ⟨snocI_rise h1 h3, fun h => (by cases h), fun _ => ⟨fun y => ?_, fun j z hj hz => riseI_at hr (by omega) hx hz⟩⟩
  rw [take_snoc hx, List.mem_append, List.mem_singleton]
  exact ⟨Or.inl, fun h => h.elim id Or.inr⟩
theorem TkTo.past (h : TkTo l s k false out) (hr : l.Pairwise (· < ·)) (hx : l[k]? = some x) (hsx : x < s) : TkTo l s (k + 1) false (out ++ [x]) := by
  obtain ⟨h1, h2, _⟩ := h
  obtain ⟨rfl, h3⟩ := h2 rfl
  refine ⟨snocI_rise h1 (fun y hy => takeI_lt hr hx hy), fun _ => ⟨(take_snoc hx).symm, fun y hy => ?_⟩, fun h => (by cases h)⟩
  rw [take_snoc hx, List.mem_append, List.mem_singleton] at hy
  rcases hy with hy | rfl
  · exact h3 y hy
  · exact hsx
end
theorem insT_is {Ts out : List Int} {t : Int} (h : Ts.Pairwise (· < ·)) (ho : out.Pairwise (· < ·)) (hm : ∀ y, y ∈ out ↔ y ∈ Ts ∨ y = t) : out = insT Ts t :=
  rise_one ho (insT_rise h t) (fun y => by rw [hm, insT_mem])
theorem insT_len (Ts : List Int) (t : Int) : (insT Ts t).length ≤ Ts.length + 1 := by
  induction Ts with
  | nil => simp [insT]
  | cons a Ts ih =>
    unfold insT
    split
    · simp
    · split
      · simp
      · simp; exact ih
theorem tks_len (r : List Ev) : (tksP r).length ≤ r.length := by
  refine snocInd (p := fun r => (tksP r).length ≤ r.length) r (Nat.le_refl _) (fun r e ih => ?_)
  rw [tks_snoc, List.length_append]
  have := insT_len (tksP r) e.tick
  simp; omega

set_option maxHeartbeats 4000000 in
set_option maxRecDepth 100000 in
theorem rticks_any (w : World) (B : Nat) (A : Option Addr) (l : List Ev) (n c : Nat) (p : ByteArray) (hn : l.length = n) (hl : EvsAt w B A l) (hB : B ≤ w.heap.size) (hb : n ≤ 1000) (hsh : ∀ e ∈ l, EvSh e) :
    Calls Tryd.prog 28 #[.slice A n c, .string p] w fun e w' => ∃ (A' : Option Addr) (c' : Nat), e = .returned (.slice A' (tksP (ownB l p)).length c') ∧ w'.ownsRow w.heap.size 3 1 (.slice A' (tksP (ownB l p)).length c') (tksP (ownB l p)).length ((tksP (ownB l p)).map (.int .i64)) ∧ Below w.heap.size w w' := by
  have HN := Lib.hid hn
  have HL := Lib.hid hl
  have HSH := Lib.hid hsh
  have HOE := Lib.hid (own_empty w 3 1)
  obtain ⟨w1, hw1⟩ : ∃ w1, w.alloc (.cells #[] 3) = w1 := ⟨_, rfl⟩
  rw [hw1] at HOE
  have HB1 : Hid (Below w.heap.size w w1) := Lib.hid (by rw [← hw1]; exact (Below.refl _ _).alloc (Nat.le_refl _) _)
  obtain ⟨i0, hi0, hz0, hz1, hz2⟩ := info_parts int_info
  clear hn hl hsh
  go_enter Tryd.func28, Tryd.ntmps28
  go_wp2_with fail
  clear hw1
  go_loopw [5, 6] (fun v i wr => ∃ k : Nat, k ≤ n ∧ i = .int .i64 k ∧ Hid (wr.ownsRow w.heap.size 3 1 v (tksP (ownB (l.take k) p)).length ((tksP (ownB (l.take k) p)).map (.int .i64))) ∧ Hid (Below w.heap.size w wr)) (fun _ i _ => n - (intOf i).toNat)
  case atStart => exact ⟨0, Nat.zero_le _, rfl, HOE, HB1⟩
  case round =>
    clear HOE HB1
    obtain ⟨k, hk, rfl, hrow, hbw⟩ := hrel
    obtain ⟨A5, c5, hq⟩ := own_shape hrow.out
    rw [hq] at hrow ⊢
    clear hq
    by_cases hlt : k < n
    · obtain ⟨x, hx⟩ : ∃ x, l[k]? = some x := ⟨l[k]'(by rw [HN.out]; exact hlt), List.getElem?_eq_getElem _⟩
      obtain ⟨g, o, rfl, hgB, hcl⟩ := HL.out.at (by rw [HN.out]; omega)
      have hgw : g < w.heap.size := Nat.lt_of_lt_of_le hgB hB
      have HE0 : Hid (∀ W, Below w.heap.size w W → EvAt W g (o + k * 8) x) := Lib.hid (fun W hW => (hcl k x hx).keep (fun j => hW.cell (p := ⟨g, j, none⟩) hgw))
      obtain ⟨e0, e1, e2, e3, e4, e5, e6, e7⟩ := HE0.out wr hbw.out
      have HTK : Hid (ownB (l.take (k + 1)) p = if buyB x = true ∧ x.person = p then ownB (l.take k) p ++ [x] else ownB (l.take k) p) := Lib.hid (by rw [take_snoc hx, ownX_snoc])
      have HTI := Lib.hid (tks_is (ownB (l.take k) p)).1
      have HTL : Hid ((tksP (ownB (l.take k) p)).length ≤ k) := Lib.hid (Nat.le_trans (tks_len _) (Nat.le_trans (List.length_filter_le _ _) (by rw [List.length_take]; omega)))
      have HSN : Hid (buyB x = true ∧ x.person = p → tksP (ownB (l.take (k + 1)) p) = insT (tksP (ownB (l.take k) p)) x.tick) := Lib.hid (fun h => by rw [HTK.out, if_pos h, tks_snoc])
      have HSO : Hid (¬ (buyB x = true ∧ x.person = p) → tksP (ownB (l.take (k + 1)) p) = tksP (ownB (l.take k) p)) := Lib.hid (fun h => by rw [HTK.out, if_neg h])
      have HBY := Lib.hid (rbuyX_any x wr (HSH.out x (List.mem_of_getElem? hx)))
      have hk8 : (k : Int) < (n : Int) := by omega
      have hk9 : (0 : Int) ≤ (k : Int) := by omega
      unfold evA at HBY
      clear hcl hx HTK
      generalize tksP (ownB (l.take k) p) = Ts at *
      go_wp2_with fail
      refine HBY.out.mono ?_
      rintro e w2 ⟨rfl, hb2⟩
      have HB2 : Hid (Below w.heap.size w w2) := Lib.hid (hbw.out.trans (hb2.mono hbw.out.size))
      have HR2 : Hid (w2.ownsRow w.heap.size 3 1 (.slice A5 Ts.length c5) Ts.length (Ts.map (.int .i64))) := Lib.hid (owns_kept hrow.out (below_kept (S := fun _ => False) hb2 (Nat.le_refl _)) (fun _ _ h => h))
      clear HBY hb2 e0 e1 e2 e3 e4 e5 e6 e7 hrow hbw
      obtain ⟨e0, e1, e2, e3, e4, e5, e6, e7⟩ := HE0.out w2 HB2.out
      cases hby : buyB x
      · have HS1 := Lib.hid (HSO.out (fun h => by rw [hby] at h; cases h.1))
        clear hby
        go_wp2_with fail
        go_roundw
        case rel => exact ⟨k + 1, by omega, by go_num, Lib.hid (by rw [HS1.out]; exact HR2.out), HB2⟩
        case measure => simp [intOf]; omega
      by_cases hpe : x.person = p
      rotate_left
      · have q1 : (x.person.toList == p.toList) = false := Bool.eq_false_iff.2 (fun e => hpe ((beq_list _ _).1 e))
        have q2 : (x.person.toList != p.toList) = true := by unfold bne; rw [q1]; rfl
        have HS1 := Lib.hid (HSO.out (fun h => hpe h.2))
        clear hby hpe
        go_wp2_with fail
        go_roundw
        case rel => exact ⟨k + 1, by omega, by go_num, Lib.hid (by rw [HS1.out]; exact HR2.out), HB2⟩
        case measure => simp [intOf]; omega
      have q1 : (x.person.toList == p.toList) = true := (beq_list _ _).2 hpe
      have q2 : (x.person.toList != p.toList) = false := by unfold bne; rw [q1]; rfl
      have HS1 := Lib.hid (HSN.out ⟨hby, hpe⟩)
      clear hby hpe HSO HSN
      obtain ⟨N, hN⟩ : ∃ N, Ts.length = N := ⟨_, rfl⟩
      have htl := HTL.out
      rw [hN] at HR2 htl ⊢
      have HNN := Lib.hid hN
      have HRI := Lib.hid (RowIn.of_own HR2.out)
      clear hN HTL
      have HOE := Lib.hid (own_empty w2 3 1)
      obtain ⟨w3, hw3⟩ : ∃ w3, w2.alloc (.cells #[] 3) = w3 := ⟨_, rfl⟩
      rw [hw3] at HOE
      have HX3 : Hid (Below w2.heap.size w2 w3) := Lib.hid (by rw [← hw3]; exact (Below.refl _ _).alloc (Nat.le_refl _) _)
      have HZ2 := Lib.hid HB2.out.size
      go_wp2_with fail
      clear hw3
      go_loopw [7, 8, 9] (fun v d i wq => ∃ (j : Nat) (dn : Bool) (out : List Int), j ≤ N ∧ i = .int .i64 j ∧ d = .bool dn ∧ Hid (out.length ≤ j + 1 ∧ (dn = false → out.length ≤ j)) ∧ Hid (TkTo Ts x.tick j dn out) ∧ Hid (wq.ownsRow w2.heap.size 3 1 v out.length (out.map (.int .i64))) ∧ Hid (Below w2.heap.size w2 wq)) (fun _ _ i _ => N - (intOf i).toNat)
      case atStart => exact ⟨0, false, [], Nat.zero_le _, rfl, rfl, Lib.hid ⟨Nat.zero_le _, fun _ => Nat.le_refl _⟩, Lib.hid ⟨List.Pairwise.nil, fun _ => ⟨rfl, fun x hx => (by cases hx)⟩, fun h => (by cases h)⟩, HOE, HX3⟩
      case round =>
        clear HOE HX3 e0 e1 e2 e3 e4 e5 e6 e7
        obtain ⟨j, dn, out, hj, rfl, rfl, hlo, hput, hrow, hbw⟩ := hrel
        obtain ⟨A6, c6, hq⟩ := own_shape hrow.out
        rw [hq] at hrow ⊢
        clear hq
        have hwz := hbw.out.size
        have HBW : Hid (Below w.heap.size w wr) := Lib.hid (HB2.out.trans (hbw.out.mono HB2.out.size))
        obtain ⟨m, hm⟩ : ∃ m, out.length = m := ⟨_, rfl⟩
        rw [hm] at hlo hrow ⊢
        have HM := Lib.hid hm
        obtain ⟨hlo1, hlo2⟩ := hlo.out
        have f2 : wr.cell? ⟨g, o + k * 8 + 2, none⟩ = some (.int .i64 x.tick) := (HE0.out wr HBW.out).2.2.1
        have hz2' := HZ2.out
        clear hm hlo
        by_cases hlt2 : j < N
        · obtain ⟨z, hz⟩ : ∃ z, Ts[j]? = some z := ⟨Ts[j]'(by rw [HNN.out]; exact hlt2), List.getElem?_eq_getElem _⟩
          obtain ⟨g5, o5, hA5, hg5, hc5⟩ := HRI.out.at (by omega)
          have HZ5 : Hid (∀ W, Below w2.heap.size w2 W → W.cell? ⟨g5, o5 + j, none⟩ = some (.int .i64 z)) := Lib.hid (fun W hW => (hW.cell (p := ⟨g5, o5 + j, none⟩) hg5).trans (hc5 j _ (by simp [hz])))
          have f5 := HZ5.out wr hbw.out
          have HZJ := Lib.hid hz
          have hj8 : (j : Int) < (N : Int) := by omega
          have hj9 : (0 : Int) ≤ (j : Int) := by omega
          subst hA5
          clear hz hc5
          cases dn
          rotate_left
          · have HP := Lib.hid (hput.out.on HTI.out HZJ.out)
            have hne : (z != x.tick) = true := by
              have := (hput.out.2.2 rfl).2 j z (Nat.le_refl _) HZJ.out
              rw [bne_iff_ne]; omega
            clear hlo2
            go_wp2_with fail
            go_quiet (fail)
            obtain ⟨wd, hwd⟩ : ∃ wx, wr.drewN nq = wx := ⟨_, rfl⟩
            rw [hwd]
            have HBwd : Hid (Below w2.heap.size w2 wd) := Lib.hid (by rw [← hwd]; exact below_drewN hbw.out _)
            have HRwd : Hid (wd.ownsRow w2.heap.size 3 1 (.slice A6 m c6) m (out.map (.int .i64))) := Lib.hid (by rw [← hwd]; exact hrow.out)
            have f2wd : wd.cell? ⟨g, o + k * 8 + 2, none⟩ = some (.int .i64 x.tick) := (HE0.out wd (HB2.out.trans (HBwd.out.mono HB2.out.size))).2.2.1
            have f5wd := HZ5.out wd HBwd.out
            have hzwd := HBwd.out.size
            clear hwd f2 f5
            go_wp2_with fail
            go_quiet (fail)
            obtain ⟨we, hwe⟩ : ∃ wx, wd.drewN nq = wx := ⟨_, rfl⟩
            rw [hwe]
            have HBwe : Hid (Below w2.heap.size w2 we) := Lib.hid (by rw [← hwe]; exact below_drewN HBwd.out _)
            have HRwe : Hid (we.ownsRow w2.heap.size 3 1 (.slice A6 m c6) m (out.map (.int .i64))) := Lib.hid (by rw [← hwe]; exact HRwd.out)
            have f2we : we.cell? ⟨g, o + k * 8 + 2, none⟩ = some (.int .i64 x.tick) := (HE0.out we (HB2.out.trans (HBwe.out.mono HB2.out.size))).2.2.1
            have f5we := HZ5.out we HBwe.out
            have hzwe := HBwe.out.size
            clear hwe f2wd f5wd
            go_wp2_with (first
              | (at_builtin; refine wpList_append_row _ rfl _ _ 63 rfl w2.heap.size 3 i0 _ 1 8 Tryd.underlying63 hi0 hz0 hz1 hz2 rfl (by omega) (.slice A6 m c6) m _ rfl (HRwe.out.alloc _) (we.heap.size + 1) (some ⟨we.heap.size, 0, none⟩) 1 1 [.int .i64 z] rfl (one_int we z _) (fun h => by cases h) (fun u hu => by rw [List.mem_singleton] at hu; subst hu; rfl) (by unfold maxLen; omega) (by omega) (by simp; omega) ?_; intro v7 w7 ho7 hg7 hv7))
            go_roundw
            case rel =>
              refine ⟨j + 1, true, out ++ [z], by omega, by go_num, rfl, Lib.hid ?_, HP, Lib.hid ?_, Lib.hid ((HBwe.out.alloc HBwe.out.size _).grown hg7 (by simp; omega) (fun j hj => (HRwe.out.lt _ hj).1))⟩
              · rw [List.length_append, HM.out]; simp; omega
              · rw [List.length_append, HM.out, List.map_append]; exact ho7
            case measure => simp [intOf]; omega
          have hlo3 := hlo2 rfl
          clear hlo2
          by_cases hc1 : x.tick ≤ z
          · by_cases hc2 : x.tick = z
            · have HP : Hid (TkTo Ts x.tick (j + 1) true (out ++ [x.tick])) := Lib.hid (hput.out.same HTI.out (by rw [hc2]; exact HZJ.out))
              have hne : (z != x.tick) = false := by rw [hc2]; simp
              clear hc2
              go_wp2_with fail
              go_quiet (fail)
              obtain ⟨wd, hwd⟩ : ∃ wx, wr.drewN nq = wx := ⟨_, rfl⟩
              rw [hwd]
              have HBwd : Hid (Below w2.heap.size w2 wd) := Lib.hid (by rw [← hwd]; exact below_drewN hbw.out _)
              have HRwd : Hid (wd.ownsRow w2.heap.size 3 1 (.slice A6 m c6) m (out.map (.int .i64))) := Lib.hid (by rw [← hwd]; exact hrow.out)
              have f2wd : wd.cell? ⟨g, o + k * 8 + 2, none⟩ = some (.int .i64 x.tick) := (HE0.out wd (HB2.out.trans (HBwd.out.mono HB2.out.size))).2.2.1
              have f5wd := HZ5.out wd HBwd.out
              have hzwd := HBwd.out.size
              clear hwd f2 f5
              go_wp2_with (first
                | (at_builtin; refine wpList_append_row _ rfl _ _ 63 rfl w2.heap.size 3 i0 _ 1 8 Tryd.underlying63 hi0 hz0 hz1 hz2 rfl (by omega) (.slice A6 m c6) m _ rfl (HRwd.out.alloc _) (wd.heap.size + 1) (some ⟨wd.heap.size, 0, none⟩) 1 1 [.int .i64 x.tick] rfl (one_int wd x.tick _) (fun h => by cases h) (fun u hu => by rw [List.mem_singleton] at hu; subst hu; rfl) (by unfold maxLen; omega) (by omega) (by simp; omega) ?_; intro v7 w7 ho7 hg7 hv7; obtain ⟨A7, c7, hv⟩ := own_shape ho7; subst hv; have HB7 : Hid (Below w2.heap.size w2 w7) := Lib.hid ((HBwd.out.alloc HBwd.out.size _).grown hg7 (by simp; omega) (fun j hj => (HRwd.out.lt _ hj).1)); have HO7 := Lib.hid ho7; have f2w7 : w7.cell? ⟨g, o + k * 8 + 2, none⟩ = some (.int .i64 x.tick) := (HE0.out w7 (HB2.out.trans (HB7.out.mono HB2.out.size))).2.2.1; have f5w7 := HZ5.out w7 HB7.out; have hz7 := HB7.out.size; clear ho7 hg7 hv7))
              go_wp2_with fail
              go_quiet (fail)
              obtain ⟨we, hwe⟩ : ∃ wx, w7.drewN nq = wx := ⟨_, rfl⟩
              rw [hwe]
              have HBwe : Hid (Below w2.heap.size w2 we) := Lib.hid (by rw [← hwe]; exact below_drewN HB7.out _)
              have HRwe : Hid (we.ownsRow w2.heap.size 3 1 (.slice A7 (m + 1) c7) (m + 1) (out.map (.int .i64) ++ [.int .i64 x.tick])) := Lib.hid (by rw [← hwe]; exact HO7.out)
              have f2we : we.cell? ⟨g, o + k * 8 + 2, none⟩ = some (.int .i64 x.tick) := (HE0.out we (HB2.out.trans (HBwe.out.mono HB2.out.size))).2.2.1
              have f5we := HZ5.out we HBwe.out
              have hzwe := HBwe.out.size
              clear hwe f2w7 f5w7
              go_wp2_with fail
              go_roundw
              case rel =>
                refine ⟨j + 1, true, out ++ [x.tick], by omega, by go_num, rfl, Lib.hid ?_, HP, Lib.hid ?_, Lib.hid HBwe.out⟩
                · rw [List.length_append, HM.out]; simp; omega
                · rw [List.length_append, HM.out, List.map_append]; exact HRwe.out
              case measure => simp [intOf]; omega
            · have hlt3 : x.tick < z := by omega
              have HP : Hid (TkTo Ts x.tick (j + 1) true ((out ++ [x.tick]) ++ [z])) := Lib.hid (hput.out.here HTI.out HZJ.out hlt3)
              have hne : (z != x.tick) = true := by rw [bne_iff_ne]; omega
              clear hc2
              go_wp2_with fail
              go_quiet (fail)
              obtain ⟨wd, hwd⟩ : ∃ wx, wr.drewN nq = wx := ⟨_, rfl⟩
              rw [hwd]
              have HBwd : Hid (Below w2.heap.size w2 wd) := Lib.hid (by rw [← hwd]; exact below_drewN hbw.out _)
              have HRwd : Hid (wd.ownsRow w2.heap.size 3 1 (.slice A6 m c6) m (out.map (.int .i64))) := Lib.hid (by rw [← hwd]; exact hrow.out)
              have f2wd : wd.cell? ⟨g, o + k * 8 + 2, none⟩ = some (.int .i64 x.tick) := (HE0.out wd (HB2.out.trans (HBwd.out.mono HB2.out.size))).2.2.1
              have f5wd := HZ5.out wd HBwd.out
              have hzwd := HBwd.out.size
              clear hwd f2 f5
              go_wp2_with (first
                | (at_builtin; refine wpList_append_row _ rfl _ _ 63 rfl w2.heap.size 3 i0 _ 1 8 Tryd.underlying63 hi0 hz0 hz1 hz2 rfl (by omega) (.slice A6 m c6) m _ rfl (HRwd.out.alloc _) (wd.heap.size + 1) (some ⟨wd.heap.size, 0, none⟩) 1 1 [.int .i64 x.tick] rfl (one_int wd x.tick _) (fun h => by cases h) (fun u hu => by rw [List.mem_singleton] at hu; subst hu; rfl) (by unfold maxLen; omega) (by omega) (by simp; omega) ?_; intro v7 w7 ho7 hg7 hv7; obtain ⟨A7, c7, hv⟩ := own_shape ho7; subst hv; have HB7 : Hid (Below w2.heap.size w2 w7) := Lib.hid ((HBwd.out.alloc HBwd.out.size _).grown hg7 (by simp; omega) (fun j hj => (HRwd.out.lt _ hj).1)); have HO7 := Lib.hid ho7; have f2w7 : w7.cell? ⟨g, o + k * 8 + 2, none⟩ = some (.int .i64 x.tick) := (HE0.out w7 (HB2.out.trans (HB7.out.mono HB2.out.size))).2.2.1; have f5w7 := HZ5.out w7 HB7.out; have hz7 := HB7.out.size; clear ho7 hg7 hv7))
              go_wp2_with fail
              go_quiet (fail)
              obtain ⟨we, hwe⟩ : ∃ wx, w7.drewN nq = wx := ⟨_, rfl⟩
              rw [hwe]
              have HBwe : Hid (Below w2.heap.size w2 we) := Lib.hid (by rw [← hwe]; exact below_drewN HB7.out _)
              have HRwe : Hid (we.ownsRow w2.heap.size 3 1 (.slice A7 (m + 1) c7) (m + 1) (out.map (.int .i64) ++ [.int .i64 x.tick])) := Lib.hid (by rw [← hwe]; exact HO7.out)
              have f2we : we.cell? ⟨g, o + k * 8 + 2, none⟩ = some (.int .i64 x.tick) := (HE0.out we (HB2.out.trans (HBwe.out.mono HB2.out.size))).2.2.1
              have f5we := HZ5.out we HBwe.out
              have hzwe := HBwe.out.size
              clear hwe f2w7 f5w7
              go_wp2_with (first
                | (at_builtin; refine wpList_append_row _ rfl _ _ 63 rfl w2.heap.size 3 i0 _ 1 8 Tryd.underlying63 hi0 hz0 hz1 hz2 rfl (by omega) (.slice A7 (m + 1) c7) (m + 1) _ rfl (HRwe.out.alloc _) (we.heap.size + 1) (some ⟨we.heap.size, 0, none⟩) 1 1 [.int .i64 z] rfl (one_int we z _) (fun h => by cases h) (fun u hu => by rw [List.mem_singleton] at hu; subst hu; rfl) (by unfold maxLen; omega) (by omega) (by simp; omega) ?_; intro v8 w8 ho8 hg8 hv8))
              go_roundw
              case rel =>
                refine ⟨j + 1, true, (out ++ [x.tick]) ++ [z], by omega, by go_num, rfl, Lib.hid ?_, HP, Lib.hid ?_, Lib.hid ((HBwe.out.alloc HBwe.out.size _).grown hg8 (by simp; omega) (fun j hj => (HRwe.out.lt _ hj).1))⟩
                · rw [List.length_append, List.length_append, HM.out]; simp; omega
                · rw [List.length_append, List.length_append, HM.out, List.map_append, List.map_append]; exact ho8
              case measure => simp [intOf]; omega
          · have hlt3 : z < x.tick := by omega
            have HP : Hid (TkTo Ts x.tick (j + 1) false (out ++ [z])) := Lib.hid (hput.out.past HTI.out HZJ.out hlt3)
            have hne : (z != x.tick) = true := by rw [bne_iff_ne]; omega
            go_wp2_with fail
            go_quiet (fail)
            obtain ⟨wd, hwd⟩ : ∃ wx, wr.drewN nq = wx := ⟨_, rfl⟩
            rw [hwd]
            have HBwd : Hid (Below w2.heap.size w2 wd) := Lib.hid (by rw [← hwd]; exact below_drewN hbw.out _)
            have HRwd : Hid (wd.ownsRow w2.heap.size 3 1 (.slice A6 m c6) m (out.map (.int .i64))) := Lib.hid (by rw [← hwd]; exact hrow.out)
            have f2wd : wd.cell? ⟨g, o + k * 8 + 2, none⟩ = some (.int .i64 x.tick) := (HE0.out wd (HB2.out.trans (HBwd.out.mono HB2.out.size))).2.2.1
            have f5wd := HZ5.out wd HBwd.out
            have hzwd := HBwd.out.size
            clear hwd f2 f5
            go_wp2_with fail
            go_quiet (fail)
            obtain ⟨we, hwe⟩ : ∃ wx, wd.drewN nq = wx := ⟨_, rfl⟩
            rw [hwe]
            have HBwe : Hid (Below w2.heap.size w2 we) := Lib.hid (by rw [← hwe]; exact below_drewN HBwd.out _)
            have HRwe : Hid (we.ownsRow w2.heap.size 3 1 (.slice A6 m c6) m (out.map (.int .i64))) := Lib.hid (by rw [← hwe]; exact HRwd.out)
            have f2we : we.cell? ⟨g, o + k * 8 + 2, none⟩ = some (.int .i64 x.tick) := (HE0.out we (HB2.out.trans (HBwe.out.mono HB2.out.size))).2.2.1
            have f5we := HZ5.out we HBwe.out
            have hzwe := HBwe.out.size
            clear hwe f2wd f5wd
            go_wp2_with (first
              | (at_builtin; refine wpList_append_row _ rfl _ _ 63 rfl w2.heap.size 3 i0 _ 1 8 Tryd.underlying63 hi0 hz0 hz1 hz2 rfl (by omega) (.slice A6 m c6) m _ rfl (HRwe.out.alloc _) (we.heap.size + 1) (some ⟨we.heap.size, 0, none⟩) 1 1 [.int .i64 z] rfl (one_int we z _) (fun h => by cases h) (fun u hu => by rw [List.mem_singleton] at hu; subst hu; rfl) (by unfold maxLen; omega) (by omega) (by simp; omega) ?_; intro v7 w7 ho7 hg7 hv7))
            go_roundw
            case rel =>
              refine ⟨j + 1, false, out ++ [z], by omega, by go_num, rfl, Lib.hid ?_, HP, Lib.hid ?_, Lib.hid ((HBwe.out.alloc HBwe.out.size _).grown hg7 (by simp; omega) (fun j hj => (HRwe.out.lt _ hj).1))⟩
              · rw [List.length_append, HM.out]; simp; omega
              · rw [List.length_append, HM.out, List.map_append]; exact ho7
            case measure => simp [intOf]; omega
        · obtain rfl : N = j := by omega
          have htk : Ts.take N = Ts := by rw [← HNN.out, List.take_length]
          cases dn
          · obtain ⟨p1, p2, _⟩ := hput.out
            obtain ⟨p3, p4⟩ := p2 rfl
            rw [htk] at p3 p4
            have HPF : Hid (out ++ [x.tick] = insT Ts x.tick) := Lib.hid (insT_is HTI.out (snocI_rise p1 (by rw [p3]; exact p4)) (fun y => by rw [List.mem_append, List.mem_singleton, p3]))
            have hlo3 := hlo2 rfl
            clear p1 p2 p3 p4 hput htk hlo2
            go_wp2_with (first
              | (at_builtin; refine wpList_append_row _ rfl _ _ 63 rfl w2.heap.size 3 i0 _ 1 8 Tryd.underlying63 hi0 hz0 hz1 hz2 rfl (by omega) (.slice A6 m c6) m _ rfl (hrow.out.alloc _) (wr.heap.size + 1) (some ⟨wr.heap.size, 0, none⟩) 1 1 [.int .i64 x.tick] rfl (one_int wr x.tick _) (fun h => by cases h) (fun u hu => by rw [List.mem_singleton] at hu; subst hu; rfl) (by unfold maxLen; omega) (by omega) (by simp; omega) ?_; intro v7 w7 ho7 hg7 hv7))
            go_roundw
            case rel =>
              refine ⟨k + 1, by omega, by go_num, Lib.hid ?_, Lib.hid (HB2.out.trans (((hbw.out.alloc hwz _).grown hg7 (by simp; omega) (fun j hj => (hrow.out.lt _ hj).1)).mono HB2.out.size))⟩
              rw [HS1.out, ← HPF.out, List.length_append, HM.out, List.map_append]; exact own_mono ho7 HB2.out.size
            case measure => simp [intOf]; omega
          · obtain ⟨p1, _, p3⟩ := hput.out
            obtain ⟨p4, _⟩ := p3 rfl
            rw [htk] at p4
            have HPF : Hid (out = insT Ts x.tick) := Lib.hid (insT_is HTI.out p1 p4)
            clear p1 p3 p4 hput htk hlo2
            go_wp2_with fail
            go_roundw
            case rel =>
              refine ⟨k + 1, by omega, by go_num, Lib.hid ?_, HBW⟩
              rw [HS1.out, ← HPF.out, HM.out]; exact own_mono hrow.out HB2.out.size
            case measure => simp [intOf]; omega
    · obtain rfl : n = k := by omega
      have htl : l.take n = l := by rw [← HN.out, List.take_length]
      rw [htl] at hrow ⊢
      go_wp2_with fail
      go_ret
      exact ⟨A5, c5, rfl, hrow.out, hbw.out⟩

end Go.Proofs.YtcgangmmehbdoaaDoor
