/- The document's ByMaker, ByTag, Changes. -/
import Derived.Test.YtpnfnmpohacnoaaDoorROf
namespace Go.Proofs.YtpnfnmpohacnoaaDoor
open Go.Shelf Go.RowKit Go.Maps
set_option linter.unusedVariables false

theorem rx_at {l : List Ev} (h : Rising l) (n : ByteArray) (t : Int) : rx (rst l n t) = (atP l n t).getD it0 := by
  rw [at_ahead h n t]
  rfl
theorem rst_some {l : List Ev} (h : Rising l) (n : ByteArray) (t : Int) : (rst l n t).isSome = (atP l n t).isSome := by
  rw [at_ahead h n t]
  show _ = ((rst l n t).map (·.item)).isSome
  cases rst l n t <;> rfl
theorem rx_tags {l : List Ev} (h : ∀ e ∈ l, EvFew e) (n : ByteArray) (t : Int) : (rx (rst l n t)).tags.size ≤ 600 := by
  unfold rx rst
  cases hr : (rowOf (l.filter fun e => decide (e.tick ≤ t)) n).getLast? with
  | none => decide
  | some s =>
    have := fold_tags2 l (ofN (l.filter fun e => decide (e.tick ≤ t)) n) (fun e he => (List.mem_filter.1 (List.mem_filter.1 he).1).1) [] (fun s hs => by cases hs) s (List.mem_of_getLast? hr)
    show s.item.tags.size ≤ 600
    rcases this with h1 | ⟨e, he, _, h1⟩
    · rw [h1]; decide
    · rw [h1]
      have h2 := cut_le e.text
      have h3 := h e he
      unfold EvFew at h3
      omega
theorem names_filter {l : List Ev} (h : Rising l) {t : Int} {ns : List ByteArray} (hn : IsNames (rlB l t) ns) (p : It → Bool) : IsNames (whB l t p) (ns.filter fun n => p (rx (rst l n t))) := by
  have h1 : IsNames (whB l t (fun x => true)) ns := ⟨hn.1, fun n => by rw [hn.2, rl_wh h]⟩
  have h2 := filt_is h1 p
  have e : (fun n => p (rx (rst l n t))) = (fun n => p ((atP l n t).getD it0)) := by funext n; rw [rx_at h]
  rw [e]
  exact h2

set_option maxHeartbeats 2000000 in
set_option maxRecDepth 100000 in
theorem rbymaker_any (w : World) (B : Nat) (A : Option Addr) (l : List Ev) (n c : Nat) (wd : ByteArray) (t : Int) (hn : l.length = n) (hl : EvsAt w B A l) (hB : B ≤ w.heap.size) (hb : n ≤ 100000) (hsh : ∀ e ∈ l, EvFew e) (hkd : ∀ e ∈ l, e.kind = 11 ∨ e.kind = 12 ∨ e.kind = 13) (hri : Rising l) :
    Calls Tryd.prog 42 #[.slice A n c, .string wd, .int .i64 t] w fun e w' => ∃ A' c' ks, e = .returned (.slice A' ks.length c') ∧ IsNames (whB l t (fun x => decide (x.maker = wd))) ks ∧ ks.length ≤ n ∧ RowIn w' w'.heap.size 1 A' ks.length (ks.map .string) ∧ Below w.heap.size w w' := by
  have HN := Lib.hid hn
  have HL := Lib.hid hl
  have HF := Lib.hid hsh
  have HS : Hid (∀ e ∈ l, EvSh e) := Lib.hid (fun e he => (hsh e he).sh)
  have HKD := Lib.hid hkd
  have HRI := Lib.hid hri
  have HRN := Lib.hid (refnames_any w B A l n c t hn hl hB hb HS.out hkd)
  clear hn hl hsh hkd hri
  obtain ⟨i0, hi0, hz0, hz1, hz2⟩ := info_parts str_info
  go_enter Tryd.func42, Tryd.ntmps42
  go_wp2_with fail
  refine HRN.out.mono ?_
  rintro e w1 ⟨A1, c1, ns, rfl, hns, hnl, hr1, hb1⟩
  have HNS := Lib.hid hns
  have HR1 := Lib.hid (RowIn.of_own hr1)
  have HB1 := Lib.hid hb1
  obtain ⟨m, hm⟩ : ∃ m, ns.length = m := ⟨_, rfl⟩
  rw [hm] at hnl HR1 ⊢
  have HM := Lib.hid hm
  clear HRN hns hr1 hb1 hm
  go_wp2_with fail
  go_loopw [7, 9] (fun s i wr => ∃ (k : Nat) (A5 : Option Addr) (m5 c5 : Nat), k ≤ m ∧ i = .int .i64 k ∧ s = .slice A5 m5 c5 ∧ m5 ≤ k ∧ Hid (((ns.take k).filter fun n => (fun x : It => decide (x.maker = wd)) (rx (rst l n t))).length = m5) ∧ Hid (wr.ownsRow w1.heap.size 9 1 (.slice A5 m5 c5) m5 (((ns.take k).filter fun n => (fun x : It => decide (x.maker = wd)) (rx (rst l n t))).map .string)) ∧ Hid (Below w1.heap.size w1 wr)) (fun _ i _ => m - (intOf i).toNat)
  case atStart => exact ⟨0, none, 0, 0, Nat.zero_le _, rfl, rfl, Nat.le_refl _, Lib.hid rfl, Lib.hid (own_nil _ _ _ _), Lib.hid (Below.refl _ _)⟩
  case round =>
    obtain ⟨k, A5, m5, c5, hk, rfl, rfl, hmk, hml, hrow, hbw⟩ := hrel
    have hwz := hbw.out.size
    have HBW : Hid (Below w.heap.size w wr) := Lib.hid (HB1.out.trans (hbw.out.mono HB1.out.size))
    by_cases hlt : k < m
    · obtain ⟨x, hx⟩ : ∃ x, ns[k]? = some x := ⟨ns[k]'(by rw [HM.out]; exact hlt), List.getElem?_eq_getElem _⟩
      obtain ⟨g, o, hA, hgB, hcl⟩ := HR1.out.at (by omega)
      have HE0 := Lib.hid (hcl k (.string x) (by simp [hx]))
      have f5 : wr.cell? ⟨g, o + k, none⟩ = some (.string x) := (hbw.out.cell (p := ⟨g, o + k, none⟩) hgB).trans HE0.out
      have HAT := Lib.hid (refat_any wr B A l n c x t HN.out (HL.out.below (HBW.out.mono hB)) (Nat.le_trans hB HBW.out.size) (by omega) HS.out HKD.out)
      have HTK : Hid ((ns.take (k + 1)).filter (fun n => (fun x : It => decide (x.maker = wd)) (rx (rst l n t))) = (ns.take k).filter (fun n => (fun x : It => decide (x.maker = wd)) (rx (rst l n t))) ++ [x].filter (fun n => (fun x : It => decide (x.maker = wd)) (rx (rst l n t)))) := Lib.hid (by rw [take_snoc hx, List.filter_append])
      have HTG := Lib.hid (rx_tags HF.out x t)
      have hk8 : (k : Int) < (m : Int) := by omega
      have hk9 : (0 : Int) ≤ (k : Int) := by omega
      subst hA
      clear hcl hx
      generalize (ns.take k).filter (fun n => (fun x : It => decide (x.maker = wd)) (rx (rst l n t))) = out at *
      have HO1 : Hid ([x].filter (fun n => (fun x : It => decide (x.maker = wd)) (rx (rst l n t))) = if (fun x : It => decide (x.maker = wd)) (rx (rst l x t)) then [x] else []) := Lib.hid (by
        cases hc : (fun x : It => decide (x.maker = wd)) (rx (rst l x t))
        · simp only [List.filter_cons, List.filter_nil, hc]
        · simp only [List.filter_cons, List.filter_nil, hc])
      generalize [x].filter (fun n => (fun x : It => decide (x.maker = wd)) (rx (rst l n t))) = o1 at *
      dsimp only at HO1
      generalize rst l x t = os at *
      unfold rtoldP itA at HAT
      generalize rx os = xi at *
      generalize os.isSome = ok1 at *
      go_wp2_with fail
      refine HAT.out.mono ?_
      rintro e w6 ⟨rfl, hb6⟩
      have HB6 : Hid (Below w1.heap.size w1 w6) := Lib.hid (hbw.out.trans (hb6.mono hbw.out.size))
      have HR6 : Hid (w6.ownsRow w1.heap.size 9 1 (.slice A5 m5 c5) m5 (out.map .string)) := Lib.hid (owns_kept hrow.out (below_kept (S := fun _ => False) hb6 (Nat.le_refl _)) (fun _ _ h => h))
      clear HAT hb6 f5
      obtain ⟨w7, hw7⟩ : ∃ w7, w6.alloc (.cells #[.string xi.name, .string xi.maker, .string xi.tags, .int .i64 xi.stock, .int .i64 xi.price, .int .i64 xi.born, .bool xi.listed] 64) = w7 := ⟨_, rfl⟩
      have HB7 : Hid (Below w1.heap.size w1 w7) := Lib.hid (by rw [← hw7]; exact HB6.out.alloc HB6.out.size _)
      have HR7 : Hid (w7.ownsRow w1.heap.size 9 1 (.slice A5 m5 c5) m5 (out.map .string)) := Lib.hid (by rw [← hw7]; exact HR6.out.alloc _)
      have HI7 : Hid (Blk w7 w6.heap.size 64 #[.string xi.name, .string xi.maker, .string xi.tags, .int .i64 xi.stock, .int .i64 xi.price, .int .i64 xi.born, .bool xi.listed]) := Lib.hid (by rw [← hw7]; exact Blk.new _ _ _)
      have b1 : w7.cell? ⟨w6.heap.size, 1, none⟩ = some (.string xi.maker) := HI7.out.cell 1
      have f57 : w7.cell? ⟨g, o + k, none⟩ = some (.string x) := (HB7.out.cell (p := ⟨g, o + k, none⟩) hgB).trans HE0.out
      have hz7 := HB7.out.size
      by_cases hmk2 : xi.maker = wd
      rotate_left
      · have q1 : (xi.maker.toList == wd.toList) = false := Bool.eq_false_iff.2 (fun e => hmk2 ((beq_list _ _).1 e))
        have HO : Hid (o1 = []) := Lib.hid (by rw [HO1.out]; simp [hmk2])
        clear hmk2 HO1 HI7
        go_wp2_with fail
        go_roundw
        case rel =>
          refine ⟨k + 1, A5, m5, c5, by omega, by go_num, rfl, by omega, Lib.hid ?_, Lib.hid ?_, Lib.hid ?_⟩
          · rw [HTK.out, HO.out, List.append_nil]; exact hml.out
          · rw [HTK.out, HO.out, List.append_nil]; first | exact HR7.out | exact HR6.out.alloc _
          · first | exact HB7.out | exact HB6.out.alloc HB6.out.size _
        case measure => simp [intOf]; omega
      · have q1 : (xi.maker.toList == wd.toList) = true := (beq_list _ _).2 hmk2
        have HO : Hid (o1 = [x]) := Lib.hid (by rw [HO1.out]; simp [hmk2])
        clear hmk2 HO1 HI7
        go_wp2_with (first
          | (at_builtin; refine wpList_append_row _ rfl _ _ 38 rfl w1.heap.size 9 i0 _ 1 16 Tryd.underlying38 hi0 hz0 hz1 hz2 rfl (by omega) (.slice A5 m5 c5) m5 _ rfl (HR7.out.alloc _) (w7.heap.size + 1) (some ⟨w7.heap.size, 0, none⟩) 1 1 [.string x] rfl (one_str w7 x _) (fun h => by cases h) (fun u hu => by rw [List.mem_singleton] at hu; subst hu; rfl) (by unfold maxLen; omega) (by omega) (by simp; omega) ?_; intro v8 w8 ho8 hg8 hv8))
        obtain ⟨A8, c8, hv⟩ := own_shape ho8
        subst hv
        go_roundw
        case rel =>
          refine ⟨k + 1, A8, m5 + 1, c8, by omega, by go_num, rfl, by omega, Lib.hid ?_, Lib.hid ?_, Lib.hid ((HB7.out.alloc HB7.out.size _).grown hg8 (by simp; omega) (fun j hj => (HR7.out.lt _ hj).1))⟩
          · rw [HTK.out, HO.out, List.length_append, hml.out]; rfl
          · rw [HTK.out, HO.out, List.map_append]; exact ho8
        case measure => simp [intOf]; omega
    · obtain rfl : m = k := by omega
      have htl : ns.take m = ns := by rw [← HM.out, List.take_length]
      go_wp2_with fail
      go_ret
      rw [htl] at hml hrow
      refine ⟨A5, c5, ns.filter (fun n => (fun x : It => decide (x.maker = wd)) (rx (rst l n t))), ?_, names_filter HRI.out HNS.out (fun x : It => decide (x.maker = wd)), ?_, ?_, HBW.out⟩
      · rw [hml.out]; rfl
      · rw [hml.out]; omega
      · rw [hml.out]; exact RowIn.of_own hrow.out

set_option maxHeartbeats 2000000 in
set_option maxRecDepth 100000 in
theorem rbytag_any (w : World) (B : Nat) (A : Option Addr) (l : List Ev) (n c : Nat) (wd : ByteArray) (t : Int) (hn : l.length = n) (hl : EvsAt w B A l) (hB : B ≤ w.heap.size) (hb : n ≤ 100000) (hsh : ∀ e ∈ l, EvFew e) (hkd : ∀ e ∈ l, e.kind = 11 ∨ e.kind = 12 ∨ e.kind = 13) (hri : Rising l) :
    Calls Tryd.prog 43 #[.slice A n c, .string wd, .int .i64 t] w fun e w' => ∃ A' c' ks, e = .returned (.slice A' ks.length c') ∧ IsNames (whB l t (fun x => memB wd (tagsOf x.tags))) ks ∧ ks.length ≤ n ∧ RowIn w' w'.heap.size 1 A' ks.length (ks.map .string) ∧ Below w.heap.size w w' := by
  have HN := Lib.hid hn
  have HL := Lib.hid hl
  have HF := Lib.hid hsh
  have HS : Hid (∀ e ∈ l, EvSh e) := Lib.hid (fun e he => (hsh e he).sh)
  have HKD := Lib.hid hkd
  have HRI := Lib.hid hri
  have HRN := Lib.hid (refnames_any w B A l n c t hn hl hB hb HS.out hkd)
  clear hn hl hsh hkd hri
  obtain ⟨i0, hi0, hz0, hz1, hz2⟩ := info_parts str_info
  go_enter Tryd.func43, Tryd.ntmps43
  go_wp2_with fail
  refine HRN.out.mono ?_
  rintro e w1 ⟨A1, c1, ns, rfl, hns, hnl, hr1, hb1⟩
  have HNS := Lib.hid hns
  have HR1 := Lib.hid (RowIn.of_own hr1)
  have HB1 := Lib.hid hb1
  obtain ⟨m, hm⟩ : ∃ m, ns.length = m := ⟨_, rfl⟩
  rw [hm] at hnl HR1 ⊢
  have HM := Lib.hid hm
  clear HRN hns hr1 hb1 hm
  go_wp2_with fail
  go_loopw [7, 9] (fun s i wr => ∃ (k : Nat) (A5 : Option Addr) (m5 c5 : Nat), k ≤ m ∧ i = .int .i64 k ∧ s = .slice A5 m5 c5 ∧ m5 ≤ k ∧ Hid (((ns.take k).filter fun n => (fun x : It => memB wd (tagsOf x.tags)) (rx (rst l n t))).length = m5) ∧ Hid (wr.ownsRow w1.heap.size 9 1 (.slice A5 m5 c5) m5 (((ns.take k).filter fun n => (fun x : It => memB wd (tagsOf x.tags)) (rx (rst l n t))).map .string)) ∧ Hid (Below w1.heap.size w1 wr)) (fun _ i _ => m - (intOf i).toNat)
  case atStart => exact ⟨0, none, 0, 0, Nat.zero_le _, rfl, rfl, Nat.le_refl _, Lib.hid rfl, Lib.hid (own_nil _ _ _ _), Lib.hid (Below.refl _ _)⟩
  case round =>
    obtain ⟨k, A5, m5, c5, hk, rfl, rfl, hmk, hml, hrow, hbw⟩ := hrel
    have hwz := hbw.out.size
    have HBW : Hid (Below w.heap.size w wr) := Lib.hid (HB1.out.trans (hbw.out.mono HB1.out.size))
    by_cases hlt : k < m
    · obtain ⟨x, hx⟩ : ∃ x, ns[k]? = some x := ⟨ns[k]'(by rw [HM.out]; exact hlt), List.getElem?_eq_getElem _⟩
      obtain ⟨g, o, hA, hgB, hcl⟩ := HR1.out.at (by omega)
      have HE0 := Lib.hid (hcl k (.string x) (by simp [hx]))
      have f5 : wr.cell? ⟨g, o + k, none⟩ = some (.string x) := (hbw.out.cell (p := ⟨g, o + k, none⟩) hgB).trans HE0.out
      have HAT := Lib.hid (refat_any wr B A l n c x t HN.out (HL.out.below (HBW.out.mono hB)) (Nat.le_trans hB HBW.out.size) (by omega) HS.out HKD.out)
      have HTK : Hid ((ns.take (k + 1)).filter (fun n => (fun x : It => memB wd (tagsOf x.tags)) (rx (rst l n t))) = (ns.take k).filter (fun n => (fun x : It => memB wd (tagsOf x.tags)) (rx (rst l n t))) ++ [x].filter (fun n => (fun x : It => memB wd (tagsOf x.tags)) (rx (rst l n t)))) := Lib.hid (by rw [take_snoc hx, List.filter_append])
      have HTG := Lib.hid (rx_tags HF.out x t)
      have hk8 : (k : Int) < (m : Int) := by omega
      have hk9 : (0 : Int) ≤ (k : Int) := by omega
      subst hA
      clear hcl hx
      generalize (ns.take k).filter (fun n => (fun x : It => memB wd (tagsOf x.tags)) (rx (rst l n t))) = out at *
      have HO1 : Hid ([x].filter (fun n => (fun x : It => memB wd (tagsOf x.tags)) (rx (rst l n t))) = if (fun x : It => memB wd (tagsOf x.tags)) (rx (rst l x t)) then [x] else []) := Lib.hid (by
        cases hc : (fun x : It => memB wd (tagsOf x.tags)) (rx (rst l x t))
        · simp only [List.filter_cons, List.filter_nil, hc]
        · simp only [List.filter_cons, List.filter_nil, hc])
      generalize [x].filter (fun n => (fun x : It => memB wd (tagsOf x.tags)) (rx (rst l n t))) = o1 at *
      dsimp only at HO1
      generalize rst l x t = os at *
      unfold rtoldP itA at HAT
      generalize rx os = xi at *
      generalize os.isSome = ok1 at *
      go_wp2_with fail
      refine HAT.out.mono ?_
      rintro e w6 ⟨rfl, hb6⟩
      have HB6 : Hid (Below w1.heap.size w1 w6) := Lib.hid (hbw.out.trans (hb6.mono hbw.out.size))
      have HR6 : Hid (w6.ownsRow w1.heap.size 9 1 (.slice A5 m5 c5) m5 (out.map .string)) := Lib.hid (owns_kept hrow.out (below_kept (S := fun _ => False) hb6 (Nat.le_refl _)) (fun _ _ h => h))
      clear HAT hb6 f5
      obtain ⟨w7, hw7⟩ : ∃ w7, w6.alloc (.cells #[.string xi.name, .string xi.maker, .string xi.tags, .int .i64 xi.stock, .int .i64 xi.price, .int .i64 xi.born, .bool xi.listed] 64) = w7 := ⟨_, rfl⟩
      have HB7 : Hid (Below w1.heap.size w1 w7) := Lib.hid (by rw [← hw7]; exact HB6.out.alloc HB6.out.size _)
      have HR7 : Hid (w7.ownsRow w1.heap.size 9 1 (.slice A5 m5 c5) m5 (out.map .string)) := Lib.hid (by rw [← hw7]; exact HR6.out.alloc _)
      have HI7 : Hid (Blk w7 w6.heap.size 64 #[.string xi.name, .string xi.maker, .string xi.tags, .int .i64 xi.stock, .int .i64 xi.price, .int .i64 xi.born, .bool xi.listed]) := Lib.hid (by rw [← hw7]; exact Blk.new _ _ _)
      have b0 : w7.cell? ⟨w6.heap.size, 0, none⟩ = some (.string xi.name) := HI7.out.cell 0
      have b1 : w7.cell? ⟨w6.heap.size, 1, none⟩ = some (.string xi.maker) := HI7.out.cell 1
      have b2 : w7.cell? ⟨w6.heap.size, 2, none⟩ = some (.string xi.tags) := HI7.out.cell 2
      have b3 : w7.cell? ⟨w6.heap.size, 3, none⟩ = some (.int .i64 xi.stock) := HI7.out.cell 3
      have b4 : w7.cell? ⟨w6.heap.size, 4, none⟩ = some (.int .i64 xi.price) := HI7.out.cell 4
      have b5 : w7.cell? ⟨w6.heap.size, 5, none⟩ = some (.int .i64 xi.born) := HI7.out.cell 5
      have b6 : w7.cell? ⟨w6.heap.size, 6, none⟩ = some (.bool xi.listed) := HI7.out.cell 6
      have HHA := Lib.hid (has_any xi wd w7 (by have := HTG.out; omega))
      unfold itA at HHA
      go_wp2_with fail
      refine HHA.out.mono ?_
      rintro e w8 ⟨rfl, hb8⟩
      have HB8 : Hid (Below w1.heap.size w1 w8) := Lib.hid (HB7.out.trans (hb8.mono HB7.out.size))
      have HR8 : Hid (w8.ownsRow w1.heap.size 9 1 (.slice A5 m5 c5) m5 (out.map .string)) := Lib.hid (owns_kept HR7.out (below_kept (S := fun _ => False) hb8 (Nat.le_refl _)) (fun _ _ h => h))
      have f57 : w8.cell? ⟨g, o + k, none⟩ = some (.string x) := (HB8.out.cell (p := ⟨g, o + k, none⟩) hgB).trans HE0.out
      have hz7 := HB8.out.size
      clear b0 b1 b2 b3 b4 b5 b6 HB7 HR7 HI7 HHA hb8 hw7 HTG
      obtain ⟨w7', rfl⟩ : ∃ w' : World, w' = w8 := ⟨_, rfl⟩
      have HB7 := HB8
      have HR7 := HR8
      cases hmk2 : memB wd (tagsOf xi.tags)
      · have HO : Hid (o1 = []) := Lib.hid (by rw [HO1.out]; simp [hmk2])
        clear hmk2 HO1
        go_wp2_with fail
        go_roundw
        case rel =>
          refine ⟨k + 1, A5, m5, c5, by omega, by go_num, rfl, by omega, Lib.hid ?_, Lib.hid ?_, HB7⟩
          · rw [HTK.out, HO.out, List.append_nil]; exact hml.out
          · rw [HTK.out, HO.out, List.append_nil]; exact HR7.out
        case measure => simp [intOf]; omega
      · have HO : Hid (o1 = [x]) := Lib.hid (by rw [HO1.out]; simp [hmk2])
        clear hmk2 HO1
        go_wp2_with (first
          | (at_builtin; refine wpList_append_row _ rfl _ _ 38 rfl w1.heap.size 9 i0 _ 1 16 Tryd.underlying38 hi0 hz0 hz1 hz2 rfl (by omega) (.slice A5 m5 c5) m5 _ rfl (HR7.out.alloc _) (w7'.heap.size + 1) (some ⟨w7'.heap.size, 0, none⟩) 1 1 [.string x] rfl (one_str w7' x _) (fun h => by cases h) (fun u hu => by rw [List.mem_singleton] at hu; subst hu; rfl) (by unfold maxLen; omega) (by omega) (by simp; omega) ?_; intro v8 w8 ho8 hg8 hv8))
        obtain ⟨A8, c8, hv⟩ := own_shape ho8
        subst hv
        go_roundw
        case rel =>
          refine ⟨k + 1, A8, m5 + 1, c8, by omega, by go_num, rfl, by omega, Lib.hid ?_, Lib.hid ?_, Lib.hid ((HB7.out.alloc HB7.out.size _).grown hg8 (by simp; omega) (fun j hj => (HR7.out.lt _ hj).1))⟩
          · rw [HTK.out, HO.out, List.length_append, hml.out]; rfl
          · rw [HTK.out, HO.out, List.map_append]; exact ho8
        case measure => simp [intOf]; omega
    · obtain rfl : m = k := by omega
      have htl : ns.take m = ns := by rw [← HM.out, List.take_length]
      go_wp2_with fail
      go_ret
      rw [htl] at hml hrow
      refine ⟨A5, c5, ns.filter (fun n => (fun x : It => memB wd (tagsOf x.tags)) (rx (rst l n t))), ?_, names_filter HRI.out HNS.out (fun x : It => memB wd (tagsOf x.tags)), ?_, ?_, HBW.out⟩
      · rw [hml.out]; rfl
      · rw [hml.out]; omega
      · rw [hml.out]; exact RowIn.of_own hrow.out

end Go.Proofs.YtpnfnmpohacnoaaDoor
