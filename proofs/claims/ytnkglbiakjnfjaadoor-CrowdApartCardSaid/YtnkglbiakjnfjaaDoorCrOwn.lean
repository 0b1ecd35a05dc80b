/- What a crowd tells; the document's Own, Count, Last, Worth, Fans. -/
import Derived.Test.YtnkglbiakjnfjaaDoorCrFill
namespace Go.Proofs.YtnkglbiakjnfjaaDoor
open Go.Shelf Go.RowKit Go.Maps
set_option linter.unusedVariables false

set_option maxHeartbeats 1000000 in
set_option maxRecDepth 100000 in
theorem doneG_any (cb : Nat) (half : Int) (U : Nat → Prop) (rs : List Rw) (p i : ByteArray) (w : World) (h : CrAt w cb half U rs) (hp : p.size ≤ maxLen) (hi : i.size ≤ maxLen) :
    Calls Tryd.prog 24 #[.pointer (some ⟨cb, 0, none⟩), .string p, .string i] w fun e w' => e = .returned (.bool (doneB rs p i)) ∧ Below w.heap.size w w' := by
  obtain ⟨b, last, G, R, h⟩ := h
  have hc : w.cell? ⟨cb, 11, none⟩ = some (.map (some b.db)) := h.blk.cell 11
  obtain ⟨M, hM, hf⟩ := h.maps.done
  have hl := hM.look lnkKeyed Tryd.underlying76 (zeroBool _) rfl (lnk_keyOf p i hp hi)
  rw [hf p i hp hi, setF_get] at hl
  obtain ⟨q, hq⟩ : ∃ q, doneB rs p i = q := ⟨_, rfl⟩
  rw [hq] at hl ⊢
  clear h hq
  go_enter Tryd.func24, Tryd.ntmps24
  go_wp2_with fail
  go_ret
  exact ⟨rfl, Below.refl _ _⟩

set_option maxHeartbeats 1000000 in
set_option maxRecDepth 100000 in
theorem shownG_any (cb : Nat) (half : Int) (U : Nat → Prop) (rs : List Rw) (p i : ByteArray) (w : World) (h : CrAt w cb half U rs) (hp : p.size ≤ maxLen) (hi : i.size ≤ maxLen) :
    Calls Tryd.prog 25 #[.pointer (some ⟨cb, 0, none⟩), .string p, .string i] w fun e w' => e = .returned (.int .i64 (shownN rs p i)) ∧ Below w.heap.size w w' := by
  obtain ⟨b, last, G, R, h⟩ := h
  have hc : w.cell? ⟨cb, 12, none⟩ = some (.map (some b.sb)) := h.blk.cell 12
  obtain ⟨M, hM, hf⟩ := h.maps.shown
  have hl := hM.look lnkKeyed Tryd.underlying77 (zeroInt _) rfl (lnk_keyOf p i hp hi)
  rw [hf p i hp hi, cntF_get] at hl
  obtain ⟨q, hq⟩ : ∃ q, shownN rs p i = q := ⟨_, rfl⟩
  rw [hq] at hl ⊢
  clear h hq
  go_enter Tryd.func25, Tryd.ntmps25
  go_wp2_with fail
  go_ret
  exact ⟨rfl, Below.refl _ _⟩

set_option maxHeartbeats 1000000 in
set_option maxRecDepth 100000 in
theorem hiddenG_any (cb : Nat) (half : Int) (U : Nat → Prop) (rs : List Rw) (p i : ByteArray) (w : World) (h : CrAt w cb half U rs) (hp : p.size ≤ maxLen) (hi : i.size ≤ maxLen) :
    Calls Tryd.prog 26 #[.pointer (some ⟨cb, 0, none⟩), .string p, .string i] w fun e w' => e = .returned (.bool ((hidO rs p i).getD false)) ∧ Below w.heap.size w w' := by
  obtain ⟨b, last, G, R, h⟩ := h
  have hc : w.cell? ⟨cb, 13, none⟩ = some (.map (some b.hb)) := h.blk.cell 13
  obtain ⟨M, hM, hf⟩ := h.maps.hid
  have hl := hM.look lnkKeyed Tryd.underlying76 (zeroBool _) rfl (lnk_keyOf p i hp hi)
  rw [hf p i hp hi, boolF_get] at hl
  obtain ⟨q, hq⟩ : ∃ q, (hidO rs p i).getD false = q := ⟨_, rfl⟩
  rw [hq] at hl ⊢
  clear h hq
  go_enter Tryd.func26, Tryd.ntmps26
  go_wp2_with fail
  go_ret
  exact ⟨rfl, Below.refl _ _⟩

set_option maxHeartbeats 1000000 in
set_option maxRecDepth 100000 in
theorem fansG_any (cb : Nat) (half : Int) (U : Nat → Prop) (rs : List Rw) (i : ByteArray) (w : World) (h : CrAt w cb half U rs) (hi : i.size ≤ maxLen) :
    Calls Tryd.prog 27 #[.pointer (some ⟨cb, 0, none⟩), .string i] w fun e w' => e = .returned (.int .i64 (fansN rs i)) ∧ Below w.heap.size w w' := by
  obtain ⟨b, last, G, R, h⟩ := h
  have hc : w.cell? ⟨cb, 17, none⟩ = some (.map (some b.nb)) := h.blk.cell 17
  have hl := h.maps.fans.look (string_keyed Tryd.underlying9) Tryd.underlying78 (zeroInt _) rfl (WideMaps.keyOf_string_mk Tryd.underlying9 hi)
  rw [mapG_at, cntG_get] at hl
  obtain ⟨q, hq⟩ : ∃ q, fansN rs i = q := ⟨_, rfl⟩
  rw [hq] at hl ⊢
  clear h hq
  go_enter Tryd.func27, Tryd.ntmps27
  go_wp2_with fail
  go_ret
  exact ⟨rfl, Below.refl _ _⟩

set_option maxHeartbeats 1000000 in
set_option maxRecDepth 100000 in
theorem rworth_any (x : Ev) (w : World) : Calls Tryd.prog 49 #[evA x] w fun e w' => e = .returned (.int .i64 (worthP x)) ∧ Below w.heap.size w w' := by
  have HW : Hid (worthP x = if x.kind = 1 then 1 else if x.kind = 2 then 3 else if x.kind = 3 then 5 else if x.kind = 4 then x.value else 0) := Lib.hid rfl
  generalize worthP x = q at *
  obtain ⟨s0, n0, t0, k0, p0, i0, v0, x0⟩ := x
  dsimp only at HW
  unfold evA
  dsimp only
  obtain ⟨w1, hw1⟩ : ∃ w1, w.alloc (.cells #[.string s0, .int .i64 n0, .int .i64 t0, .int .i64 k0, .string p0, .string i0, .int .i64 v0, .string x0] 40) = w1 := ⟨_, rfl⟩
  have bl : Blk w1 w.heap.size 40 #[.string s0, .int .i64 n0, .int .i64 t0, .int .i64 k0, .string p0, .string i0, .int .i64 v0, .string x0] := by rw [← hw1]; exact Blk.new _ _ _
  have HB1 : Hid (Below w.heap.size w w1) := Lib.hid (by rw [← hw1]; exact (Below.refl _ _).alloc (Nat.le_refl _) _)
  have c3 : w1.cell? ⟨w.heap.size, 3, none⟩ = some (.int .i64 k0) := bl.cell 3
  have c6 : w1.cell? ⟨w.heap.size, 6, none⟩ = some (.int .i64 v0) := bl.cell 6
  clear bl
  by_cases q1 : k0 = 1
  · have HQ : Hid (q = 1) := Lib.hid (by rw [HW.out, if_pos q1])
    subst q1
    clear HW
    go_enter Tryd.func49, Tryd.ntmps49
    go_wp2_with fail
    go_ret
    exact ⟨ret_int HQ.out.symm, HB1.out⟩
  have e1 : (k0 == 1) = false := by rw [Bool.eq_false_iff]; intro e; exact q1 (beq_iff_eq.1 e)
  by_cases q2 : k0 = 2
  · have HQ : Hid (q = 3) := Lib.hid (by rw [HW.out, if_neg (show ¬ k0 = 1 by omega), if_pos q2])
    subst q2
    clear HW
    go_enter Tryd.func49, Tryd.ntmps49
    go_wp2_with fail
    go_ret
    exact ⟨ret_int HQ.out.symm, HB1.out⟩
  have e2 : (k0 == 2) = false := by rw [Bool.eq_false_iff]; intro e; exact q2 (beq_iff_eq.1 e)
  by_cases q3 : k0 = 3
  · have HQ : Hid (q = 5) := Lib.hid (by rw [HW.out, if_neg (show ¬ k0 = 1 by omega), if_neg (show ¬ k0 = 2 by omega), if_pos q3])
    subst q3
    clear HW
    go_enter Tryd.func49, Tryd.ntmps49
    go_wp2_with fail
    go_ret
    exact ⟨ret_int HQ.out.symm, HB1.out⟩
  have e3 : (k0 == 3) = false := by rw [Bool.eq_false_iff]; intro e; exact q3 (beq_iff_eq.1 e)
  by_cases q4 : k0 = 4
  · have HQ : Hid (q = v0) := Lib.hid (by rw [HW.out, if_neg (show ¬ k0 = 1 by omega), if_neg (show ¬ k0 = 2 by omega), if_neg (show ¬ k0 = 3 by omega), if_pos q4])
    subst q4
    clear HW
    go_enter Tryd.func49, Tryd.ntmps49
    go_wp2_with fail
    go_ret
    exact ⟨ret_int HQ.out.symm, HB1.out⟩
  have e4 : (k0 == 4) = false := by rw [Bool.eq_false_iff]; intro e; exact q4 (beq_iff_eq.1 e)
  have HQ : Hid (q = 0) := Lib.hid (by rw [HW.out, if_neg q1, if_neg q2, if_neg q3, if_neg q4])
  clear HW q1 q2 q3 q4
  go_enter Tryd.func49, Tryd.ntmps49
  go_wp2_with fail
  go_ret
  exact ⟨ret_int HQ.out.symm, HB1.out⟩

def ownR (xl : List Rd) (p : ByteArray) : List Rd := xl.filter fun r => decide (r.e.person = p)
theorem ownR_snoc (xl : List Rd) (r : Rd) (p : ByteArray) : ownR (xl ++ [r]) p = if r.e.person = p then ownR xl p ++ [r] else ownR xl p := by
  unfold ownR
  rw [List.filter_append]
  by_cases h : r.e.person = p <;> simp [h]
theorem ownR_len (xl : List Rd) (p : ByteArray) : (ownR xl p).length ≤ xl.length := List.length_filter_le _ _
theorem str_t {a b : ByteArray} (h : a = b) : (a.toList == b.toList) = true := (beq_list _ _).2 h
theorem str_f {a b : ByteArray} (h : a ≠ b) : (a.toList == b.toList) = false := by
  cases e : a.toList == b.toList
  · rfl
  · exact absurd ((beq_list _ _).1 e) h
theorem one_rd (w : World) (r : Rd) (t : TypeId) : RowIn (w.alloc (.cells (rdAr r) t)) (w.heap.size + 1) 9 (some ⟨w.heap.size, 0, none⟩) 1 (rdC r) := one_dd w r.e r.A r.n r.c t

set_option maxHeartbeats 2000000 in
set_option maxRecDepth 100000 in
theorem own_any (w : World) (B : Nat) (A : Option Addr) (n c : Nat) (xl : List Rd) (p : ByteArray) (hn : xl.length = n) (hr : RowIn w B 9 A n (xl.flatMap rdC)) (hB : B ≤ w.heap.size) (hb : n ≤ 1000) :
    Calls Tryd.prog 18 #[.slice A n c, .string p] w fun e w' => ∃ (A' : Option Addr) (n' c' : Nat), e = .returned (.slice A' n' c') ∧ n' = (ownR xl p).length ∧ n' ≤ n ∧ w'.ownsRow w.heap.size 43 9 (.slice A' n' c') n' ((ownR xl p).flatMap rdC) ∧ Below w.heap.size w w' := by
  have HN := Lib.hid hn
  have HR := Lib.hid hr
  obtain ⟨w1, hw1⟩ : ∃ w1, w.alloc (.cells #[] 43) = w1 := ⟨_, rfl⟩
  have HO1 : Hid (w1.ownsRow w.heap.size 43 9 (.slice (some ⟨w.heap.size, 0, none⟩) 0 0) 0 []) := Lib.hid (by rw [← hw1]; exact own_empty _ _ _)
  have HB1 : Hid (Below w.heap.size w w1) := Lib.hid (by rw [← hw1]; exact (Below.refl _ _).alloc (Nat.le_refl _) _)
  obtain ⟨i1, hi1, hy0, hy1, hy2⟩ := info_parts doc_info
  clear hn hr
  go_enter Tryd.func18, Tryd.ntmps18
  go_wp2_with fail
  clear hw1
  go_loopw [5, 6] (fun v i wr => ∃ (k m : Nat), k ≤ n ∧ m ≤ k ∧ i = .int .i64 k ∧ Hid (m = (ownR (xl.take k) p).length) ∧ Hid (wr.ownsRow w.heap.size 43 9 v m ((ownR (xl.take k) p).flatMap rdC)) ∧ Hid (Below w.heap.size w wr)) (fun _ i _ => n - (intOf i).toNat)
  case atStart => exact ⟨0, 0, Nat.zero_le _, Nat.le_refl _, rfl, Lib.hid rfl, HO1, HB1⟩
  case round =>
    clear HO1 HB1
    obtain ⟨k, m, hk, hmk, rfl, hm, hrow, hbw⟩ := hrel
    obtain ⟨A5, c5, hq⟩ := own_shape hrow.out
    rw [hq] at hrow ⊢
    clear hq
    have hwz := hbw.out.size
    by_cases hlt : k < n
    · obtain ⟨x, hx⟩ : ∃ x, xl[k]? = some x := ⟨xl[k]'(by rw [HN.out]; exact hlt), List.getElem?_eq_getElem _⟩
      have HSN : Hid (ownR (xl.take (k + 1)) p = if x.e.person = p then ownR (xl.take k) p ++ [x] else ownR (xl.take k) p) := Lib.hid (by rw [take_snoc hx, ownR_snoc])
      obtain ⟨g, o, rfl, hgB, hcl⟩ := rds_at HR.out (by omega)
      obtain ⟨e0, e1, e2, e3, e4, e5, e6, e7, e8⟩ : RdAt wr g (o + k * 9) x := (hcl k x hx).keep (fun j => hbw.out.cell (p := ⟨g, j, none⟩) (by show g < _; omega))
      have hk8 : (k : Int) < (n : Int) := by omega
      have hk9 : (0 : Int) ≤ (k : Int) := by omega
      have HR1 : Hid (RowIn (wr.alloc (.cells (rdAr x) 43)) (wr.heap.size + 1) 9 (some ⟨wr.heap.size, 0, none⟩) 1 (rdC x)) := Lib.hid (one_rd wr x _)
      unfold rdAr at HR1
      clear hcl hx
      by_cases q1 : x.e.person = p
      · have HSN1 : Hid (ownR (xl.take (k + 1)) p = ownR (xl.take k) p ++ [x]) := Lib.hid (by rw [HSN.out, if_pos q1])
        have s1 := str_t q1
        clear q1 HSN
        go_wp2_with (first
          | (at_builtin; refine wpList_append_row _ rfl _ _ 27 rfl w.heap.size 43 i1 _ 9 120 Tryd.underlying27 hi1 hy0 hy1 hy2 rfl (by omega) (.slice A5 m c5) m _ rfl (hrow.out.alloc _) (wr.heap.size + 1) (some ⟨wr.heap.size, 0, none⟩) 1 1 (rdC x) rfl HR1.out (fun h => by cases h) (fun u hu => rdC_one [x] u (by simpa using hu)) (by unfold maxLen; omega) (by omega) (by simp; omega) ?_; intro v7 w7 ho7 hg7 hv7))
        go_roundw
        case rel =>
          refine ⟨k + 1, m + 1, by omega, by omega, by go_num, Lib.hid (by rw [HSN1.out, List.length_append, ← hm.out]; rfl), Lib.hid ?_, Lib.hid ((hbw.out.alloc hwz _).grown hg7 (by simp; omega) (fun j hj => (hrow.out.lt _ hj).1))⟩
          rw [HSN1.out, List.flatMap_append]
          simpa using ho7
        case measure => simp [intOf]; omega
      · have HSN1 : Hid (ownR (xl.take (k + 1)) p = ownR (xl.take k) p) := Lib.hid (by rw [HSN.out, if_neg q1])
        have s1 := str_f q1
        clear q1 HSN
        go_wp2_with fail
        go_roundw
        case rel => exact ⟨k + 1, m, by omega, by omega, by go_num, Lib.hid (by rw [HSN1.out]; exact hm.out), Lib.hid (by rw [HSN1.out]; exact hrow.out), hbw⟩
        case measure => simp [intOf]; omega
    · obtain rfl : n = k := by omega
      have hta : xl.take n = xl := by rw [← HN.out, List.take_length]
      rw [hta] at hm hrow
      go_wp2_with fail
      go_ret
      exact ⟨A5, m, c5, rfl, hm.out, hmk, hrow.out, hbw.out⟩

def cntK (l : List Rd) (i : ByteArray) (kd : Int) : Nat := l.countP fun r => decide (r.e.item = i ∧ r.e.kind = kd)
theorem cntK_snoc (l : List Rd) (r : Rd) (i : ByteArray) (kd : Int) : cntK (l ++ [r]) i kd = cntK l i kd + if r.e.item = i ∧ r.e.kind = kd then 1 else 0 := by
  unfold cntK
  rw [List.countP_append, List.countP_singleton]
  by_cases h : r.e.item = i ∧ r.e.kind = kd <;> simp [h]
theorem cntK_le (l : List Rd) (i : ByteArray) (kd : Int) : cntK l i kd ≤ l.length := List.countP_le_length
theorem int_t {a b : Int} (h : a = b) : (a == b) = true := by simp [h]
theorem int_f {a b : Int} (h : a ≠ b) : (a == b) = false := by simp [h]

set_option maxHeartbeats 2000000 in
set_option maxRecDepth 100000 in
theorem count_any (w : World) (B : Nat) (A : Option Addr) (n c : Nat) (xl : List Rd) (p i : ByteArray) (kd : Int) (hn : xl.length = n) (hr : RowIn w B 9 A n (xl.flatMap rdC)) (hB : B ≤ w.heap.size) (hb : n ≤ 1000) :
    Calls Tryd.prog 22 #[.slice A n c, .string p, .string i, .int .i64 kd] w fun e w' => e = .returned (.int .i64 (cntK (ownR xl p) i kd)) ∧ Below w.heap.size w w' := by
  have HOW := Lib.hid (own_any w B A n c xl p hn hr hB hb)
  obtain ⟨ol, hol⟩ : ∃ ol, ownR xl p = ol := ⟨_, rfl⟩
  rw [hol] at HOW ⊢
  clear hol
  go_enter Tryd.func22, Tryd.ntmps22
  go_wp2_with fail
  refine HOW.out.mono ?_
  rintro e w1 ⟨A1, n1, c1, rfl, hn1, hnn, ho1, hb1⟩
  have HN := Lib.hid hn1
  have HR := Lib.hid (RowIn.of_own ho1)
  have HB1 := Lib.hid hb1
  clear hn hr hn1 ho1 hb1 HOW
  go_wp2_with fail
  go_loopw [9, 16] (fun v i' wr => ∃ (k m : Nat), k ≤ n1 ∧ m ≤ k ∧ v = .int .i64 m ∧ i' = .int .i64 k ∧ Hid (cntK (ol.take k) i kd = m) ∧ Hid (Below w1.heap.size w1 wr)) (fun _ i _ => n1 - (intOf i).toNat)
  case atStart => exact ⟨0, 0, Nat.zero_le _, Nat.le_refl _, rfl, rfl, Lib.hid rfl, Lib.hid (Below.refl _ _)⟩
  case round =>
    obtain ⟨k, m, hk, hmk, rfl, rfl, hm, hbw⟩ := hrel
    have hwz := hbw.out.size
    by_cases hlt : k < n1
    · obtain ⟨x, hx⟩ : ∃ x, ol[k]? = some x := ⟨ol[k]'(by rw [← HN.out]; exact hlt), List.getElem?_eq_getElem _⟩
      have HSN : Hid (cntK (ol.take (k + 1)) i kd = m + if x.e.item = i ∧ x.e.kind = kd then 1 else 0) := Lib.hid (by rw [take_snoc hx, cntK_snoc, hm.out])
      obtain ⟨g, o, rfl, hgB, hcl⟩ := rds_at HR.out (by omega)
      obtain ⟨e0, e1, e2, e3, e4, e5, e6, e7, e8⟩ : RdAt wr g (o + k * 9) x := (hcl k x hx).keep (fun j => hbw.out.cell (p := ⟨g, j, none⟩) hgB)
      have hk8 : (k : Int) < (n1 : Int) := by omega
      have hk9 : (0 : Int) ≤ (k : Int) := by omega
      obtain ⟨w3, hw3⟩ : ∃ w3, wr.alloc (.cells (rdAr x) 43) = w3 := ⟨_, rfl⟩
      have HBX : Hid (Blk w3 wr.heap.size 43 (rdAr x)) := Lib.hid (by rw [← hw3]; exact Blk.new _ _ _)
      have HB3 : Hid (Below w1.heap.size w1 w3) := Lib.hid (by rw [← hw3]; exact hbw.out.alloc hwz _)
      have d3 : w3.cell? ⟨wr.heap.size, 3, none⟩ = some (.int .i64 x.e.kind) := HBX.out.cell 3
      have d5 : w3.cell? ⟨wr.heap.size, 5, none⟩ = some (.string x.e.item) := HBX.out.cell 5
      unfold rdAr at hw3
      clear hcl hx
      by_cases q1 : x.e.item = i
      rotate_left
      · have HS1 : Hid (cntK (ol.take (k + 1)) i kd = m) := Lib.hid (by rw [HSN.out, if_neg (fun h => q1 h.1)]; rfl)
        have s1 := str_f q1
        clear q1 HSN
        go_wp2_with fail
        go_roundw
        case rel => exact ⟨k + 1, m, by omega, by omega, rfl, by go_num, HS1, HB3⟩
        case measure => simp [intOf]; omega
      have s1 := str_t q1
      by_cases q2 : x.e.kind = kd
      · have HS1 : Hid (cntK (ol.take (k + 1)) i kd = m + 1) := Lib.hid (by rw [HSN.out, if_pos ⟨q1, q2⟩])
        have s2 := int_t q2
        clear q1 q2 HSN
        go_wp2_with fail
        go_roundw
        case rel => exact ⟨k + 1, m + 1, by omega, by omega, by go_num, by go_num, HS1, HB3⟩
        case measure => simp [intOf]; omega
      · have HS1 : Hid (cntK (ol.take (k + 1)) i kd = m) := Lib.hid (by rw [HSN.out, if_neg (fun h => q2 h.2)]; rfl)
        have s2 := int_f q2
        clear q1 q2 HSN
        go_wp2_with fail
        go_roundw
        case rel => exact ⟨k + 1, m, by omega, by omega, rfl, by go_num, HS1, HB3⟩
        case measure => simp [intOf]; omega
    · obtain rfl : n1 = k := by omega
      have hta : ol.take n1 = ol := by rw [HN.out, List.take_length]
      rw [hta] at hm
      go_wp2_with fail
      go_ret
      exact ⟨ret_int (by rw [hm.out]), HB1.out.trans (hbw.out.mono HB1.out.size)⟩

/-- The kind of the last event of two kinds. -/
def lstF (i t : ByteArray) (a b : Int) (acc : Int) (r : Rd) : Int := if r.e.item = i ∧ r.e.text = t ∧ (r.e.kind = a ∨ r.e.kind = b) then r.e.kind else acc
def lstK (l : List Rd) (i t : ByteArray) (a b : Int) : Int := l.foldl (lstF i t a b) (-1)
theorem lstK_snoc (l : List Rd) (r : Rd) (i t : ByteArray) (a b : Int) : lstK (l ++ [r]) i t a b = lstF i t a b (lstK l i t a b) r := by unfold lstK; rw [List.foldl_append]; rfl

set_option maxHeartbeats 2000000 in
set_option maxRecDepth 100000 in
theorem last_any (w : World) (B : Nat) (A : Option Addr) (n c : Nat) (xl : List Rd) (p i t : ByteArray) (a b : Int) (hn : xl.length = n) (hr : RowIn w B 9 A n (xl.flatMap rdC)) (hB : B ≤ w.heap.size) (hb : n ≤ 1000) :
    Calls Tryd.prog 23 #[.slice A n c, .string p, .string i, .string t, .int .i64 a, .int .i64 b] w fun e w' => e = .returned (.int .i64 (lstK (ownR xl p) i t a b)) ∧ Below w.heap.size w w' := by
  have HOW := Lib.hid (own_any w B A n c xl p hn hr hB hb)
  obtain ⟨ol, hol⟩ : ∃ ol, ownR xl p = ol := ⟨_, rfl⟩
  rw [hol] at HOW ⊢
  clear hol
  go_enter Tryd.func23, Tryd.ntmps23
  go_wp2_with fail
  refine HOW.out.mono ?_
  rintro e w1 ⟨A1, n1, c1, rfl, hn1, hnn, ho1, hb1⟩
  have HN := Lib.hid hn1
  have HR := Lib.hid (RowIn.of_own ho1)
  have HB1 := Lib.hid hb1
  clear hn hr hn1 ho1 hb1 HOW
  go_wp2_with fail
  go_loopw [13, 20] (fun v i' wr => ∃ (k : Nat) (m : Int), k ≤ n1 ∧ v = .int .i64 m ∧ i' = .int .i64 k ∧ Hid (lstK (ol.take k) i t a b = m) ∧ Hid (Below w1.heap.size w1 wr)) (fun _ i _ => n1 - (intOf i).toNat)
  case atStart => exact ⟨0, -1, Nat.zero_le _, rfl, rfl, Lib.hid rfl, Lib.hid (Below.refl _ _)⟩
  case round =>
    obtain ⟨k, m, hk, rfl, rfl, hm, hbw⟩ := hrel
    have hwz := hbw.out.size
    by_cases hlt : k < n1
    · obtain ⟨x, hx⟩ : ∃ x, ol[k]? = some x := ⟨ol[k]'(by rw [← HN.out]; exact hlt), List.getElem?_eq_getElem _⟩
      have HSN : Hid (lstK (ol.take (k + 1)) i t a b = if x.e.item = i ∧ x.e.text = t ∧ (x.e.kind = a ∨ x.e.kind = b) then x.e.kind else m) := Lib.hid (by rw [take_snoc hx, lstK_snoc, hm.out]; rfl)
      obtain ⟨g, o, rfl, hgB, hcl⟩ := rds_at HR.out (by omega)
      obtain ⟨e0, e1, e2, e3, e4, e5, e6, e7, e8⟩ : RdAt wr g (o + k * 9) x := (hcl k x hx).keep (fun j => hbw.out.cell (p := ⟨g, j, none⟩) hgB)
      have hk8 : (k : Int) < (n1 : Int) := by omega
      have hk9 : (0 : Int) ≤ (k : Int) := by omega
      obtain ⟨w3, hw3⟩ : ∃ w3, wr.alloc (.cells (rdAr x) 43) = w3 := ⟨_, rfl⟩
      have HBX : Hid (Blk w3 wr.heap.size 43 (rdAr x)) := Lib.hid (by rw [← hw3]; exact Blk.new _ _ _)
      have HB3 : Hid (Below w1.heap.size w1 w3) := Lib.hid (by rw [← hw3]; exact hbw.out.alloc hwz _)
      have d3 : w3.cell? ⟨wr.heap.size, 3, none⟩ = some (.int .i64 x.e.kind) := HBX.out.cell 3
      have d5 : w3.cell? ⟨wr.heap.size, 5, none⟩ = some (.string x.e.item) := HBX.out.cell 5
      have d7 : w3.cell? ⟨wr.heap.size, 7, none⟩ = some (.string x.e.text) := HBX.out.cell 7
      unfold rdAr at hw3
      clear hcl hx
      by_cases q1 : x.e.item = i
      rotate_left
      · have HS1 : Hid (lstK (ol.take (k + 1)) i t a b = m) := Lib.hid (by rw [HSN.out, if_neg (fun h => q1 h.1)])
        have s1 := str_f q1
        clear q1 HSN
        go_wp2_with fail
        go_roundw
        case rel => exact ⟨k + 1, m, by omega, rfl, by go_num, HS1, HB3⟩
        case measure => simp [intOf]; omega
      have s1 := str_t q1
      by_cases q2 : x.e.text = t
      rotate_left
      · have HS1 : Hid (lstK (ol.take (k + 1)) i t a b = m) := Lib.hid (by rw [HSN.out, if_neg (fun h => q2 h.2.1)])
        have s2 := str_f q2
        clear q1 q2 HSN
        go_wp2_with fail
        go_roundw
        case rel => exact ⟨k + 1, m, by omega, rfl, by go_num, HS1, HB3⟩
        case measure => simp [intOf]; omega
      have s2 := str_t q2
      by_cases q3 : x.e.kind = a
      · have HS1 : Hid (lstK (ol.take (k + 1)) i t a b = x.e.kind) := Lib.hid (by rw [HSN.out, if_pos ⟨q1, q2, Or.inl q3⟩])
        have s3 := int_t q3
        clear q1 q2 q3 HSN
        go_wp2_with fail
        go_roundw
        case rel => exact ⟨k + 1, x.e.kind, by omega, rfl, by go_num, HS1, HB3⟩
        case measure => simp [intOf]; omega
      have s3 := int_f q3
      by_cases q4 : x.e.kind = b
      · have HS1 : Hid (lstK (ol.take (k + 1)) i t a b = x.e.kind) := Lib.hid (by rw [HSN.out, if_pos ⟨q1, q2, Or.inr q4⟩])
        have s4 := int_t q4
        clear q1 q2 q3 q4 HSN
        go_wp2_with fail
        go_roundw
        case rel => exact ⟨k + 1, x.e.kind, by omega, rfl, by go_num, HS1, HB3⟩
        case measure => simp [intOf]; omega
      · have HS1 : Hid (lstK (ol.take (k + 1)) i t a b = m) := Lib.hid (by rw [HSN.out, if_neg (fun h => h.2.2.elim q3 q4)])
        have s4 := int_f q4
        clear q1 q2 q3 q4 HSN
        go_wp2_with fail
        go_roundw
        case rel => exact ⟨k + 1, m, by omega, rfl, by go_num, HS1, HB3⟩
        case measure => simp [intOf]; omega
    · obtain rfl : n1 = k := by omega
      have hta : ol.take n1 = ol := by rw [HN.out, List.take_length]
      rw [hta] at hm
      go_wp2_with fail
      go_ret
      exact ⟨ret_int (by rw [hm.out]), HB1.out.trans (hbw.out.mono HB1.out.size)⟩

end Go.Proofs.YtnkglbiakjnfjaaDoor
