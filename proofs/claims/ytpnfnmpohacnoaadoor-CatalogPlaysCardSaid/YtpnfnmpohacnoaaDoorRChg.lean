/- The document's Changes. -/
import Derived.Test.YtpnfnmpohacnoaaDoorRBy
namespace Go.Proofs.YtpnfnmpohacnoaaDoor
open Go.Shelf Go.RowKit Go.Maps
set_option linter.unusedVariables false

def rchg (l : List Ev) (nm : ByteArray) : List Int := chgL ((ofN l nm).map (·.tick))
theorem rchg_is (l : List Ev) (nm : ByteArray) : rchg l nm = chgP l nm := by unfold rchg chgP; rw [rowOf_ticks]
theorem rchg_snoc (l : List Ev) (x : Ev) (nm : ByteArray) : rchg (l ++ [x]) nm = if x.item = nm then (if (rchg l nm).getLast? = some x.tick then rchg l nm else rchg l nm ++ [x.tick]) else rchg l nm := by
  unfold rchg
  rw [ofN_snoc]
  by_cases h : x.item = nm
  · rw [if_pos h, if_pos h, List.map_append]
    exact chgL_snoc _ _
  · rw [if_neg h, if_neg h]

set_option maxHeartbeats 2000000 in
set_option maxRecDepth 100000 in
theorem rchanges_any (w : World) (B : Nat) (A : Option Addr) (l : List Ev) (n c : Nat) (nm : ByteArray) (hn : l.length = n) (hl : EvsAt w B A l) (hB : B ≤ w.heap.size) (hb : n ≤ 100000) :
    Calls Tryd.prog 44 #[.slice A n c, .string nm] w fun e w' => ∃ A' c', e = .returned (.slice A' (rchg l nm).length c') ∧ RowIn w' w'.heap.size 1 A' (rchg l nm).length ((rchg l nm).map (.int .i64)) ∧ Below w.heap.size w w' := by
  have HN := Lib.hid hn
  have HL := Lib.hid hl
  clear hn hl
  obtain ⟨i0, hi0, hz0, hz1, hz2⟩ := info_parts int_info
  go_enter Tryd.func44, Tryd.ntmps44
  go_wp2_with fail
  go_loopw [5, 6] (fun s i wr => ∃ (k : Nat) (A5 : Option Addr) (m5 c5 : Nat), k ≤ n ∧ i = .int .i64 k ∧ s = .slice A5 m5 c5 ∧ m5 ≤ k ∧ Hid ((rchg (l.take k) nm).length = m5) ∧ Hid (wr.ownsRow w.heap.size 3 1 (.slice A5 m5 c5) m5 ((rchg (l.take k) nm).map (.int .i64))) ∧ Hid (Below w.heap.size w wr)) (fun _ i _ => n - (intOf i).toNat)
  case atStart => exact ⟨0, none, 0, 0, Nat.zero_le _, rfl, rfl, Nat.le_refl _, Lib.hid rfl, Lib.hid (own_nil _ _ _ _), Lib.hid (Below.refl _ _)⟩
  case round =>
    obtain ⟨k, A5, m5, c5, hk, rfl, rfl, hmk, hml, hrow, hbw⟩ := hrel
    have hwz := hbw.out.size
    by_cases hlt : k < n
    · obtain ⟨x, hx⟩ : ∃ x, l[k]? = some x := ⟨l[k]'(by rw [HN.out]; exact hlt), List.getElem?_eq_getElem _⟩
      obtain ⟨g, o, hA, hgB, hcl⟩ := HL.out.at (by rw [HN.out]; omega)
      have hgw : g < w.heap.size := Nat.lt_of_lt_of_le hgB hB
      have HE0 := Lib.hid (hcl k x hx)
      have f5 : wr.cell? ⟨g, o + k * 8 + 5, none⟩ = some (.string x.item) := (hbw.out.cell (p := ⟨g, o + k * 8 + 5, none⟩) hgw).trans HE0.out.2.2.2.2.2.1
      have f2 : wr.cell? ⟨g, o + k * 8 + 2, none⟩ = some (.int .i64 x.tick) := (hbw.out.cell (p := ⟨g, o + k * 8 + 2, none⟩) hgw).trans HE0.out.2.2.1
      have HTK : Hid (rchg (l.take (k + 1)) nm = if x.item = nm then (if (rchg (l.take k) nm).getLast? = some x.tick then rchg (l.take k) nm else rchg (l.take k) nm ++ [x.tick]) else rchg (l.take k) nm) := Lib.hid (by rw [take_snoc hx, rchg_snoc])
      have hk8 : (k : Int) < (n : Int) := by omega
      have hk9 : (0 : Int) ≤ (k : Int) := by omega
      subst hA
      clear hcl hx
      generalize rchg (l.take k) nm = out at *
      by_cases hit : x.item = nm
      rotate_left
      · have q1 : (x.item.toList == nm.toList) = false := Bool.eq_false_iff.2 (fun e => hit ((beq_list _ _).1 e))
        have HO : Hid (rchg (l.take (k + 1)) nm = out) := Lib.hid (by rw [HTK.out, if_neg hit])
        clear hit HTK
        go_wp2_with fail
        go_quiet (fail)
        go_wp2_with fail
        go_roundw
        case rel =>
          refine ⟨k + 1, A5, m5, c5, by omega, by go_num, rfl, by omega, Lib.hid ?_, Lib.hid ?_, Lib.hid (below_drewN hbw.out _)⟩
          · rw [HO.out]; exact hml.out
          · rw [HO.out]; exact hrow.out
        case measure => simp [intOf]; omega
      have q1 : (x.item.toList == nm.toList) = true := (beq_list _ _).2 hit
      by_cases hm0 : m5 = 0
      · subst hm0
        have HO : Hid (rchg (l.take (k + 1)) nm = out ++ [x.tick]) := Lib.hid (by
          rw [HTK.out, if_pos hit]
          obtain rfl : out = [] := List.eq_nil_of_length_eq_zero hml.out
          rfl)
        clear hit HTK
        go_wp2_with fail
        go_quiet (fail)
        obtain ⟨w2, hw2⟩ : ∃ w2, wr.drewN nq = w2 := ⟨_, rfl⟩
        rw [hw2]
        have HR2 : Hid (w2.ownsRow w.heap.size 3 1 (.slice A5 0 c5) 0 (out.map (.int .i64))) := Lib.hid (by rw [← hw2]; exact hrow.out)
        have HB2 : Hid (Below w.heap.size w w2) := Lib.hid (by rw [← hw2]; exact below_drewN hbw.out _)
        have f2' : w2.cell? ⟨g, o + k * 8 + 2, none⟩ = some (.int .i64 x.tick) := by rw [← hw2]; exact f2
        have hz2' := HB2.out.size
        clear hw2 f2 f5
        go_wp2_with (first
          | (at_builtin; refine wpList_append_row _ rfl _ _ 27 rfl w.heap.size 3 i0 _ 1 8 Tryd.underlying27 hi0 hz0 hz1 hz2 rfl (by omega) (.slice A5 0 c5) 0 _ rfl (HR2.out.alloc _) (w2.heap.size + 1) (some ⟨w2.heap.size, 0, none⟩) 1 1 [.int .i64 x.tick] rfl (one_int w2 x.tick _) (fun h => by cases h) (fun u hu => by rw [List.mem_singleton] at hu; subst hu; rfl) (by unfold maxLen; omega) (by omega) (by simp; omega) ?_; intro v8 w8 ho8 hg8 hv8))
        obtain ⟨A8, c8, hv⟩ := own_shape ho8
        subst hv
        go_roundw
        case rel =>
          refine ⟨k + 1, A8, 0 + 1, c8, by omega, by go_num, rfl, by omega, Lib.hid ?_, Lib.hid ?_, Lib.hid ((HB2.out.alloc HB2.out.size _).grown hg8 (by simp; omega) (fun j hj => (HR2.out.lt _ hj).1))⟩
          · rw [HO.out, List.length_append, hml.out]; rfl
          · rw [HO.out, List.map_append]; exact ho8
        case measure => simp [intOf]; omega
      obtain ⟨z, hz⟩ : ∃ z, out[m5 - 1]? = some z := ⟨out[m5 - 1]'(by rw [hml.out]; omega), List.getElem?_eq_getElem _⟩
      have hlast : out.getLast? = some z := by rw [List.getLast?_eq_getElem?, hml.out]; exact hz
      obtain ⟨g5, cap5, hv5, hg5, hlt5⟩ := hrow.out.form (by omega)
      injection hv5 with hA5 _ hc5
      subst hA5
      subst hc5
      have e5 : wr.cell? ⟨g5, m5 - 1, none⟩ = some (.int .i64 z) := by
        have := hrow.out.cells (g := g5) rfl (m5 - 1) (.int .i64 z) (by simp [hz])
        rwa [at_add, Nat.zero_add] at this
      have hm1 : ((m5 : Int) == 0) = false := by rw [Bool.eq_false_iff]; intro e; have := beq_iff_eq.1 e; omega
      have hm2 : (0 : Int) ≤ (m5 : Int) - 1 := by omega
      have hm3 : (m5 : Int) - 1 < (m5 : Int) := by omega
      have hm4 : ((m5 : Int) - 1).toNat = m5 - 1 := by omega
      rw [if_pos hit, hlast] at HTK
      clear hz hlast hit
      by_cases hzx : z = x.tick
      · have HO : Hid (rchg (l.take (k + 1)) nm = out) := Lib.hid (by rw [HTK.out, if_pos (by rw [hzx])])
        have q2 : (z != x.tick) = false := by simp [hzx]
        clear hzx HTK
        go_wp2_with fail
        go_quiet (fail)
        go_wp2_with fail
        go_roundw
        case rel =>
          refine ⟨k + 1, some ⟨g5, 0, none⟩, m5, c5, by omega, by go_num, rfl, by omega, Lib.hid ?_, Lib.hid ?_, Lib.hid (below_drewN hbw.out _)⟩
          · rw [HO.out]; exact hml.out
          · rw [HO.out]; exact hrow.out
        case measure => simp [intOf]; omega
      · have HO : Hid (rchg (l.take (k + 1)) nm = out ++ [x.tick]) := Lib.hid (by rw [HTK.out, if_neg (fun e => hzx (Option.some.inj e))])
        have q2 : (z != x.tick) = true := by simp [hzx]
        clear hzx HTK
        go_wp2_with fail
        go_quiet (fail)
        obtain ⟨w2, hw2⟩ : ∃ w2, wr.drewN nq = w2 := ⟨_, rfl⟩
        rw [hw2]
        have HR2 : Hid (w2.ownsRow w.heap.size 3 1 (.slice (some ⟨g5, 0, none⟩) m5 c5) m5 (out.map (.int .i64))) := Lib.hid (by rw [← hw2]; exact hrow.out)
        have HB2 : Hid (Below w.heap.size w w2) := Lib.hid (by rw [← hw2]; exact below_drewN hbw.out _)
        have f2' : w2.cell? ⟨g, o + k * 8 + 2, none⟩ = some (.int .i64 x.tick) := by rw [← hw2]; exact f2
        have hz2' := HB2.out.size
        clear hw2 f2 f5 e5
        go_wp2_with (first
          | (at_builtin; refine wpList_append_row _ rfl _ _ 27 rfl w.heap.size 3 i0 _ 1 8 Tryd.underlying27 hi0 hz0 hz1 hz2 rfl (by omega) (.slice (some ⟨g5, 0, none⟩) m5 c5) m5 _ rfl (HR2.out.alloc _) (w2.heap.size + 1) (some ⟨w2.heap.size, 0, none⟩) 1 1 [.int .i64 x.tick] rfl (one_int w2 x.tick _) (fun h => by cases h) (fun u hu => by rw [List.mem_singleton] at hu; subst hu; rfl) (by unfold maxLen; omega) (by omega) (by simp; omega) ?_; intro v8 w8 ho8 hg8 hv8))
        obtain ⟨A8, c8, hv⟩ := own_shape ho8
        subst hv
        go_roundw
        case rel =>
          refine ⟨k + 1, A8, m5 + 1, c8, by omega, by go_num, rfl, by omega, Lib.hid ?_, Lib.hid ?_, Lib.hid ((HB2.out.alloc HB2.out.size _).grown hg8 (by simp; omega) (fun j hj => (HR2.out.lt _ hj).1))⟩
          · rw [HO.out, List.length_append, hml.out]; rfl
          · rw [HO.out, List.map_append]; exact ho8
        case measure => simp [intOf]; omega
    · obtain rfl : n = k := by omega
      have htl : l.take n = l := by rw [← HN.out, List.take_length]
      go_wp2_with fail
      go_ret
      rw [htl] at hml hrow
      refine ⟨A5, c5, ?_, ?_, hbw.out⟩
      · rw [hml.out]; rfl
      · rw [hml.out]; exact RowIn.of_own hrow.out

end Go.Proofs.YtpnfnmpohacnoaaDoor
