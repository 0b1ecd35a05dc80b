/- The document's parts: a text cut at a sign. -/
import Derived.Test.YtobkgkiomapabaaGreatDoorDzN
namespace Go.Proofs.YtobkgkiomapabaaGreatDoor
open Go.Shelf Go.RowKit Go.Maps
set_option linter.unusedVariables false

theorem str_info : (Tryz.prog.info? 9).map (fun i => (i.zero, i.size, i.bytes)) = some (some (.string ⟨#[]⟩), 1, 16) := by kernel_rfl
theorem one_str (w : World) (z : ByteArray) (t : TypeId) : RowIn (w.alloc (.cells #[.string z] t)) (w.heap.size + 1) 1 (some ⟨w.heap.size, 0, none⟩) 1 [.string z] := by
  refine ⟨rfl, Or.inr ⟨w.heap.size, 0, rfl, by omega, fun j u hu => ?_⟩⟩
  rw [(Blk.new w t _).cell]
  rw [← hu, Nat.zero_add]
  simp
/-- What has been cut, at k. -/
def CutTo (c : UInt8) (s : ByteArray) (k : Nat) (out : List ByteArray) : Prop := out.map (fun x => x.data.toList) = cutL c (s.data.toList.take k)
theorem CutTo.start (c : UInt8) (s : ByteArray) : CutTo c s 0 [⟨#[]⟩] := rfl
theorem CutTo.sign {c : UInt8} {s : ByteArray} {k : Nat} {out : List ByteArray} (h : CutTo c s k out) (hk : k < s.size) (hb : (s[k]'hk) = c) : CutTo c s (k + 1) (out ++ [⟨#[]⟩]) := by
  unfold CutTo at *
  rw [List.take_add_one, List.getElem?_eq_getElem (by simpa using hk), List.map_append, h]
  have e : s.data.toList[k]'(by simpa using hk) = c := hb
  rw [e]
  show _ = cutL c (_ ++ [c])
  rw [cutL_sign]
  rfl
theorem CutTo.byte {c : UInt8} {s x : ByteArray} {k m : Nat} {out : List ByteArray} (h : CutTo c s k out) (hk : k < s.size) (hb : (s[k]'hk) ≠ c) (hl : out.length = m + 1) (hx : out[m]? = some x) : CutTo c s (k + 1) (out.set m (x ++ s.extract k (k + 1))) := by
  unfold CutTo at *
  have e1 : out = out.take m ++ [x] := by
    apply List.ext_getElem?
    intro j
    by_cases hj : j < m
    · rw [List.getElem?_append_left (by rw [List.length_take]; omega), List.getElem?_take, if_pos hj]
    · rw [List.getElem?_append_right (by rw [List.length_take]; omega), List.length_take, Nat.min_eq_left (by omega)]
      by_cases hj2 : j = m
      · subst hj2
        rw [hx, Nat.sub_self]
        rfl
      · rw [List.getElem?_eq_none (by omega), List.getElem?_eq_none (by simp; omega)]
  have hlt : (out.take m).length = m := by rw [List.length_take]; omega
  obtain ⟨y, t, h1, h2⟩ := cutL_byte c (s[k]'hk) hb (s.data.toList.take k)
  rw [h1] at h
  rw [List.take_add_one, List.getElem?_eq_getElem (by simpa using hk)]
  show _ = cutL c (_ ++ [s[k]'hk])
  rw [h2]
  rw [e1, List.map_append] at h
  have h3 := List.append_inj' h rfl
  have h4 : x.data.toList = y := by simpa using h3.2
  rw [e1, List.set_append_right _ _ (by omega), hlt, Nat.sub_self, List.map_append, h3.1]
  congr 1
  simp only [List.set_cons_zero, List.map_cons, List.map_nil, List.cons.injEq, and_true]
  rw [ByteArray.data_append, Array.toList_append, h4]
  congr 1
  have e2 : (s.extract k (k + 1)).data.toList = (s.data.toList.drop k).take 1 := by simp
  rw [e2, List.drop_eq_getElem_cons (by simpa using hk)]
  rfl
theorem CutTo.fin {c : UInt8} {s : ByteArray} {out : List ByteArray} (h : CutTo c s s.size out) : out = cutB c s := by
  unfold CutTo at h
  rw [List.take_of_length_le (by simp)] at h
  unfold cutB
  rw [← h, List.map_map]
  conv => lhs; rw [← List.map_id out]
  rfl
theorem cutB_len (c : UInt8) (s : ByteArray) : (cutB c s).length ≤ s.size + 1 := by
  have h : ∀ l : List UInt8, (cutL c l).length ≤ l.length + 1 := by
    intro l
    induction l with
    | nil => simp [cutL]
    | cons b l ih =>
      unfold cutL
      split
      · simp; omega
      · split
        · simp
        · rename_i h t e
          rw [e] at ih
          simp only [List.length_cons] at ih ⊢
          omega
  have := h s.data.toList
  unfold cutB
  simpa using this
theorem cutB_word (c : UInt8) (s : ByteArray) : ∀ x ∈ cutB c s, x.size ≤ s.size := by
  have h : ∀ l : List UInt8, ∀ x ∈ cutL c l, x.length ≤ l.length := by
    intro l
    induction l with
    | nil => simp [cutL]
    | cons b l ih =>
      intro x hx
      unfold cutL at hx
      split at hx
      · rcases List.mem_cons.1 hx with rfl | hx
        · simp
        · have := ih x hx; simp; omega
      · split at hx
        · rw [List.mem_singleton] at hx; subst hx; simp
        · rename_i h t e
          rcases List.mem_cons.1 hx with rfl | hx
          · have := ih h (by rw [e]; simp); simp; omega
          · have := ih x (by rw [e]; simp [hx]); simp; omega
  intro x hx
  unfold cutB at hx
  obtain ⟨y, hy, rfl⟩ := List.mem_map.1 hx
  have := h _ y hy
  show y.toArray.size ≤ s.size
  simpa using this

set_option maxHeartbeats 2000000 in
set_option maxRecDepth 100000 in
theorem rcut_any (s : ByteArray) (c : UInt8) (w : World) (hs : s.size ≤ 1000000) :
    Calls Tryz.prog 18 #[.string s, .int .u8 c.toNat] w fun e w' => ∃ A cc, e = .returned (.slice A (cutB c s).length cc) ∧ w'.ownsRow w.heap.size 9 1 (.slice A (cutB c s).length cc) (cutB c s).length ((cutB c s).map .string) ∧ Below w.heap.size w w' := by
  obtain ⟨i0, hi0, hz0, hz1, hz2⟩ := info_parts str_info
  obtain ⟨w1, hw1⟩ : ∃ w1, w.alloc (.cells #[.string ⟨#[]⟩] 9) = w1 := ⟨_, rfl⟩
  have HO1 : Hid (w1.ownsRow w.heap.size 9 1 (.slice (some ⟨w.heap.size, 0, none⟩) 1 1) 1 [.string ⟨#[]⟩]) := Lib.hid (by
    rw [← hw1]
    exact ⟨by simp, Or.inr ⟨w.heap.size, 1, #[.string ⟨#[]⟩], rfl, Nat.le_refl _, heap_alloc_new w _, Nat.le_refl _, by decide, by simp, by simp⟩⟩)
  have HB1 : Hid (Below w.heap.size w w1) := Lib.hid (by rw [← hw1]; exact (Below.refl _ _).alloc (Nat.le_refl _) _)
  go_enter Tryz.func18, Tryz.ntmps18
  go_wp2_with fail
  go_loopw [5, 6] (fun v i wr => ∃ (k m c5 : Nat) (A5 : Option Addr) (out : List ByteArray), k ≤ s.size ∧ i = .int .i64 k ∧ v = .slice A5 (m + 1) c5 ∧ Hid (out.length = m + 1) ∧ m ≤ k ∧ Hid (wr.ownsRow w.heap.size 9 1 (.slice A5 (m + 1) c5) (m + 1) (out.map .string)) ∧ Hid (CutTo c s k out) ∧ Hid (∀ x ∈ out, x.size ≤ k) ∧ Hid (Below w.heap.size w wr)) (fun _ i _ => s.size - (intOf i).toNat)
  case atStart => exact ⟨0, 0, 1, _, [⟨#[]⟩], Nat.zero_le _, rfl, rfl, Lib.hid rfl, Nat.le_refl _, HO1, Lib.hid (CutTo.start c s), Lib.hid (by intro x hx; rw [List.mem_singleton] at hx; subst hx; exact Nat.le_refl _), HB1⟩
  case round =>
    clear hw1 HO1 HB1
    obtain ⟨k, m, c5, A5, out, hk, rfl, rfl, hm, hmk, hrow, hct, hsz, hbw⟩ := hrel
    have hwz := hbw.out.size
    have hk8 : (0 : Int) ≤ (k : Int) := by omega
    by_cases hlt : k < s.size
    · have hk9 : (k : Int) < (s.size : Int) := by omega
      have hk7 : (k : Int) + 1 ≤ (s.size : Int) := by omega
      by_cases hq : (s[k]'hlt) = c
      · have HPN := Lib.hid (hct.out.sign hlt hq)
        have q1 : ((s[k]'hlt).toNat : Int) = (c.toNat : Int) := by rw [hq]
        clear hq
        go_wp2_with (first
          | (at_builtin; refine wpList_append_row _ rfl _ _ 39 rfl w.heap.size 9 i0 _ 1 16 Tryz.underlying39 hi0 hz0 hz1 hz2 rfl (by omega) (.slice A5 (m + 1) c5) (m + 1) _ rfl (hrow.out.alloc _) (wr.heap.size + 1) (some ⟨wr.heap.size, 0, none⟩) 1 1 [.string ⟨#[]⟩] rfl (one_str wr ⟨#[]⟩ _) (fun h => by cases h) (fun u hu => by simp at hu; subst hu; rfl) (by unfold maxLen; omega) (by omega) (by simp; omega) ?_; intro v7 w7 ho7 hg7 hv7))
        obtain ⟨A7, c7, hr7⟩ := own_shape ho7
        subst hr7
        go_wp2_with fail
        go_roundw
        case rel =>
          refine ⟨k + 1, m + 1, c7, A7, out ++ [⟨#[]⟩], by omega, by go_num, rfl, Lib.hid (by rw [List.length_append, hm.out]; rfl), by omega, Lib.hid (by rw [List.map_append]; exact ho7), HPN, Lib.hid (fun x hx => ?_), Lib.hid ((hbw.out.alloc hwz _).grown hg7 (by simp; omega) (fun j hj => (hrow.out.lt _ hj).1))⟩
          rw [List.mem_append, List.mem_singleton] at hx
          rcases hx with hx | rfl
          · have := hsz.out x hx; omega
          · exact Nat.zero_le _
        case measure => simp [intOf]; omega
      · obtain ⟨x, hx⟩ : ∃ x, out[m]? = some x := ⟨_, List.getElem?_eq_getElem (by rw [hm.out]; omega)⟩
        have HPN := Lib.hid (hct.out.byte hlt hq hm.out hx)
        have HXS : Hid (x.size ≤ k) := Lib.hid (hsz.out x (List.mem_of_getElem? hx))
        have q1 : (((s[k]'hlt).toNat : Int) == (c.toNat : Int)) = false := by
          rw [Bool.eq_false_iff]
          intro e
          have := beq_iff_eq.1 e
          exact hq (by apply UInt8.toNat_inj.1; omega)
        obtain ⟨g, cap, hv, hgb, hgl⟩ := hrow.out.form (by omega)
        injection hv with hA _ hC
        subst hA
        have e1 : wr.cell? ⟨g, m, none⟩ = some (.string x) := by
          have := hrow.out.cells (g := g) rfl m (.string x) (by rw [List.getElem?_map, hx]; rfl)
          rw [at_add, Nat.zero_add] at this
          exact this
        have HGB : Hid (w.heap.size ≤ g ∧ g < wr.heap.size) := Lib.hid ⟨hgb, hgl⟩
        have HSC : Hid (∀ V, Below wr.heap.size wr V → V.cell? ⟨g, m, none⟩ = some (.string x)) := Lib.hid (fun V hV => (hV.cell (p := ⟨g, _, none⟩) hgl).trans e1)
        have HFR : Hid (wr.frozen? ⟨g, m, none⟩ = false) := Lib.hid (by
          rcases hrow.out.2 with ⟨h0, _⟩ | ⟨g', cap', cur', h0, _, hg', hle, _, hcs, _⟩
          · cases h0
          · injection h0 with h1
            injection h1 with h1
            injection h1 with h1
            subst h1
            have hB : Blk wr g 9 cur' := hg'
            exact hB.frozen _)
        have HS0 : Hid (Below wr.heap.size wr wr.drew) := Lib.hid (Go.Proofs.YtobkgkiomapabaaGreatDoor.below_drew (Below.refl _ _))
        have HST := Lib.hid ((show wr.drew.ownsRow w.heap.size 9 1 (.slice (some ⟨g, 0, none⟩) (m + 1) c5) (m + 1) (out.map .string) from hrow.out).stored m (.string (x ++ s.extract k (k + 1))))
        have hxz : x.size ≤ 1000000 := by have := HXS.out; omega
        have hm1 : IntKind.i64.wrap (m : Int) = (m : Int) := by rw [IntKind.wrap_i64]; omega
        have hkw : IntKind.i64.wrap ((k : Int) + 1) = (k : Int) + 1 := by rw [IntKind.wrap_i64]; omega
        have hkt : ((k : Int) + 1).toNat = k + 1 := by omega
        have hkk : (k : Int) ≤ (k : Int) + 1 := by omega
        have hm2 : (m : Int) < ((m + 1 : Nat) : Int) := by omega
        have hm3 : (0 : Int) ≤ (m : Int) := by omega
        have hez : (s.extract k (k + 1)).size ≤ 1000000 := by rw [ByteArray.size_extract]; omega
        clear hq hx hC hgb hgl e1
        go_wp2_with fail
        refine wp_planN (fun V => Below wr.heap.size wr V) [(0, 1), (1, 1), (2, 1), (3, 1), (4, 1), (5, 1), (6, 1), (7, 1), (8, 1), (9, 1), (10, 1), (11, 1), (12, 1), (13, 1), (14, 1), (15, 1), (16, 1), (17, 3)] (by kernel_rfl) (by kernel_rfl) HS0.out ?_
        simp only [planNL, List.getElem?_cons_zero, List.getElem?_cons_succ]
        repeat (refine planN_on _ (by rfl) (fun W hW => by (have y0 := HSC.out W hW; go_simp; try (first | with_reducible rfl | rw [if_neg (by omega)] | rw [if_pos (by omega)]))) ?_; simp only [Act.put, List.setIfInBounds_toArray, List.set_cons_zero, List.set_cons_succ])
        refine planN_last ?_
        have z0 := HSC.out _ HS0.out
        have z1 := HFR.out
        have HB7 : Hid (Below w.heap.size w (wr.drew.setCell ⟨g, m, none⟩ (.string (x ++ s.extract k (k + 1))))) := Lib.hid ((hbw.out.trans (HS0.out.mono hwz)).grown HST.out.2 hwz (fun j hj => by cases hj; exact HGB.out.1))
        have HO7 := Lib.hid HST.out.1
        have HX7 : Hid (∀ y ∈ out.set m (x ++ s.extract k (k + 1)), y.size ≤ k + 1) := Lib.hid (fun y hy => by
          rcases List.mem_or_eq_of_mem_set hy with h1 | rfl
          · have := hsz.out y h1; omega
          · have := HXS.out
            rw [ByteArray.size_append, ByteArray.size_extract]; omega)
        clear HST
        go_wp2_with fail
        refine planN_done ?_
        go_wp2_with fail
        go_roundw
        case rel => exact ⟨k + 1, m, c5, _, out.set m (x ++ s.extract k (k + 1)), by omega, by go_num, rfl, Lib.hid (by rw [List.length_set]; exact hm.out), by omega, Lib.hid (by rw [List.map_set]; exact HO7.out), HPN, HX7, HB7⟩
        case measure => simp [intOf]; omega
    · obtain rfl : k = s.size := by omega
      have HPE : Hid (out = cutB c s) := Lib.hid hct.out.fin
      go_wp2_with fail
      go_ret
      have h1 := hm.out
      rw [HPE.out] at h1
      have h2 := hrow.out
      rw [HPE.out, ← h1] at h2
      rw [← h1]
      exact ⟨A5, c5, rfl, h2, hbw.out⟩
end Go.Proofs.YtobkgkiomapabaaGreatDoor
