/- The document's Decode: the clock whose text this is, or none. -/
import Derived.Test.YtobkgkiomapabaaGreatDoorDzR
import Derived.Test.YtobkgkiomapabaaGreatDoorDcV
namespace Go.Proofs.YtobkgkiomapabaaGreatDoor
open Go.Shelf Go.RowKit Go.Maps
set_option linter.unusedVariables false

/-! ### plain: where it says no -/
theorem cutB_pos (c : UInt8) (s : ByteArray) : 1 ≤ (cutB c s).length := by
  unfold cutB
  rw [List.length_map]
  cases h : cutL c s.data.toList with
  | nil => exact absurd h (cutL_ne c _)
  | cons x t => simp
theorem no_last {b x : ByteArray} {n : Nat} (hn : (cutB 10 b).length = n + 1) (hx : (cutB 10 b)[n]? = some x) (h : x ≠ ⟨#[]⟩ ∨ n + 1 < 2) : ∀ c l, ¬ CodeOf b c l := fun c l hc => by
  obtain ⟨h1, _, _, h4⟩ := code_lines hc
  have e : n = l.length + 1 := by omega
  rw [e] at hx
  rw [h4] at hx
  cases hx
  rcases h with h | h
  · exact h rfl
  · omega
theorem head_is' {b h : ByteArray} (hh : (cutB 10 b)[0]? = some h) {c : Ck} {l : List Sc} (hc : CodeOf b c l) : cutB 32 h = [clockW, itoaB c.slack, itoaB c.idle, itoaB c.now, itoaB c.mark] := by
  have h2 := (code_lines hc).2.1
  rw [hh] at h2
  cases h2
  exact head_words c
theorem no_head {b h : ByteArray} {n : Nat} (hh : (cutB 10 b)[0]? = some h) (hn : (cutB 32 h).length = n) (hf : n ≠ 5 ∨ ∀ x, (cutB 32 h)[0]? = some x → x ≠ clockW) : ∀ c l, ¬ CodeOf b c l := fun c l hc => by
  have e := head_is' hh hc
  rcases hf with hf | hf
  · rw [e] at hn
    exact hf hn.symm
  · exact hf clockW (by rw [e]; rfl) rfl
theorem no_nums {b h w0 w1 w2 w3 w4 : ByteArray} {a0 a1 a2 a3 : Int} (hh : (cutB 10 b)[0]? = some h) (hw : cutB 32 h = [w0, w1, w2, w3, w4]) (n1 : NumIs w1 a0) (n2 : NumIs w2 a1) (n3 : NumIs w3 a2) (n4 : (w4 = itoaB (-1) ∧ a3 = -1) ∨ (w4 ≠ itoaB (-1) ∧ NumIs w4 a3)) (hf : a0 < 0 ∨ a1 < 0 ∨ a2 < 0 ∨ a3 < -1) : ∀ c l, ¬ CodeOf b c l := fun c l hc => by
  have e := head_is' hh hc
  rw [hw] at e
  simp only [List.cons.injEq, and_true] at e
  obtain ⟨_, e1, e2, e3, e4⟩ := e
  obtain ⟨s0, s1, i0, i1, m0, m1, k0, k1⟩ := hc.1.ok
  have q1 := n1.of s0 s1 (by rw [e1, itoaB_data])
  have q2 := n2.of i0 i1 (by rw [e2, itoaB_data])
  have q3 := n3.of m0 m1 (by rw [e3, itoaB_data])
  have q4 : -1 ≤ a3 := by
    rcases n4 with ⟨_, rfl⟩ | ⟨hne, n4⟩
    · omega
    · by_cases h1 : c.mark = -1
      · rw [h1] at e4; exact absurd e4 hne
      · have := n4.of (by omega) k1 (by rw [e4, itoaB_data])
        omega
  omega
theorem row_at {b : ByteArray} {c : Ck} {l : List Sc} {h : ByteArray} {n : Nat} (hd : DocTo b c l) (hn : (cutB 10 b).length = n) (hi : l.length + 2 < n) (hh : (cutB 10 b)[l.length + 1]? = some h) {c0 : Ck} {l0 : List Sc} (hc : CodeOf b c0 l0) : ∃ x, l0[l.length]? = some x ∧ cutB 32 h = [x.1, itoaB x.2.1, itoaB x.2.2] := by
  obtain ⟨h1, _, h3, _⟩ := code_lines hc
  obtain ⟨x, hx⟩ : ∃ x, l0[l.length]? = some x := ⟨_, List.getElem?_eq_getElem (by omega)⟩
  refine ⟨x, hx, ?_⟩
  have h4 := h3 _ _ hx
  rw [hh] at h4
  cases h4
  exact row_words (hc.1.name x (List.mem_of_getElem? hx))
theorem no_row {b : ByteArray} {c : Ck} {l : List Sc} {h : ByteArray} {n m : Nat} (hd : DocTo b c l) (hn : (cutB 10 b).length = n) (hi : l.length + 2 < n) (hh : (cutB 10 b)[l.length + 1]? = some h) (hm : (cutB 32 h).length = m) (hf : m ≠ 3 ∨ ∀ x, (cutB 32 h)[0]? = some x → nameB x = false) : ∀ c l, ¬ CodeOf b c l := fun c0 l0 hc => by
  obtain ⟨x, hx, e⟩ := row_at hd hn hi hh hc
  rcases hf with hf | hf
  · rw [e] at hm; exact hf hm.symm
  · have h1 := hf x.1 (by rw [e]; rfl)
    rw [hc.1.name x (List.mem_of_getElem? hx)] at h1
    cases h1
theorem no_line {b : ByteArray} {c : Ck} {l : List Sc} {h nm w1 w2 : ByteArray} {n : Nat} {a1 a2 : Int} (hd : DocTo b c l) (hn : (cutB 10 b).length = n) (hi : l.length + 2 < n) (hh : (cutB 10 b)[l.length + 1]? = some h) (hw : cutB 32 h = [nm, w1, w2]) (n1 : NumIs w1 a1) (n2 : NumIs w2 a2) (hf : a1 < 0 ∨ a2 < 0 ∨ c.now < a2 ∨ ∃ y, l.getLast? = some y ∧ ¬ ltN y.1 nm) : ∀ c l, ¬ CodeOf b c l := fun c0 l0 hc => by
  obtain ⟨x, hx, e⟩ := row_at hd hn hi hh hc
  obtain ⟨g1, g2, g3, g4, g5, g6⟩ := hd.agree hc
  rw [hw] at e
  simp only [List.cons.injEq, and_true] at e
  obtain ⟨rfl, e1, e2⟩ := e
  have hm := List.mem_of_getElem? hx
  obtain ⟨b1, b2, b3, b4, b5⟩ := hc.1.rows.ok x hm
  have b6 := hc.1.last x hm
  have q1 := n1.of b1 b2 (by rw [e1, itoaB_data])
  have q2 := n2.of b3 b4 (by rw [e2, itoaB_data])
  rcases hf with hf | hf | hf | ⟨y, hy, hf⟩
  · omega
  · omega
  · omega
  · have hne : l ≠ [] := by rintro rfl; simp at hy
    have hlen : 0 < l.length := List.length_pos_iff.2 hne
    have hy2 : l[l.length - 1]? = some y := by rw [← List.getLast?_eq_getElem?]; exact hy
    have hy3 := g6 _ _ hy2
    obtain ⟨k1, rfl⟩ := List.getElem?_eq_some_iff.1 hy3
    obtain ⟨k2, rfl⟩ := List.getElem?_eq_some_iff.1 hx
    exact hf (List.pairwise_iff_getElem.1 hc.1.rows.asc _ _ k1 k2 (by omega))

/-- What the document's Decode hands back. -/
def RDecPost (b : ByteArray) (w : World) (e : Ending) (w' : World) : Prop :=
  Below w.heap.size w w' ∧ ((∃ D db n c l, e = .returned (.pointer (some ⟨db, 0, none⟩)) ∧ w.heap.size ≤ D ∧ DocAt w' D db n c ∧ n ≤ b.size ∧ CodeOf b c l ∧ ∀ c0 l0, CodeOf b c0 l0 → c0 = c) ∨ (e = .returned (.pointer none) ∧ ∀ c l, ¬ CodeOf b c l))

theorem DocTo.same {b : ByteArray} {c : Ck} {l : List Sc} (hd : DocTo b c l) (h1 : (cutB 10 b).length = l.length + 2) (hsrc : c.src = srcFold l) : ∀ c0 l0, CodeOf b c0 l0 → c0 = c := fun c0 l0 h0 => by
  obtain ⟨e1, e2, e3, e4, e5, e6⟩ := hd.agree h0
  have hlen := (code_lines h0).1
  rw [h1] at hlen
  have hl : l = l0 := List.ext_getElem? (fun k => by
    by_cases hk : k < l.length
    · have := e6 k (l[k]'hk) (List.getElem?_eq_getElem hk)
      rw [this, List.getElem?_eq_getElem hk]
    · rw [List.getElem?_eq_none (by omega), List.getElem?_eq_none (by omega)])
  subst hl
  have hs : c0.src = c.src := by rw [hsrc, srcFold_rows h0.1.rows]
  obtain ⟨a, i, n, m, s⟩ := c
  obtain ⟨a', i', n', m', s'⟩ := c0
  dsimp only at e1 e2 e3 e4 hs
  subst e1 e2 e3 e4 hs
  rfl
theorem tells_no {c : Ck} {v : Int} (h : TellsD c v) (ho : c.Ok) (hv : c.mark < v) : ¬ ∀ m, Told c m true → m ≤ c.mark := fun hall => by
  obtain ⟨m, any, rfl, ht⟩ := h
  have hm0 := ho.m0
  unfold tellD at hv
  split at hv
  · rename_i hc
    obtain ⟨rfl, _⟩ := hc
    have := hall m ht
    omega
  · omega
theorem tells_yes {c : Ck} {v : Int} (h : TellsD c v) (ho : c.Ok) (hv : ¬ c.mark < v) : ∀ m, Told c m true → m ≤ c.mark := fun m' ht' => by
  obtain ⟨m, any, rfl, ht⟩ := h
  have hm0 := ho.m0
  obtain ⟨rfl, rfl⟩ := ht.unique ht'
  unfold tellD at hv
  split at hv
  · omega
  · rename_i hc
    have : ¬ -2 ≤ m := fun h2 => hc ⟨rfl, h2⟩
    omega
theorem own_below {w w' : World} {base e size n : Nat} {v : Value} {xs : List Value} (h : w.ownsRow base e size v n xs) (hb : Below w.heap.size w w') : w'.ownsRow base e size v n xs := by
  refine ⟨h.1, h.2.elim Or.inl fun ⟨g, cap, cur, h1, h2, h3, h4⟩ => Or.inr ⟨g, cap, cur, h1, h2, ?_, h4⟩⟩
  rw [hb.block g (Array.getElem?_eq_some_iff.1 h3).1]
  exact h3
/-- Where the loop over the rows stands. -/
structure RState (b : ByteArray) (db B : Nat) (c : Ck) (w4 : World) (l : List Sc) (m cc : Nat) (A : Option Addr) (wr : World) : Prop where
  blk : Blk wr db 59 #[.int .i64 c.slack, .int .i64 c.idle, .int .i64 c.now, .int .i64 c.mark, .slice A m cc]
  own : wr.ownsRow B 61 3 (.slice A m cc) m (l.flatMap scC)
  len : l.length = m
  to_ : DocTo b c l
  kept : Kept (fun i => i = db) w4 wr

set_option maxHeartbeats 8000000 in
set_option maxRecDepth 100000 in
theorem rdecode_any (b : ByteArray) (w : World) (hb : b.size ≤ 9000) :
    Calls Tryz.prog 6 #[.string b] w fun e w' => RDecPost b w e w' := by
  obtain ⟨i0, hi0, hz0i, hz1i, hz2i⟩ := info_parts sc_info
  go_enter Tryz.func6, Tryz.ntmps6
  go_wp2_with fail
  refine (rcut_any b 10 w (by omega)).mono ?_
  rintro e w1 ⟨A1, c1, rfl, ho1, hb1⟩
  obtain ⟨n, hn⟩ : ∃ n, (cutB 10 b).length = n + 1 := ⟨(cutB 10 b).length - 1, by have := cutB_pos 10 b; omega⟩
  have hnb : n ≤ b.size := by have := cutB_len 10 b; omega
  have hn9 : n ≤ 9000 := by omega
  rw [hn] at ho1 ⊢
  have HN := Lib.hid hn
  obtain ⟨g1, o1, rfl, hg1, hc1⟩ := (RowIn.of_own ho1).at (by omega)
  have HB1 := Lib.hid hb1
  have HL1 : Hid (∀ V, Below w1.heap.size w1 V → ∀ j x, (cutB 10 b)[j]? = some x → V.cell? ⟨g1, o1 + j, none⟩ = some (.string x)) := Lib.hid (fun V hV j x hx => (hV.cell (p := ⟨g1, o1 + j, none⟩) hg1).trans (hc1 j (.string x) (by rw [List.getElem?_map, hx]; rfl)))
  have HG1 := Lib.hid hg1
  have HCW := Lib.hid (cutB_word 10 b)
  clear ho1 hb1 hn hg1 hc1
  obtain ⟨xl, hxl⟩ : ∃ x, (cutB 10 b)[n]? = some x := ⟨_, List.getElem?_eq_getElem (by rw [HN.out]; omega)⟩
  have e1 := HL1.out w1 (Below.refl _ _) n xl hxl
  have hw1 : IntKind.i64.wrap (n : Int) = (n : Int) := by rw [IntKind.wrap_i64]; omega
  have HXL := Lib.hid hxl
  have hnn : (0 : Int) ≤ (n : Int) := by omega
  clear hxl
  by_cases hx0 : xl = ⟨#[]⟩
  rotate_left
  · have HNO : Hid (∀ c l, ¬ CodeOf b c l) := Lib.hid (no_last HN.out HXL.out (Or.inl hx0))
    have hre : xl.toList.isEmpty = false := by
      rw [Lib.toList_data]
      cases h : xl.data.toList with
      | nil => exact absurd (ba_eq h) hx0
      | cons a l => rfl
    clear hx0
    go_wp2_with fail
    go_ret
    exact ⟨HB1.out, Or.inr ⟨rfl, HNO.out⟩⟩
  subst hx0
  by_cases hn2 : n + 1 < 2
  · have HNO : Hid (∀ c l, ¬ CodeOf b c l) := Lib.hid (no_last HN.out HXL.out (Or.inr hn2))
    have q0 : decide ((n : Int) + 1 < 2) = true := decide_eq_true (by omega)
    go_wp2_with fail
    go_ret
    exact ⟨HB1.out, Or.inr ⟨rfl, HNO.out⟩⟩
  have q0 : decide ((n : Int) + 1 < 2) = false := decide_eq_false (by omega)
  obtain ⟨h0, hh0⟩ : ∃ x, (cutB 10 b)[0]? = some x := ⟨_, List.getElem?_eq_getElem (by rw [HN.out]; omega)⟩
  have e2 : w1.cell? ⟨g1, o1, none⟩ = some (.string h0) := HL1.out w1 (Below.refl _ _) 0 h0 hh0
  have HH0 := Lib.hid hh0
  have hz0 : h0.size ≤ 9000 := by have := HCW.out h0 (List.mem_of_getElem? hh0); omega
  clear hh0
  go_wp2_with fail
  clear e1
  refine (rcut_any h0 32 w1 (by omega)).mono ?_
  rintro e w2 ⟨A2, c2, rfl, ho2, hb2⟩
  obtain ⟨m, hm⟩ : ∃ m, (cutB 32 h0).length = m := ⟨_, rfl⟩
  have hm1 : 1 ≤ m := by have := cutB_pos 32 h0; omega
  rw [hm] at ho2 ⊢
  have HM := Lib.hid hm
  obtain ⟨g2, o2, rfl, hg2, hc2⟩ := (RowIn.of_own ho2).at (by omega)
  have HB2 : Hid (Below w1.heap.size w1 w2) := Lib.hid hb2
  have HBW2 : Hid (Below w.heap.size w w2) := Lib.hid (HB1.out.trans (hb2.mono HB1.out.size))
  have HL2 : Hid (∀ V, Below w2.heap.size w2 V → ∀ j x, (cutB 32 h0)[j]? = some x → V.cell? ⟨g2, o2 + j, none⟩ = some (.string x)) := Lib.hid (fun V hV j x hx => (hV.cell (p := ⟨g2, o2 + j, none⟩) hg2).trans (hc2 j (.string x) (by rw [List.getElem?_map, hx]; rfl)))
  have HCW2 := Lib.hid (cutB_word 32 h0)
  clear ho2 hb2 hm hg2 hc2 e2
  by_cases hm5 : m = 5
  rotate_left
  · have HNO : Hid (∀ c l, ¬ CodeOf b c l) := Lib.hid (no_head HH0.out HM.out (Or.inl hm5))
    have q1 : ¬ (m : Int) = 5 := by omega
    clear hm5
    go_wp2_with fail
    go_ret
    exact ⟨HBW2.out, Or.inr ⟨rfl, HNO.out⟩⟩
  subst hm5
  obtain ⟨wd0, wd1, wd2, wd3, wd4, hwd⟩ : ∃ a b' c d e, cutB 32 h0 = [a, b', c, d, e] := by
    have := HM.out
    match cutB 32 h0, this with
    | [a, b', c, d, e], _ => exact ⟨a, b', c, d, e, rfl⟩
  have HWD := Lib.hid hwd
  have HC5 : Hid (∀ V, Below w2.heap.size w2 V → V.cell? ⟨g2, o2, none⟩ = some (.string wd0) ∧ V.cell? ⟨g2, o2 + 1, none⟩ = some (.string wd1) ∧ V.cell? ⟨g2, o2 + 2, none⟩ = some (.string wd2) ∧ V.cell? ⟨g2, o2 + 3, none⟩ = some (.string wd3) ∧ V.cell? ⟨g2, o2 + 4, none⟩ = some (.string wd4)) := Lib.hid (fun V hV => ⟨HL2.out V hV 0 wd0 (by rw [hwd]; rfl), HL2.out V hV 1 wd1 (by rw [hwd]; rfl), HL2.out V hV 2 wd2 (by rw [hwd]; rfl), HL2.out V hV 3 wd3 (by rw [hwd]; rfl), HL2.out V hV 4 wd4 (by rw [hwd]; rfl)⟩)
  have hz1 : wd1.size ≤ 9000 ∧ wd2.size ≤ 9000 ∧ wd3.size ≤ 9000 ∧ wd4.size ≤ 9000 := by
    have h1 := HCW2.out wd1 (by rw [hwd]; simp)
    have h2 := HCW2.out wd2 (by rw [hwd]; simp)
    have h3 := HCW2.out wd3 (by rw [hwd]; simp)
    have h4 := HCW2.out wd4 (by rw [hwd]; simp)
    omega
  obtain ⟨hz1, hz2, hz3, hz4⟩ := hz1
  clear hwd HL2 HCW2
  obtain ⟨e3, _, _, _, _⟩ := HC5.out w2 (Below.refl _ _)
  by_cases hck : wd0 = clockW
  rotate_left
  · have HNO : Hid (∀ c l, ¬ CodeOf b c l) := Lib.hid (no_head HH0.out HM.out (Or.inr (fun x hx => by rw [HWD.out] at hx; cases hx; exact hck)))
    have q1 : (wd0.toList == [99, 108, 111, 99, 107]) = false := by rw [show ([99, 108, 111, 99, 107] : List UInt8) = clockW.toList from by rw [Lib.toList_data]; rfl]; exact beq_no hck
    clear hck
    go_wp2_with fail
    go_ret
    exact ⟨HBW2.out, Or.inr ⟨rfl, HNO.out⟩⟩
  have HWC : Hid (cutB 32 h0 = [clockW, wd1, wd2, wd3, wd4]) := Lib.hid (by rw [HWD.out, hck])
  have q1 : (wd0.toList == [99, 108, 111, 99, 107]) = true := by rw [show ([99, 108, 111, 99, 107] : List UInt8) = clockW.toList from by rw [Lib.toList_data]; rfl]; exact (beq_list _ _).2 hck
  clear hck
  go_wp2_with fail
  clear q1 e3
  have HS2 : Hid (Below w2.heap.size w2 w2.drew) := Lib.hid (Go.Proofs.YtobkgkiomapabaaGreatDoor.below_drew (Below.refl _ _))
  refine wp_plan (fun V => Below w2.heap.size w2 V) [(0, false), (1, false), (2, false), (4, false), (5, false), (6, false), (8, false), (9, false), (10, false), (12, false), (13, false), (14, false), (3, true), (7, true), (11, true), (15, true), (16, false), (17, true), (18, false)] (by kernel_rfl) (by kernel_rfl) HS2.out ?_
  simp only [planL, List.getElem?_cons_zero, List.getElem?_cons_succ]
  repeat (first | (refine plan_on _ (by rfl) (fun W hW => by (obtain ⟨y0, y1, y2, y3, y4⟩ := HC5.out W hW; go_simp; try (first | with_reducible rfl | rw [if_neg (by omega)] | rw [if_pos (by omega)]))) ?_; simp only [Act.put, List.setIfInBounds_toArray, List.set_cons_zero, List.set_cons_succ]) | (refine plan_off (by rfl) ?_; simp only [Act.put, List.setIfInBounds_toArray, List.set_cons_zero, List.set_cons_succ]))
  refine plan_turn ?_
  go_wp2_with fail
  refine (rnum_any wd1 _ (by omega)).mono ?_
  rintro e _ ⟨a0, rfl, hn0, rfl⟩
  have HN0 := Lib.hid hn0
  clear hn0
  go_wp2_with fail
  refine ⟨HS2.out, ?_⟩
  refine plan_turn ?_
  go_wp2_with fail
  refine (rnum_any wd2 _ (by omega)).mono ?_
  rintro e _ ⟨a1, rfl, hn0, rfl⟩
  have HN1 := Lib.hid hn0
  clear hn0
  go_wp2_with fail
  refine ⟨HS2.out, ?_⟩
  refine plan_turn ?_
  go_wp2_with fail
  refine (rnum_any wd3 _ (by omega)).mono ?_
  rintro e _ ⟨a2, rfl, hn0, rfl⟩
  have HN2 := Lib.hid hn0
  clear hn0
  go_wp2_with fail
  refine ⟨HS2.out, ?_⟩
  refine plan_turn ?_
  go_wp2_with fail
  refine (rnum_any wd4 _ (by omega)).mono ?_
  rintro e _ ⟨a3, rfl, hn0, rfl⟩
  have HN3 := Lib.hid hn0
  clear hn0
  go_wp2_with fail
  refine ⟨HS2.out, ?_⟩
  repeat (first | (refine plan_on _ (by rfl) (fun W hW => by (obtain ⟨y0, y1, y2, y3, y4⟩ := HC5.out W hW; go_simp; try (first | with_reducible rfl | rw [if_neg (by omega)] | rw [if_pos (by omega)]))) ?_; simp only [Act.put, List.setIfInBounds_toArray, List.set_cons_zero, List.set_cons_succ]) | (refine plan_off (by rfl) ?_; simp only [Act.put, List.setIfInBounds_toArray, List.set_cons_zero, List.set_cons_succ]))
  refine plan_turn ?_
  go_wp2_with fail
  obtain ⟨w3, hw3⟩ : ∃ w3, (w2.alloc (.cells #[.int .i64 a0, .int .i64 a1, .int .i64 a2, .int .i64 a3, .slice none 0 0] 59)).drew = w3 := ⟨_, rfl⟩
  have HK3 : Hid (Blk w3 w2.heap.size 59 #[.int .i64 a0, .int .i64 a1, .int .i64 a2, .int .i64 a3, .slice none 0 0]) := Lib.hid (by rw [← hw3]; exact (Blk.new _ _ _).drew)
  have HB3 : Hid (Below w2.heap.size w2 w3) := Lib.hid (by rw [← hw3]; exact Go.Proofs.YtobkgkiomapabaaGreatDoor.below_drew ((Below.refl _ _).alloc (Nat.le_refl _) _))
  have HZ3 : Hid (w3.heap.size = w2.heap.size + 1) := Lib.hid (by rw [← hw3]; show (w2.alloc _).heap.size = _; simp)
  rw [hw3]
  clear hw3
  refine ⟨HB3.out, ?_⟩
  repeat (first | (refine plan_on _ (by rfl) (fun W hW => by (go_simp; try (first | with_reducible rfl | rw [if_neg (by omega)] | rw [if_pos (by omega)]))) ?_; simp only [Act.put, List.setIfInBounds_toArray, List.set_cons_zero, List.set_cons_succ]) | (refine plan_off (by rfl) ?_; simp only [Act.put, List.setIfInBounds_toArray, List.set_cons_zero, List.set_cons_succ]))
  refine plan_done ?_
  obtain ⟨db, hdb⟩ : ∃ db, w2.heap.size = db := ⟨_, rfl⟩
  have HDB := Lib.hid hdb
  rw [hdb] at HK3 ⊢
  clear hdb
  obtain ⟨e3, _, _, _, e4⟩ := HC5.out w3 HB3.out
  have e5 : w3.cell? ⟨db, 3, none⟩ = some (.int .i64 a3) := HK3.out.cell 3
  have f5 : w3.frozen? ⟨db, 3, none⟩ = false := HK3.out.frozen 3
  obtain ⟨a4, ha4⟩ : ∃ a4, (if wd4 = itoaB (-1) then -1 else a3) = a4 := ⟨_, rfl⟩
  have HM4 : Hid ((wd4 = itoaB (-1) ∧ a4 = -1) ∨ (wd4 ≠ itoaB (-1) ∧ NumIs wd4 a4)) := Lib.hid (by
    by_cases h : wd4 = itoaB (-1)
    · rw [if_pos h] at ha4; exact Or.inl ⟨h, ha4.symm⟩
    · rw [if_neg h] at ha4; rw [← ha4]; exact Or.inr ⟨h, HN3.out⟩)
  have HI1 : Hid (itoaB (-1) = ⟨#[45, 49]⟩) := Lib.hid (by
    apply ba_eq
    rw [itoaB_data]
    exact (Lib.itoa_neg 1 (by omega)).trans (by rw [Lib.decDigits_one (by omega)]; rfl))
  go_upto_if 57 with fail
  go_cut [] (fun wx => Hid (Blk wx db 59 #[.int .i64 a0, .int .i64 a1, .int .i64 a2, .int .i64 a4, .slice none 0 0]) ∧ Hid (Kept (fun i => i = db) w3 wx))
  case first =>
    have h45 : ([45, 49] : List UInt8) = (itoaB (-1)).toList := by rw [HI1.out, Lib.toList_data]
    have HXT : Hid ((wd4.toList == [45, 49]) = true → Blk (w3.setCell ⟨db, 3, none⟩ (.int .i64 (-1))) db 59 #[.int .i64 a0, .int .i64 a1, .int .i64 a2, .int .i64 a4, .slice none 0 0] ∧ Kept (fun i => i = db) w3 (w3.setCell ⟨db, 3, none⟩ (.int .i64 (-1)))) := Lib.hid (fun hq => by
      rw [h45] at hq
      have h := (beq_list _ _).1 hq
      obtain rfl : a4 = -1 := by rw [← ha4, if_pos h]
      exact ⟨HK3.out.set_ 3 _, (Kept.refl (fun i => i = db) w3).setCell (p := ⟨db, 3, none⟩) (Or.inl rfl) _⟩)
    have HXF : Hid ((wd4.toList == [45, 49]) = false → Blk w3 db 59 #[.int .i64 a0, .int .i64 a1, .int .i64 a2, .int .i64 a4, .slice none 0 0] ∧ Kept (fun i => i = db) w3 w3) := Lib.hid (fun hq => by
      have h : wd4 ≠ itoaB (-1) := fun h => by
        rw [h45, h] at hq
        simp at hq
      obtain rfl : a4 = a3 := by rw [← ha4, if_neg h]
      exact ⟨HK3.out, Kept.refl (fun i => i = db) w3⟩)
    clear h45 ha4
    go_wp2_with fail
    all_goals
      rename_i hq
      go_meet
      first
        | exact ⟨Lib.hid (HXT.out hq).1, Lib.hid (HXT.out hq).2⟩
        | exact ⟨Lib.hid (HXF.out hq).1, Lib.hid (HXF.out hq).2⟩
  case rest =>
  obtain ⟨HK4, HY4⟩ := hcut
  obtain ⟨w4, rfl⟩ : ∃ w4 : World, w4 = wc := ⟨_, rfl⟩
  have HS4 : Hid (w3.heap.size ≤ w4.heap.size) := Lib.hid HY4.out.size
  have HB14 : Hid (Below w1.heap.size w1 w4) := Lib.hid (by
    have h1 : w1.heap.size ≤ w2.heap.size := HB2.out.size
    have h2 : Below w1.heap.size w3 w4 := HY4.out.toBelow (fun i hi => by have := HDB.out; omega) (by have := HZ3.out; omega)
    exact HB2.out.trans ((HB3.out.mono h1).trans h2))
  have HBW4 : Hid (Below w.heap.size w w4) := Lib.hid (HB1.out.trans (HB14.out.mono HB1.out.size))
  have HG4 : Hid (g1 < w4.heap.size ∧ g1 ≠ db ∧ w.heap.size ≤ db ∧ db < w4.heap.size) := Lib.hid (by
    have := HG1.out; have := HB2.out.size; have := HDB.out; have := HB14.out.size; have := HB1.out.size; have := HK4.out.lt
    omega)
  have HL4 : Hid (∀ V, Kept (fun i => i = db) w4 V → ∀ j x, (cutB 10 b)[j]? = some x → V.cell? ⟨g1, o1 + j, none⟩ = some (.string x)) := Lib.hid (fun V hV j x hx => (World.cell?_of_block (hV.block g1 HG4.out.1 HG4.out.2.1)).trans (HL1.out w4 HB14.out j x hx))
  have HBAD : Hid ((a0 < 0 ∨ a1 < 0 ∨ a2 < 0 ∨ a4 < -1) → ∀ c l, ¬ CodeOf b c l) := Lib.hid (fun hf => no_nums HH0.out HWC.out HN0.out HN1.out HN2.out HM4.out hf)
  have k0 : w4.cell? ⟨db, 0, none⟩ = some (.int .i64 a0) := HK4.out.cell 0
  have k1 : w4.cell? ⟨db, 1, none⟩ = some (.int .i64 a1) := HK4.out.cell 1
  have k2 : w4.cell? ⟨db, 2, none⟩ = some (.int .i64 a2) := HK4.out.cell 2
  have k3 : w4.cell? ⟨db, 3, none⟩ = some (.int .i64 a4) := HK4.out.cell 3
  have hn1 : 1 ≤ n := by omega
  clear e3 e4 e5 f5 ha4 HI1 HK3 HB3 HZ3 HY4 HS4 HL1 HC5 hn2 q0
  by_cases h0' : a0 < 0
  · have q0' : decide (a0 < 0) = true := decide_eq_true h0'
    have HNO := Lib.hid (HBAD.out (Or.inl h0'))
    clear HBAD h0'
    go_wp2_with fail
    go_ret
    exact ⟨HBW4.out, Or.inr ⟨rfl, HNO.out⟩⟩
  have q0 : decide (a0 < 0) = false := decide_eq_false h0'
  by_cases h1' : a1 < 0
  · have q1' : decide (a1 < 0) = true := decide_eq_true h1'
    have HNO := Lib.hid (HBAD.out (Or.inr (Or.inl h1')))
    clear HBAD h1'
    go_wp2_with fail
    go_ret
    exact ⟨HBW4.out, Or.inr ⟨rfl, HNO.out⟩⟩
  have q1 : decide (a1 < 0) = false := decide_eq_false h1'
  by_cases h2' : a2 < 0
  · have q2' : decide (a2 < 0) = true := decide_eq_true h2'
    have HNO := Lib.hid (HBAD.out (Or.inr (Or.inr (Or.inl h2'))))
    clear HBAD h2'
    go_wp2_with fail
    go_ret
    exact ⟨HBW4.out, Or.inr ⟨rfl, HNO.out⟩⟩
  have q2 : decide (a2 < 0) = false := decide_eq_false h2'
  by_cases h3' : a4 < -1
  · have q3' : decide (a4 < -1) = true := decide_eq_true h3'
    have HNO := Lib.hid (HBAD.out (Or.inr (Or.inr (Or.inr h3'))))
    clear HBAD h3'
    go_wp2_with fail
    go_ret
    exact ⟨HBW4.out, Or.inr ⟨rfl, HNO.out⟩⟩
  have q3 : decide (a4 < -1) = false := decide_eq_false h3'
  have HD0 : Hid (DocTo b ⟨a0, a1, a2, a4, fun _ => none⟩ []) := Lib.hid (by
    obtain ⟨r, hr⟩ : ∃ r, cutB 10 b = h0 :: r := by
      have := HH0.out
      cases hc : cutB 10 b with
      | nil => rw [hc] at this; cases this
      | cons x r => rw [hc] at this; cases this; exact ⟨r, rfl⟩
    refine DocTo.head hr HWC.out HN0.out HN1.out HN2.out (by omega) (by omega) (by omega) ?_
    rcases HM4.out with h | ⟨_, h⟩
    · exact Or.inl h
    · refine Or.inr ⟨h, ?_⟩
      rcases h with ⟨e, _⟩ | ⟨u, e, _⟩ <;> omega)
  clear HBAD h0' h1' h2' h3'
  obtain ⟨c, hc⟩ : ∃ c : Ck, (⟨a0, a1, a2, a4, fun _ => none⟩ : Ck) = c := ⟨_, rfl⟩
  have HR0 : Hid (RState b db w4.heap.size c w4 [] 0 0 none w4) := Lib.hid ⟨by rw [← hc]; exact HK4.out, ⟨by simp, Or.inl ⟨rfl, rfl⟩⟩, rfl, by rw [← hc]; exact HD0.out, Kept.refl _ _⟩
  clear hc HD0 HK4 HN0 HN1 HN2 HN3 HM4 HWC HWD HH0
  go_wp2_with fail
  clear k0 k1 k2 k3 q0 q1 q2 q3
  go_loopw [6] (fun i wr => ∃ (l : List Sc) (m k cc : Nat) (A : Option Addr), i = .int .i64 k ∧ Hid (k = m + 1) ∧ k ≤ n ∧ Hid (RState b db w4.heap.size c w4 l m cc A wr)) (fun i _ => n - (intOf i).toNat)
  case atStart => exact ⟨[], 0, 1, 0, none, rfl, Lib.hid rfl, by omega, HR0⟩
  case round =>
    clear HR0
    obtain ⟨l, m, k, cc, A, rfl, hkm, hkn, hst⟩ := hrel
    have hkw : IntKind.i64.wrap ((k : Int) + 1) = (k : Int) + 1 := by rw [IntKind.wrap_i64]; omega
    have hk9 : (0 : Int) ≤ (k : Int) := by omega
    by_cases hlt : k < n
    · obtain ⟨h, hh⟩ : ∃ x, (cutB 10 b)[k]? = some x := ⟨_, List.getElem?_eq_getElem (by rw [HN.out]; omega)⟩
      have HHH : Hid ((cutB 10 b)[l.length + 1]? = some h) := Lib.hid (by rw [hst.out.len, ← hkm.out]; exact hh)
      have e2 := HL4.out wr hst.out.kept k h hh
      have hz : h.size ≤ 9000 := by have := HCW.out h (List.mem_of_getElem? hh); omega
      have HLL : Hid (l.length + 2 < n + 1) := Lib.hid (by rw [hst.out.len]; have := hkm.out; omega)
      have hk8 : (k : Int) + 1 < (n : Int) + 1 := by omega
      have hk7 : (k : Int) < (n : Int) + 1 := by omega
      have HBR : Hid (Below w.heap.size w wr) := Lib.hid (HBW4.out.trans (hst.out.kept.toBelow (fun i hi => by have := HG4.out; omega) HBW4.out.size))
      clear hh
      go_wp2_with fail
      refine (rcut_any h 32 wr (by omega)).mono ?_
      rintro e w5 ⟨A5, c5, rfl, ho5, hb5⟩
      obtain ⟨mm, hm⟩ : ∃ mm, (cutB 32 h).length = mm := ⟨_, rfl⟩
      have hm1 : 1 ≤ mm := by have := cutB_pos 32 h; omega
      rw [hm] at ho5 ⊢
      have HM := Lib.hid hm
      obtain ⟨g5, o5, rfl, hg5, hc5⟩ := (RowIn.of_own ho5).at (by omega)
      have HBW5 : Hid (Below w.heap.size w w5) := Lib.hid (HBR.out.trans (hb5.mono HBR.out.size))
      have HB5 : Hid (Below wr.heap.size wr w5) := Lib.hid hb5
      have HL5 : Hid (∀ V, Below w5.heap.size w5 V → ∀ j x, (cutB 32 h)[j]? = some x → V.cell? ⟨g5, o5 + j, none⟩ = some (.string x)) := Lib.hid (fun V hV j x hx => (hV.cell (p := ⟨g5, o5 + j, none⟩) hg5).trans (hc5 j (.string x) (by rw [List.getElem?_map, hx]; rfl)))
      have HCW5 := Lib.hid (cutB_word 32 h)
      clear ho5 hb5 hm hg5 hc5 e2
      by_cases hm3 : mm = 3
      rotate_left
      · have HNO : Hid (∀ c l, ¬ CodeOf b c l) := Lib.hid (no_row hst.out.to_ HN.out HLL.out HHH.out HM.out (Or.inl hm3))
        have q1 : ¬ (mm : Int) = 3 := by omega
        clear hm3
        go_wp2_with fail
        go_ret
        exact ⟨HBW5.out, Or.inr ⟨rfl, HNO.out⟩⟩
      subst hm3
      obtain ⟨nm, wa, wb, hwd⟩ : ∃ a b' c, cutB 32 h = [a, b', c] := by
        have := HM.out
        match cutB 32 h, this with
        | [a, b', c], _ => exact ⟨a, b', c, rfl⟩
      have HWD := Lib.hid hwd
      have HC5 : Hid (∀ V, Below w5.heap.size w5 V → V.cell? ⟨g5, o5, none⟩ = some (.string nm) ∧ V.cell? ⟨g5, o5 + 1, none⟩ = some (.string wa) ∧ V.cell? ⟨g5, o5 + 2, none⟩ = some (.string wb)) := Lib.hid (fun V hV => ⟨HL5.out V hV 0 nm (by rw [hwd]; rfl), HL5.out V hV 1 wa (by rw [hwd]; rfl), HL5.out V hV 2 wb (by rw [hwd]; rfl)⟩)
      have hz1 : nm.size ≤ 9000 ∧ wa.size ≤ 9000 ∧ wb.size ≤ 9000 := by
        have h1 := HCW5.out nm (by rw [hwd]; simp)
        have h2 := HCW5.out wa (by rw [hwd]; simp)
        have h3 := HCW5.out wb (by rw [hwd]; simp)
        omega
      obtain ⟨hz1, hz2, hz3⟩ := hz1
      clear hwd HL5 HCW5
      obtain ⟨e3, _, _⟩ := HC5.out w5 (Below.refl _ _)
      go_wp2_with fail
      refine (rname_any nm w5 (by unfold maxLen; omega)).mono ?_
      rintro e _ ⟨rfl, rfl⟩
      cases hnm : nameB nm
      · have HNO : Hid (∀ c l, ¬ CodeOf b c l) := Lib.hid (no_row hst.out.to_ HN.out HLL.out HHH.out HM.out (Or.inr (fun x hx => by rw [HWD.out] at hx; cases hx; exact hnm)))
        go_wp2_with fail
        go_ret
        exact ⟨HBW5.out, Or.inr ⟨rfl, HNO.out⟩⟩
      have HNM := Lib.hid hnm
      clear hnm
      have HS5 : Hid (Below w5.heap.size w5 w5.drew) := Lib.hid (Go.Proofs.YtobkgkiomapabaaGreatDoor.below_drew (Below.refl _ _))
      have HX6 : Hid (∀ o, Below w5.heap.size w5 (w5.alloc o).drew) := Lib.hid (fun o => Go.Proofs.YtobkgkiomapabaaGreatDoor.below_drew ((Below.refl _ _).alloc (Nat.le_refl _) o))
      have HFX : Hid (∀ x1 x2 : Int, Blk (w5.alloc (.cells #[.string nm, .int .i64 x1, .int .i64 x2] 61)).drew w5.heap.size 61 #[.string nm, .int .i64 x1, .int .i64 x2] ∧ Below w5.heap.size w5 (w5.alloc (.cells #[.string nm, .int .i64 x1, .int .i64 x2] 61)).drew ∧ (w5.alloc (.cells #[.string nm, .int .i64 x1, .int .i64 x2] 61)).drew.heap.size = w5.heap.size + 1) := Lib.hid (fun x1 x2 => ⟨(Blk.new _ _ _).drew, HX6.out _, by show (w5.alloc _).heap.size = _; simp⟩)
      go_upto_region 18 with fail
      go_cut [8] (fun v8 wx => ∃ x1 x2 : Int, v8 = .pointer (some ⟨w5.heap.size, 0, none⟩) ∧ Hid (NumIs wa x1 ∧ NumIs wb x2 ∧ Blk wx w5.heap.size 61 #[.string nm, .int .i64 x1, .int .i64 x2] ∧ Below w5.heap.size w5 wx ∧ wx.heap.size = w5.heap.size + 1))
      case first =>
        refine wp_planT (fun V => Below w5.heap.size w5 V) (.take 0 (.take 1 (.take 2 (.take 3 (.take 4 (.take 5 (.take 7 (.take 8 (.take 9 (.fork 6 (.fork 10 (.take 11 (.turn 12 (.turn 13 .done))) 12 (.turn 10 (.take 11 (.turn 13 .done)))) 12 (.turn 6 (.turn 10 (.take 11 (.turn 13 .done)))))))))))))) (by kernel_rfl) (by kernel_rfl) HS5.out ?_
        simp only [planTL, List.getElem?_cons_zero, List.getElem?_cons_succ]
        repeat (first | (refine planT_on _ (by rfl) (fun W hW => by (obtain ⟨y0, y1, y2⟩ := HC5.out W hW; go_simp; try (first | with_reducible rfl | rw [if_neg (by omega)] | rw [if_pos (by omega)]))) ?_; simp only [Act.put, List.setIfInBounds_toArray, List.set_cons_zero, List.set_cons_succ]) | (refine planT_off (by rfl) ?_; simp only [Act.put, List.setIfInBounds_toArray, List.set_cons_zero, List.set_cons_succ]))
        refine planT_fork ?_ ?_
        case refine_1 =>
          go_wp2_with fail
          refine (rnum_any wa _ (by omega)).mono ?_
          rintro e _ ⟨x1, rfl, hn0, rfl⟩
          have HN1 := Lib.hid hn0
          clear hn0
          go_wp2_with fail
          refine ⟨HS5.out, ?_⟩
          refine planT_fork ?_ ?_
          case refine_1 =>
            go_wp2_with fail
            refine (rnum_any wb _ (by omega)).mono ?_
            rintro e _ ⟨x2, rfl, hn0, rfl⟩
            have HN2 := Lib.hid hn0
            clear hn0
            go_wp2_with fail
            refine ⟨HS5.out, ?_⟩
            repeat (refine planT_on _ (by rfl) (fun W hW => by (go_simp; try with_reducible rfl)) ?_; simp only [Act.put, List.setIfInBounds_toArray, List.set_cons_zero, List.set_cons_succ])
            refine planT_turn ?_
            go_wp2_with fail
            refine ⟨HX6.out _, ?_⟩
            refine planT_turn ?_
            go_wp2_with fail
            refine ⟨HX6.out _, ?_⟩
            refine planT_done ?_
            go_wp2_with fail
            go_meet
            exact ⟨x1, x2, rfl, Lib.hid ⟨HN1.out, HN2.out, HFX.out x1 x2⟩⟩
          case refine_2 =>
            go_wp2_with fail
            refine ⟨HX6.out _, ?_⟩
            refine planT_turn ?_
            go_wp2_with fail
            refine (rnum_any wb _ (by omega)).mono ?_
            rintro e _ ⟨x2, rfl, hn0, rfl⟩
            have HN2 := Lib.hid hn0
            clear hn0
            go_wp2_with fail
            refine ⟨HX6.out _, ?_⟩
            repeat (refine planT_on _ (by rfl) (fun W hW => by (go_simp; try with_reducible rfl)) ?_; simp only [Act.put, List.setIfInBounds_toArray, List.set_cons_zero, List.set_cons_succ])
            refine planT_turn ?_
            go_wp2_with fail
            refine ⟨HX6.out _, ?_⟩
            refine planT_done ?_
            go_wp2_with fail
            go_meet
            exact ⟨x1, x2, rfl, Lib.hid ⟨HN1.out, HN2.out, HFX.out x1 x2⟩⟩
        case refine_2 =>
          go_wp2_with fail
          refine ⟨HX6.out _, ?_⟩
          refine planT_turn ?_
          go_wp2_with fail
          refine (rnum_any wa _ (by omega)).mono ?_
          rintro e _ ⟨x1, rfl, hn0, rfl⟩
          have HN1 := Lib.hid hn0
          clear hn0
          go_wp2_with fail
          refine ⟨HX6.out _, ?_⟩
          refine planT_turn ?_
          go_wp2_with fail
          refine (rnum_any wb _ (by omega)).mono ?_
          rintro e _ ⟨x2, rfl, hn0, rfl⟩
          have HN2 := Lib.hid hn0
          clear hn0
          go_wp2_with fail
          refine ⟨HX6.out _, ?_⟩
          repeat (refine planT_on _ (by rfl) (fun W hW => by (go_simp; try with_reducible rfl)) ?_; simp only [Act.put, List.setIfInBounds_toArray, List.set_cons_zero, List.set_cons_succ])
          refine planT_turn ?_
          go_wp2_with fail
          refine ⟨HX6.out _, ?_⟩
          refine planT_done ?_
          go_wp2_with fail
          go_meet
          exact ⟨x1, x2, rfl, Lib.hid ⟨HN1.out, HN2.out, HFX.out x1 x2⟩⟩
      case rest =>
      obtain ⟨x1, x2, rfl, hX⟩ := hcut
      obtain ⟨w6, rfl⟩ : ∃ w6 : World, w6 = wc := ⟨_, rfl⟩
      have HN1 : Hid (NumIs wa x1) := Lib.hid hX.out.1
      have HN2 : Hid (NumIs wb x2) := Lib.hid hX.out.2.1
      have HXB : Hid (Blk w6 w5.heap.size 61 #[.string nm, .int .i64 x1, .int .i64 x2]) := Lib.hid hX.out.2.2.1
      have HB56 : Hid (Below w5.heap.size w5 w6) := Lib.hid hX.out.2.2.2.1
      have HZ6 : Hid (w6.heap.size = w5.heap.size + 1) := Lib.hid hX.out.2.2.2.2
      have HBR6 : Hid (Below wr.heap.size wr w6) := Lib.hid (HB5.out.trans (HB56.out.mono HB5.out.size))
      have HO6 : Hid (w6.ownsRow w4.heap.size 61 3 (.slice A m cc) m (l.flatMap scC)) := Lib.hid (own_below hst.out.own HBR6.out)
      have HD6 : Hid (Blk w6 db 59 #[.int .i64 c.slack, .int .i64 c.idle, .int .i64 c.now, .int .i64 c.mark, .slice A m cc]) := Lib.hid ((HBR6.out.block db hst.out.blk.lt).trans hst.out.blk)
      have HBW6 : Hid (Below w.heap.size w w6) := Lib.hid (HBR.out.trans (HBR6.out.mono HBR.out.size))
      have HK6 : Hid (Kept (fun i => i = db) w4 w6) := Lib.hid (hst.out.kept.below HBR6.out hst.out.kept.size)
      have HBS : Hid (wr.heap.size ≤ w5.heap.size ∧ db < w4.heap.size ∧ w4.heap.size ≤ wr.heap.size ∧ m ≤ 9000) := Lib.hid ⟨HB5.out.size, HG4.out.2.2.2, hst.out.kept.size, by have := hkm.out; omega⟩
      obtain ⟨xb, hxb⟩ : ∃ xb, w5.heap.size = xb := ⟨_, rfl⟩
      rw [hxb] at HXB HZ6 HBS ⊢
      clear hX hxb HC5 HB56
      obtain ⟨bad, hbad⟩ : ∃ bad : Bool, (bad = true ↔ (x1 < 0 ∨ x2 < 0 ∨ c.now < x2 ∨ ∃ y, l.getLast? = some y ∧ ¬ ltN y.1 nm)) := ⟨@decide _ (Classical.propDecidable _), @decide_eq_true_iff _ (Classical.propDecidable _)⟩
      have HBAD := Lib.hid hbad
      have HSC : Hid (∀ V, Below w6.heap.size w6 V → V.cell? ⟨xb, 0, none⟩ = some (.string nm) ∧ V.cell? ⟨xb, 1, none⟩ = some (.int .i64 x1) ∧ V.cell? ⟨xb, 2, none⟩ = some (.int .i64 x2) ∧ V.cell? ⟨db, 2, none⟩ = some (.int .i64 c.now) ∧ V.cell? ⟨db, 4, none⟩ = some (.slice A m cc)) := Lib.hid (fun V hV => by
        have k1 : Blk V xb 61 #[.string nm, .int .i64 x1, .int .i64 x2] := (hV.block _ HXB.out.lt).trans HXB.out
        have k2 : Blk V db 59 #[.int .i64 c.slack, .int .i64 c.idle, .int .i64 c.now, .int .i64 c.mark, .slice A m cc] := (hV.block _ HD6.out.lt).trans HD6.out
        exact ⟨k1.cell 0, k1.cell 1, k1.cell 2, k2.cell 2, k2.cell 4⟩)
      have HLAST : Hid (∀ q, m = q + 1 → ∃ g y, A = some ⟨g, 0, none⟩ ∧ l.getLast? = some y ∧ ∀ V, Below w6.heap.size w6 V → V.cell? ⟨g, q * 3, none⟩ = some (.string y.1)) := Lib.hid (fun q hq => by
        obtain ⟨g, cap, hv, hgb, hgl⟩ := HO6.out.form (by omega)
        injection hv with hA _ hC
        have hlen := hst.out.len
        obtain ⟨y, hy⟩ : ∃ y, l[q]? = some y := ⟨_, List.getElem?_eq_getElem (by omega)⟩
        refine ⟨g, y, hA, by rw [List.getLast?_eq_getElem?, hlen, hq]; exact hy, fun V hV => ?_⟩
        rw [hV.cell (p := ⟨g, q * 3, none⟩) hgl]
        have ho := HO6.out
        rw [hA] at ho
        have := ho.cells (g := g) rfl (q * 3) (.string y.1) (by have := flat_get scC 3 scC_len l q 0 y hy (by omega); rw [Nat.add_zero] at this; rw [this]; rfl)
        rw [at_add, Nat.zero_add] at this
        exact this)
      go_upto_region 19 with fail
      go_cut [163] (fun v wx => v = .bool bad ∧ Hid (Below w6.heap.size w6 wx))
      case first =>
        have HS6 : Hid (Below w6.heap.size w6 w6.drew) := Lib.hid (Go.Proofs.YtobkgkiomapabaaGreatDoor.below_drew (Below.refl _ _))
        have hm9 := HBS.out.2.2.2
        refine wp_plan (fun V => Below w6.heap.size w6 V) [(0, false), (1, false), (2, false), (3, false), (4, false), (5, false), (6, false), (7, false), (8, false), (9, false), (10, false), (11, false), (12, false), (13, false), (14, false), (15, false), (16, false), (17, false), (18, false), (19, false), (20, false), (21, false), (22, false), (23, false), (24, false), (25, false), (26, false), (27, false), (28, false), (29, false), (30, false), (31, false), (32, false), (33, false), (34, false), (35, false), (36, false), (37, false), (38, false), (39, false), (40, false), (41, false), (42, false)] (by kernel_rfl) (by kernel_rfl) HS6.out ?_
        simp only [planL, List.getElem?_cons_zero, List.getElem?_cons_succ]
        by_cases b1 : x1 < 0
        · have q1 : decide (x1 < 0) = true := decide_eq_true b1
          obtain rfl : bad = true := hbad.2 (Or.inl b1)
          repeat (first | (refine plan_on _ (by rfl) (fun W hW => by (obtain ⟨y0, y1, y2, y3, y4⟩ := HSC.out W hW; go_simp; try (first | with_reducible rfl | rw [if_neg (by omega)] | rw [if_pos (by omega)]))) ?_; simp only [Act.put, List.setIfInBounds_toArray, List.set_cons_zero, List.set_cons_succ]) | (refine plan_off (by rfl) ?_; simp only [Act.put, List.setIfInBounds_toArray, List.set_cons_zero, List.set_cons_succ]))
          refine plan_done ?_
          go_wp2_with fail
          go_meet
          exact ⟨rfl, HS6.out⟩
        have q1 : decide (x1 < 0) = false := decide_eq_false b1
        by_cases b2 : x2 < 0
        · have q2 : decide (x2 < 0) = true := decide_eq_true b2
          obtain rfl : bad = true := hbad.2 (Or.inr (Or.inl b2))
          repeat (first | (refine plan_on _ (by rfl) (fun W hW => by (obtain ⟨y0, y1, y2, y3, y4⟩ := HSC.out W hW; go_simp; try (first | with_reducible rfl | rw [if_neg (by omega)] | rw [if_pos (by omega)]))) ?_; simp only [Act.put, List.setIfInBounds_toArray, List.set_cons_zero, List.set_cons_succ]) | (refine plan_off (by rfl) ?_; simp only [Act.put, List.setIfInBounds_toArray, List.set_cons_zero, List.set_cons_succ]))
          refine plan_done ?_
          go_wp2_with fail
          go_meet
          exact ⟨rfl, HS6.out⟩
        have q2 : decide (x2 < 0) = false := decide_eq_false b2
        by_cases b3 : c.now < x2
        · have q3 : decide (c.now < x2) = true := decide_eq_true b3
          obtain rfl : bad = true := hbad.2 (Or.inr (Or.inr (Or.inl b3)))
          repeat (first | (refine plan_on _ (by rfl) (fun W hW => by (obtain ⟨y0, y1, y2, y3, y4⟩ := HSC.out W hW; go_simp; try (first | with_reducible rfl | rw [if_neg (by omega)] | rw [if_pos (by omega)]))) ?_; simp only [Act.put, List.setIfInBounds_toArray, List.set_cons_zero, List.set_cons_succ]) | (refine plan_off (by rfl) ?_; simp only [Act.put, List.setIfInBounds_toArray, List.set_cons_zero, List.set_cons_succ]))
          refine plan_done ?_
          go_wp2_with fail
          go_meet
          exact ⟨rfl, HS6.out⟩
        have q3 : decide (c.now < x2) = false := decide_eq_false b3
        rcases Nat.eq_zero_or_pos m with rfl | hm0
        · have hl0 : l = [] := List.length_eq_zero_iff.1 hst.out.len
          obtain rfl : bad = false := by
            rw [Bool.eq_false_iff]
            intro h
            rcases hbad.1 h with h | h | h | ⟨y, hy, _⟩
            · exact b1 h
            · exact b2 h
            · exact b3 h
            · rw [hl0] at hy; cases hy
          repeat (first | (refine plan_on _ (by rfl) (fun W hW => by (obtain ⟨y0, y1, y2, y3, y4⟩ := HSC.out W hW; go_simp; try (first | with_reducible rfl | rw [if_neg (by omega)] | rw [if_pos (by omega)]))) ?_; simp only [Act.put, List.setIfInBounds_toArray, List.set_cons_zero, List.set_cons_succ]) | (refine plan_off (by rfl) ?_; simp only [Act.put, List.setIfInBounds_toArray, List.set_cons_zero, List.set_cons_succ]))
          refine plan_done ?_
          go_wp2_with fail
          go_meet
          exact ⟨rfl, HS6.out⟩
        obtain ⟨q, rfl⟩ : ∃ q, m = q + 1 := ⟨m - 1, by omega⟩
        obtain ⟨g, y, rfl, hy, hyc⟩ := HLAST.out q rfl
        have HYC := Lib.hid hyc
        have hqw : IntKind.i64.wrap (q : Int) = (q : Int) := by rw [IntKind.wrap_i64]; omega
        have hqp : (0 : Int) < (q : Int) + 1 := by omega
        by_cases b4 : ltN y.1 nm
        · have q4 : Op.bytesLess y.1.toList nm.toList = true := (less_iff _ _).2 b4
          obtain rfl : bad = false := by
            rw [Bool.eq_false_iff]
            intro h
            rcases hbad.1 h with h | h | h | ⟨y2, hy2, h⟩
            · exact b1 h
            · exact b2 h
            · exact b3 h
            · rw [hy] at hy2; cases hy2; exact h b4
          repeat (first | (refine plan_on _ (by rfl) (fun W hW => by (obtain ⟨y0, y1, y2, y3, y4⟩ := HSC.out W hW; have y5 := HYC.out W hW; go_simp; try (first | with_reducible rfl | rw [if_neg (by omega)] | rw [if_pos (by omega)]))) ?_; simp only [Act.put, List.setIfInBounds_toArray, List.set_cons_zero, List.set_cons_succ]) | (refine plan_off (by rfl) ?_; simp only [Act.put, List.setIfInBounds_toArray, List.set_cons_zero, List.set_cons_succ]))
          refine plan_done ?_
          go_wp2_with fail
          go_meet
          exact ⟨rfl, HS6.out⟩
        · have q4 : Op.bytesLess y.1.toList nm.toList = false := Bool.eq_false_iff.2 (fun h => b4 ((less_iff _ _).1 h))
          obtain rfl : bad = true := hbad.2 (Or.inr (Or.inr (Or.inr ⟨y, hy, b4⟩)))
          repeat (first | (refine plan_on _ (by rfl) (fun W hW => by (obtain ⟨y0, y1, y2, y3, y4⟩ := HSC.out W hW; have y5 := HYC.out W hW; go_simp; try (first | with_reducible rfl | rw [if_neg (by omega)] | rw [if_pos (by omega)]))) ?_; simp only [Act.put, List.setIfInBounds_toArray, List.set_cons_zero, List.set_cons_succ]) | (refine plan_off (by rfl) ?_; simp only [Act.put, List.setIfInBounds_toArray, List.set_cons_zero, List.set_cons_succ]))
          refine plan_done ?_
          go_wp2_with fail
          go_meet
          exact ⟨rfl, HS6.out⟩
      case rest =>
      obtain ⟨rfl, HB67⟩ := hcut
      obtain ⟨w7, rfl⟩ : ∃ w7 : World, w7 = wc := ⟨_, rfl⟩
      have HBW7 : Hid (Below w.heap.size w w7) := Lib.hid (HBW6.out.trans (HB67.out.mono HBW6.out.size))
      cases bad
      rotate_left
      · have HNO : Hid (∀ c l, ¬ CodeOf b c l) := Lib.hid (no_line hst.out.to_ HN.out HLL.out HHH.out HWD.out HN1.out HN2.out (HBAD.out.1 rfl))
        go_wp2_with fail
        go_ret
        exact ⟨HBW7.out, Or.inr ⟨rfl, HNO.out⟩⟩
      have HMORE : Hid (DocTo b c (l ++ [(nm, x1, x2)])) := Lib.hid (by
        have hb1 : ¬ (x1 < 0 ∨ x2 < 0 ∨ c.now < x2 ∨ ∃ y, l.getLast? = some y ∧ ¬ ltN y.1 nm) := fun h => by have := HBAD.out.2 h; cases this
        refine hst.out.to_.more HHH.out HWD.out HNM.out HN1.out HN2.out (by omega) (by omega) (by omega) ?_
        cases hg : l.getLast? with
        | none => exact Or.inl (List.getLast?_eq_none_iff.1 hg)
        | some y => exact Or.inr ⟨y, rfl, Classical.not_not.1 (fun h => hb1 (Or.inr (Or.inr (Or.inr ⟨y, hg, h⟩))))⟩)
      have HXB7 : Hid (Blk w7 xb 61 #[.string nm, .int .i64 x1, .int .i64 x2]) := Lib.hid ((HB67.out.block _ HXB.out.lt).trans HXB.out)
      have HD7 : Hid (Blk w7 db 59 #[.int .i64 c.slack, .int .i64 c.idle, .int .i64 c.now, .int .i64 c.mark, .slice A m cc]) := Lib.hid ((HB67.out.block _ HD6.out.lt).trans HD6.out)
      have HO7 : Hid (w7.ownsRow w4.heap.size 61 3 (.slice A m cc) m (l.flatMap scC)) := Lib.hid (own_below HO6.out HB67.out)
      have HK7 : Hid (Kept (fun i => i = db) w4 w7) := Lib.hid (HK6.out.below HB67.out HK6.out.size)
      have HOL : Hid (∀ j, (Value.slice A m cc).ownBlock = some j → w4.heap.size ≤ j ∧ j < xb ∧ j ≠ db) := Lib.hid (fun j hj => by
        have h1 := hst.out.own.lt j hj
        have h2 := HBS.out
        omega)
      have HCELL : Hid (∀ V : World, V.heap[xb]? = w7.heap[xb]? → V.heap[db]? = w7.heap[db]? → V.cell? ⟨xb, 0, none⟩ = some (.string nm) ∧ V.cell? ⟨xb, 1, none⟩ = some (.int .i64 x1) ∧ V.cell? ⟨xb, 2, none⟩ = some (.int .i64 x2) ∧ V.cell? ⟨db, 4, none⟩ = some (.slice A m cc)) := Lib.hid (fun V h1 h2 => by
        have k1 : Blk V xb 61 #[.string nm, .int .i64 x1, .int .i64 x2] := h1.trans HXB7.out
        have k2 : Blk V db 59 #[.int .i64 c.slack, .int .i64 c.idle, .int .i64 c.now, .int .i64 c.mark, .slice A m cc] := h2.trans HD7.out
        exact ⟨k1.cell 0, k1.cell 1, k1.cell 2, k2.cell 4⟩)
      have HLT7 : Hid (xb < w7.heap.size ∧ db < w7.heap.size ∧ w4.heap.size ≤ w7.heap.size) := Lib.hid ⟨HXB7.out.lt, HD7.out.lt, HK7.out.size⟩
      have hm9 := HBS.out.2.2.2
      clear HSC HLAST hbad HBAD HXB HD6 HO6 HK6 HB67 HN1 HN2
      go_wp2_with fail
      refine wp_planN (fun V => V.cell? ⟨xb, 0, none⟩ = some (.string nm) ∧ V.cell? ⟨xb, 1, none⟩ = some (.int .i64 x1) ∧ V.cell? ⟨xb, 2, none⟩ = some (.int .i64 x2) ∧ V.cell? ⟨db, 4, none⟩ = some (.slice A m cc)) [(0, 1), (1, 1), (2, 1), (3, 1), (4, 1), (5, 1), (6, 2), (7, 2), (8, 1), (9, 1), (10, 3)] (by kernel_rfl) (by kernel_rfl) (HCELL.out _ rfl rfl) ?_
      simp only [planNL, List.getElem?_cons_zero, List.getElem?_cons_succ]
      repeat (first | (refine planN_on _ (by rfl) (fun W hW => by (obtain ⟨y0, y1, y2, y3⟩ := hW; go_simp; try (first | with_reducible rfl | rw [if_neg (by omega)] | rw [if_pos (by omega)]))) ?_; simp only [Act.put, List.setIfInBounds_toArray, List.set_cons_zero, List.set_cons_succ]) | (refine planN_off (by rfl) ?_; simp only [Act.put, List.setIfInBounds_toArray, List.set_cons_zero, List.set_cons_succ]))
      refine planN_turn ?_
      obtain ⟨w8, hw8⟩ : ∃ w8, (w7.alloc (.cells #[.string nm, .int .i64 x1, .int .i64 x2] 61)).drew = w8 := ⟨_, rfl⟩
      have HB8 : Hid (Below w7.heap.size w7 w8) := Lib.hid (by rw [← hw8]; exact Go.Proofs.YtobkgkiomapabaaGreatDoor.below_drew ((Below.refl _ _).alloc (Nat.le_refl _) _))
      have HR8 : Hid (RowIn w8 (w7.heap.size + 1) 3 (some ⟨w7.heap.size, 0, none⟩) 1 (scC (nm, x1, x2))) := Lib.hid (by rw [← hw8]; exact one_sc w7 (nm, x1, x2) _)
      have HO8 : Hid (w8.ownsRow w4.heap.size 61 3 (.slice A m cc) m (l.flatMap scC)) := Lib.hid (own_below HO7.out HB8.out)
      have HZ8 : Hid (w8.heap.size = w7.heap.size + 1) := Lib.hid (by rw [← hw8]; show (w7.alloc _).heap.size = _; simp)
      have HS8 := Lib.hid (HCELL.out w8 (HB8.out.block _ HLT7.out.1) (HB8.out.block _ HLT7.out.2.1))
      have HK8 : Hid (Kept (fun i => i = db) w4 w8) := Lib.hid (HK7.out.below HB8.out HK7.out.size)
      have HONE : Hid (∀ u ∈ scC (nm, x1, x2), u.oneCell' = true) := Lib.hid (fun u hu => scC_one [(nm, x1, x2)] u (by simpa using hu))
      go_wp2_with fail
      try rw [hw8]
      clear hw8
      refine ⟨HS8.out, ?_⟩
      refine planN_turn ?_
      have hzq : w4.heap.size ≤ w8.heap.size := HK8.out.size
      have hzr : w7.heap.size + 1 ≤ w8.heap.size := by rw [HZ8.out]; exact Nat.le_refl _
      go_wp2_with (first | (at_builtin; refine wpList_append_row _ rfl _ _ 57 rfl w4.heap.size 61 i0 _ 3 32 Tryz.underlying57 hi0 hz0i hz1i hz2i rfl (by omega) (.slice A m cc) m _ rfl HO8.out (w7.heap.size + 1) (some ⟨w7.heap.size, 0, none⟩) 1 1 _ rfl HR8.out (fun h => by cases h) HONE.out (by unfold maxLen; omega) (by omega) hzq ?_; intro v9 w9 ho9 hg9 hv9))
      obtain ⟨A9, c9, hv⟩ := own_shape ho9
      subst hv
      have HS9 := Lib.hid (HCELL.out w9 ((hg9.block xb (by have := HLT7.out; have := HZ8.out; omega) (fun e => by have := HOL.out xb e.symm; omega)).trans (HB8.out.block _ HLT7.out.1)) ((hg9.block db (by have := HLT7.out; have := HZ8.out; omega) (fun e => by have := HOL.out db e.symm; omega)).trans (HB8.out.block _ HLT7.out.2.1)))
      have HK9 : Hid (Kept (fun i => i = db) w4 w9) := Lib.hid (HK8.out.grown hg9 (fun j hj => Or.inr (HOL.out j hj).1))
      have HD9 : Hid (Blk w9 db 59 #[.int .i64 c.slack, .int .i64 c.idle, .int .i64 c.now, .int .i64 c.mark, .slice A m cc]) := Lib.hid ((show Blk w8 db 59 #[.int .i64 c.slack, .int .i64 c.idle, .int .i64 c.now, .int .i64 c.mark, .slice A m cc] from (HB8.out.block _ HD7.out.lt).trans HD7.out).grown hg9 (fun e => by have := HOL.out db e.symm; omega))
      have HO9 : Hid (w9.ownsRow w4.heap.size 61 3 (.slice A9 (m + 1) c9) (m + 1) ((l ++ [(nm, x1, x2)]).flatMap scC)) := Lib.hid (by rw [List.flatMap_append, List.flatMap_singleton]; exact ho9)
      clear ho9 hg9 hv9 HO8 HR8 HB8 HS8 HK8
      refine ⟨HS9.out, ?_⟩
      repeat (first | (refine planN_on _ (by rfl) (fun W hW => by (obtain ⟨y0, y1, y2, y3⟩ := hW; go_simp; try (first | with_reducible rfl | rw [if_neg (by omega)] | rw [if_pos (by omega)]))) ?_; simp only [Act.put, List.setIfInBounds_toArray, List.set_cons_zero, List.set_cons_succ]) | (refine planN_off (by rfl) ?_; simp only [Act.put, List.setIfInBounds_toArray, List.set_cons_zero, List.set_cons_succ]))
      refine planN_last ?_
      obtain ⟨_, _, _, e9⟩ := HS9.out
      have f9 : w9.frozen? ⟨db, 4, none⟩ = false := HD9.out.frozen 4
      have HR10 : Hid (RState b db w4.heap.size c w4 (l ++ [(nm, x1, x2)]) (m + 1) c9 A9 (w9.setCell ⟨db, 4, none⟩ (.slice A9 (m + 1) c9))) := Lib.hid (by
        refine ⟨HD9.out.set_ 4 _, ownsRow_setCell_below HO9.out (by have := HG4.out; show db < _; omega) _, by rw [List.length_append, hst.out.len]; rfl, HMORE.out, HK9.out.setCell (p := ⟨db, 4, none⟩) (Or.inl rfl) _⟩)
      have HKM : Hid (k + 1 = m + 1 + 1) := Lib.hid (by rw [hkm.out])
      clear hst hkm HS9 HK9 HD9 HO9
      go_wp2_with fail
      refine planN_done ?_
      try simp only [Act.put]
      clear e9 f9
      go_wp2_with fail
      go_roundw
      case rel => exact ⟨l ++ [(nm, x1, x2)], m + 1, k + 1, c9, A9, by go_num, HKM, by omega, HR10⟩
      case measure => simp [intOf]; omega
    · obtain rfl : k = n := by omega
      have HLEN : Hid (l.length = m ∧ m + 1 = k) := Lib.hid ⟨hst.out.len, hkm.out.symm⟩
      obtain ⟨c', hc'⟩ : ∃ c' : Ck, ({ c with src := srcFold l } : Ck) = c' := ⟨_, rfl⟩
      have HDT : Hid (DocTo b c' l) := Lib.hid (by rw [← hc']; exact hst.out.to_.src)
      have HSRC : Hid (c'.src = srcFold l) := Lib.hid (by rw [← hc'])
      have HDI : Hid (DocIn wr db db A cc l c') := Lib.hid (by
        obtain ⟨e1, e2, e3⟩ := own_caps hst.out.own
        have hl := hst.out.len
        rw [← hc']
        refine ⟨by rw [hl]; exact hst.out.blk, by rw [hl]; exact RowIn.of_own hst.out.own, fun g o e => ⟨?_, ?_⟩, e2, by rw [hl]; exact e1, Nat.le_refl _, hst.out.to_.src.nums, hst.out.to_.rows.rows⟩
        · have := (e3 g o e).1; have := HG4.out; omega
        · have := (e3 g o e).1; have := HG4.out; omega)
      have HBR : Hid (Below w.heap.size w wr) := Lib.hid (HBW4.out.trans (hst.out.kept.toBelow (fun i hi => by have := HG4.out; omega) HBW4.out.size))
      have HMK : Hid (c'.mark = c.mark) := Lib.hid (by rw [← hc'])
      have HSC : Hid (∀ V, Below wr.heap.size wr V → V.cell? ⟨db, 3, none⟩ = some (.int .i64 c'.mark)) := Lib.hid (fun V hV => (HDI.out.below hV).blk.cell 3)
      have HS0 : Hid (Below wr.heap.size wr wr.drew) := Lib.hid (Go.Proofs.YtobkgkiomapabaaGreatDoor.below_drew (Below.refl _ _))
      have HTL := Lib.hid (tell_any db db cc m A l c' wr.drew HLEN.out.1 (by have := HLEN.out.2; omega) (HDI.out.below HS0.out))
      have HCL : Hid ((cutB 10 b).length = l.length + 2) := Lib.hid (by rw [HN.out, HLEN.out.1, ← HLEN.out.2])
      clear hc' hst hkm
      go_wp2_with fail
      refine wp_plan (fun V => Below wr.heap.size wr V) [(0, false), (1, false), (2, false), (3, false), (4, false), (5, true), (6, false)] (by kernel_rfl) (by kernel_rfl) HS0.out ?_
      simp only [planL, List.getElem?_cons_zero, List.getElem?_cons_succ]
      repeat (first | (refine plan_on _ (by rfl) (fun W hW => by (have y0 := HSC.out W hW; go_simp; try (first | with_reducible rfl | rw [if_neg (by omega)] | rw [if_pos (by omega)]))) ?_; simp only [Act.put, List.setIfInBounds_toArray, List.set_cons_zero, List.set_cons_succ]) | (refine plan_off (by rfl) ?_; simp only [Act.put, List.setIfInBounds_toArray, List.set_cons_zero, List.set_cons_succ]))
      refine plan_turn ?_
      go_wp2_with fail
      refine HTL.out.mono ?_
      rintro e w8 ⟨v, rfl, htd, hb8⟩
      have HTD := Lib.hid htd
      have HB8 : Hid (Below wr.heap.size wr w8) := Lib.hid (HS0.out.trans (hb8.mono HS0.out.size))
      have HBW8 : Hid (Below w.heap.size w w8) := Lib.hid (HBR.out.trans (HB8.out.mono HBR.out.size))
      clear htd hb8 HTL
      go_wp2_with fail
      refine ⟨HB8.out, ?_⟩
      by_cases hmv : c'.mark < v
      · have q0 : decide (c'.mark < v) = true := decide_eq_true hmv
        have HNO : Hid (∀ c l, ¬ CodeOf b c l) := Lib.hid (fun c0 l0 h0 => by
          obtain rfl := HDT.out.same HCL.out HSRC.out c0 l0 h0
          exact tells_no HTD.out HDT.out.nums hmv h0.1.told)
        clear hmv
        repeat (first | (refine plan_on _ (by rfl) (fun W hW => by (have y0 := HSC.out W hW; go_simp; try (first | with_reducible rfl | rw [if_neg (by omega)] | rw [if_pos (by omega)]))) ?_; simp only [Act.put, List.setIfInBounds_toArray, List.set_cons_zero, List.set_cons_succ]) | (refine plan_off (by rfl) ?_; simp only [Act.put, List.setIfInBounds_toArray, List.set_cons_zero, List.set_cons_succ]))
        refine plan_done ?_
        go_wp2_with fail
        go_ret
        exact ⟨HBW8.out, Or.inr ⟨rfl, HNO.out⟩⟩
      · have q0 : decide (c'.mark < v) = false := decide_eq_false hmv
        have HFIN : Hid (RDecPost b w (.returned (.pointer (some ⟨db, 0, none⟩))) w8) := Lib.hid (by
          obtain ⟨h1, h2⟩ := HDT.out.done HCL.out (by have := HXL.out; rw [HLEN.out.1, HLEN.out.2]; exact this) HSRC.out (tells_yes HTD.out HDT.out.nums hmv)
          have hg := HG4.out
          exact ⟨HBW8.out, Or.inl ⟨db, db, m, c', l, rfl, by omega, ⟨A, cc, l, by rw [HLEN.out.1]; exact Nat.le_refl _, HDI.out.below HB8.out⟩, by have := HLEN.out.2; omega, h1, h2⟩⟩)
        clear hmv
        repeat (first | (refine plan_on _ (by rfl) (fun W hW => by (have y0 := HSC.out W hW; go_simp; try (first | with_reducible rfl | rw [if_neg (by omega)] | rw [if_pos (by omega)]))) ?_; simp only [Act.put, List.setIfInBounds_toArray, List.set_cons_zero, List.set_cons_succ]) | (refine plan_off (by rfl) ?_; simp only [Act.put, List.setIfInBounds_toArray, List.set_cons_zero, List.set_cons_succ]))
        refine plan_done ?_
        go_wp2_with fail
        go_ret
        exact HFIN.out
end Go.Proofs.YtobkgkiomapabaaGreatDoor
